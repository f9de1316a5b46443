/- A part of the proof. -/
import Derived.Test.YtilpiopkekkbiaaGreatDoorPp1
import Derived.LoopN
import Derived.Defers
import Derived.Scope
import Derived.Orders
import Derived.IntWalk
set_option linter.unusedVariables false
set_option linter.unusedSimpArgs false
set_option linter.unnecessarySimpa false
set_option linter.unusedSectionVars false
noncomputable section
open Go.IntKind (i64)
namespace Go.Proofs.YtilpiopkekkbiaaGreatDoor
open Go.RowKit
variable {g:FuncId} {args cs L es:bZZ} {I:TI} {s:fP}
mutual
def PV.blw (m:Nat):PV->Bool
 | .ptr i _=>decide (i<m)
 | .dA _ i=>decide (i<m)
 | .slh i _ _ _=>decide (i<m)
 | .func _ f c=>PV.blws m f&&PV.blws m c
 | .agg cs=>PV.blws m cs
 | .tuple cs=>PV.blws m cs
 | _=>true
def PV.blws (m:Nat):bZZ->Bool
 | []=>true
 | p::ps=>p.blw m&&PV.blws m ps
end
section
variable {M:Mem} {B:aP}
mutual
theorem aTW (m:Nat):∀ p:PV,p.blw m=true->bC M B p=bC M (B.take m) p
 | .int _ _,_=>by simp only[bC]
 | .bool _,_=>by simp only[bC]
 | .str _,_=>by simp only[bC]
 | .nilp,_=>by simp only[bC]
 | .raw _,_=>by simp only[bC]
 | .ptr i _,h=>by
  have:(B.take m)[i]? = B[i]? := by rw[mV,aX (by simpa[PV.blw] using h)]
  simp only[bC,this]
 | .dA _ i,h=>by
  have:(B.take m)[i]? = B[i]? := by rw[mV,aX (by simpa[PV.blw] using h)]
  simp only[bC,this]
 | .slh i _ _ _,h=>by
  have:(B.take m)[i]? = B[i]? := by rw[mV,aX (by simpa[PV.blw] using h)]
  simp only[bC,this]
 | .cst e,_=>by simp only[bC]
 | .dC _,_=>by simp only[bC]
 | .gX _ _ _ _,_=>by simp only[bC]
 | .mp _,_=>by simp only[bC]
 | .sl _ _ es,_=>by simp only[bC]
 | .func _ f c,h=>by simp only[PV.blw,bI] at h;simp only[bC,QL m f h.1,QL m c h.2]
 | .agg cs,h=>by simp only[bC,QL m cs (by simpa[PV.blw] using h)]
 | .tuple cs,h=>by simp only[bC,QL m cs (by simpa[PV.blw] using h)]
theorem QL (m:Nat):∀ ps:bZZ,PV.blws m ps=true->iI M B ps=iI M (B.take m) ps
 | [],_=>by simp only[iI]
 | p::ps,h=>by simp only[PV.blws,bI] at h;simp only[iI,aTW m p h.1,QL m ps h.2]
end
theorem Rep.blw {m:Nat} {p:PV} {v:Value} (hf:p.blw m=true) (h:Rep M B p v):Rep M (B.take m) p v:=by grind [Rep,aTW]
theorem ay.blw {m:Nat} {ps:bZZ} {vs:List Value} (hf:PV.blws m ps=true) (h:ay M B ps vs):ay M (B.take m) ps vs:=by grind [ay,QL]
theorem YA {m:Nat}:∀ {ps:bZZ},PV.blws m ps=true↔∀ p,p∈ps->p.blw m=true
 | []=>by simp[PV.blws]
 | p::ps=>by simp[PV.blws,YA]
mutual
theorem aI3 (m:Nat):∀ p:PV,p.flat=true->p.blw m=true
 | .int _ _,_=>rfl
 | .bool _,_=>rfl
 | .str _,_=>rfl
 | .nilp,_=>rfl
 | .raw _,_=>rfl
 | .ptr i _,h=>by simp[PV.flat] at h
 | .dA _ i,h=>by simp[PV.flat] at h
 | .slh i _ _ _,h=>by simp[PV.flat] at h
 | .cst e,_=>by simp only[PV.blw]
 | .dC _,_=>by simp only[PV.blw]
 | .gX _ _ _ _,_=>by simp only[PV.blw]
 | .mp _,_=>by simp only[PV.blw]
 | .sl _ _ es,_=>by simp only[PV.blw]
 | .func _ f c,h=>by simp only[PV.flat,bI] at h;simp only[PV.blw,TK m f h.1,TK m c h.2,JG]
 | .agg cs,h=>by simp only[PV.blw]; exact TK m cs (by simpa[PV.flat] using h)
 | .tuple cs,h=>by simp only[PV.blw]; exact TK m cs (by simpa[PV.flat] using h)
theorem TK (m:Nat):∀ ps:bZZ,PV.flats ps=true->PV.blws m ps=true
 | [],_=>rfl
 | p::ps,h=>by simp only[PV.flats,bI] at h;simp only[PV.blws,aI3 m p h.1,TK m ps h.2,JG]
end
end
def AL (m:Nat) (h:aG):Bool:=h.all fun o=>match o with | some cs=>PV.blws m cs | none=>true
def zf (M:Mem) (w:World):Prop:=∀ (b o:Nat) (v:Value),M b o=some v->w.cell? ⟨b,o,none⟩=some v/\v.oneCell'=true
structure Post (h:aG) (B:aP) (out:Nat->Nat) (M:Mem) (w:World) (r:PV) (h':aG) (v:Value) (M':Mem) (B':aP) (w':World):Prop where
 mem:zf M' w'
 le:dH M M' B B'
 fr:Fr (aT w h B) M w M' w'
 heap:qf M' B' w' h'
 rep:Rep M' B' r v
 tl:Tl M' w' r v
 own:∀ b,b<w.heap.size->aT w' h' B' b+bT r v b<=aT w h B b
 cnt:∀ b,aT w' h' B' b+bT r v b+out b<=1
 new:∀ b,w'.heap.size<=b->aT w' h' B' b+bT r v b+out b=0
def callable (P:Program) (g:FuncId):Bool:=match P.funcs[g]? with | some fn=>fn.name != "runtime.NumGoroutine" && fn.body.isSome | none=>false
abbrev CP:=FuncId->Array Value->World->(Ending->World->Prop)->Prop
def sQ (P:Program) (cp:CP) (g:FuncId) (args:bZZ) (h:aG) (r:PV) (h':aG):Prop :=
 callable P g=true/\∀ (out:Nat->Nat) (M:Mem) (B:aP) (w:World) (vals:Array Value),zf M w->qf M B w h->(∀ b,aT w h B b+out b<=1)->(∀ b,w.heap.size<=b->aT w h B b+out b=0) ->
  ay M B args vals.toList->cp g vals w fun e w'=>∃ v M' B',e = .returned v/\Post h B out M w r h' v M' B' w'
def Ev (P:Program) (g:FuncId) (args:bZZ) (h:aG) (r:PV) (h':aG):Prop:=sQ P (Calls P) g args h r h'
def RI (cp:CP):Prop:=∀ ⦃g:FuncId⦄ ⦃vals:Array Value⦄ ⦃w:World⦄ ⦃R R':Ending->World->Prop⦄,cp g vals w R->(∀ e w',R e w'->R' e w')->cp g vals w R'
theorem a5N (P:Program):RI (Calls P):=fun _ _ _ _ _ h k=>h.mono k
def CD (P:Program):CP:=fun g vals w R=>CallsD P g vals .returning w fun e u' w'=>u' = .returning/\R e w'
theorem aGI (P:Program):RI (CD P):=fun _ _ _ _ _ h k=>CallsD.mono h fun _ _ _ hh=>⟨hh.1,k _ _ hh.2⟩
theorem Ev.frame' {P:Program} {r:PV} (h:Ev P g args [] r []) (hr:r.flat=true) (ha:PV.flats args=true) (hh:aG):Ev P g args hh r hh:=by
 refine ⟨h.1,fun out M B w vals hmem hheap hcnt hnew hv => ?_⟩;have h0:∀ w b,aT w [] [] b=0:=fun w b=>by simp[aT]
 refine (h.2 (fun b=>out b+aT w hh B b) M [] w vals hmem ⟨rfl,fun i cs hi=>by simp at hi⟩ (fun b=>by rw[h0]; have:=hcnt b; omega) (fun b hb=>by rw[h0]; have:=hnew b hb; omega) (ay.flat [] ha hv)).mono fun e w' he => ?_
 obtain ⟨v,M',B',rfl,hP⟩:=he;have hB':B' = []:=lJ (by have:=hP.heap.1; simp_all);subst hB';have hun:∀ b,b<w.heap.size->w'.heap[b]? = w.heap[b]? /\ ∀ o,M' b o=M b o:=fun b hb=>hP.fr.blk b hb (h0 w b)
 have hlt:∀ b,1<=aT w hh B b->b<w.heap.size:=fun b hb=>by grind
 have Dy:∀ (i:Nat) cs c,hh[i]? = some (some cs)->B[i]? = some c->1<=aT w hh B c.1:=fun i cs c h1 h2=>by have:=kX (w:=w) c.1 h1 h2;grind
 have hle:dH M M' B B:=⟨hP.le.mem,fun _ _ h=>h⟩;have hfp:∀ b,aT w' hh B b=aT w hh B b:=fun b=>Fe b fun i cs c h1 h2=>OB (hun c.1 (hlt _ (Dy i cs c h1 h2))).1
 refine ⟨v,M',B,rfl,hP.mem,hle,hP.fr.mono fun b hb _=>h0 w b,⟨hheap.1,fun i cs hi => ?_⟩,hP.rep.flat B hr,hP.tl,fun b hb => ?_,fun b => ?_,fun b hb => ?_⟩
 .obtain ⟨c,hc,vs,ty,h1,h2,h3,h4,h5⟩:=hheap.2 i cs hi;have hcb:=hun c.1 (hlt _ (Dy i cs c hi hc));refine ⟨c,hc,vs,ty,by rw[Lm hcb.1,h1],h2,h3,fun j p hj => ?_,fun o=>by rw[hcb.2]; exact h5 o⟩;obtain ⟨v,hv,hr,hT,hone⟩:=h4 j p hj;refine ⟨v,hv,hr.mono hle,hT.kept fun b ho=>hun b (hlt b ?_),hone⟩;have e1:=kX (w:=w) b hi hc;have e2:=xU b hj (by rw[qj h1]; grind:(gy w c.1)[j]? = some v);omega
 .have:=hP.own b hb; rw[h0,h0] at this; rw[hfp]; omega
 .have:=hP.cnt b; rw[hfp]; omega
 .have:=hP.new b hb; rw[hfp]; omega
def AY (ops:Array Oper) (Z:ASt) (j:Nat):Option (Option Bool) :=
 match (ops[j]?).bind (·.dst) with
 | none=>some none
 | some d=>match bZ d Z.s with
  | some (.bool b)=>some (some b)
  | some (.tuple [])=>some none
  | _=>none
def jE (E:AE) (dst:Option Nat) (p:PV) (Z:ASt) (K:ASt->Prop):Prop:=match ASt.put E dst p Z with | some Z'=>K Z' | none=>False
def yY (E:AE) (o:Oper) (K:ASt->Prop) (Z:ASt):Prop :=
 match bY E o Z with
 | some (p,Z1)=>jg E o Z/\jE E o.dst p Z1 K
 | none=>False
def aA4 (E:AE) (o:Oper) (Z:ASt):Option (bZZ×Bool):=match o.op with
 | .binOp op t x (.const (.slice none 0 0)) _=>(match E.P.underlying t,Z.rd x,op with
  | some (.slice _),some (.sl _ _ es),.eql=>some (es,true)
  | some (.slice _),some (.sl _ _ es),.neq=>some (es,false)
  | _,_,_=>none)
 | _=>none
def VE (E:AE) (o:Oper) (K:ASt->Prop) (Z:ASt):Prop:=match aA4 E o Z with
 | some (es,pos)=>∀ b:Bool,(b=true->es = [])->jE E o.dst (.bool (b==pos)) Z K
 | none=>False
def QY (E:AE) (o:Oper) (K:ASt->Prop) (Z:ASt):Prop:=yY E o K Z\/VE E o K Z
def SV (E:AE) (g:FuncId) (args:bZZ) (dst:Option Nat) (K:ASt->Prop) (Z:ASt):Prop:=∃ r h',Ev E.P g args Z.h r h'/\jE E dst r { Z with h:=h' } K
def xG (E:AE) (o:Oper) (K:ASt->Prop) (Z:ASt):Prop :=
 match o.op with
 | .call c=>match c.callee with
  | .value f=>(match Z.rd f,ji (c.args.toList.map Z.rd) with
   | some (.func (.func g) first caps),some az=>SV E g (first ++ az ++ caps) o.dst K Z
   | _,_=>False)
  | _=>QY E o K Z
 | _=>QY E o K Z
def lQ (E:AE) (ops:Array Oper):List Oper->(ASt->Prop)->ASt->Prop
 | [],Q,Z=>Q Z
 | o::l,Q,Z =>
  match o.guard with
  | none=>xG E o (lQ E ops l Q) Z
  | some (j,want)=>match AY ops Z j with
   | some none=>jE E o.dst (.tuple []) Z (lQ E ops l Q)
   | some (some b)=>(b=want->xG E o (lQ E ops l Q) Z)/\(b≠want->jE E o.dst (.tuple []) Z (lQ E ops l Q))
   | none=>False
section
variable {out:Nat->Nat} {M:Mem} {B:aP} {Z:ASt} {a:Act} {w:World} {E:AE} {o:Oper}
theorem aUT (hI:Inv E.n M B out Z a.tmps w) {K:ASt->Prop} (h:yY E o K Z) {K':Act->World->Prop} {Q:Exit->Act->World->Prop}
 (hK:∀ v Z' M' B' w',K Z'->Good E.n out M B Z a.tmps w M' B' Z' (a.put o.dst v).tmps w'->K' (a.put o.dst v) w'):o.wp E.P a w K' Q:=by
 unfold yY at h;split at h
 .rename_i p Z1 hs;obtain ⟨hside,hp⟩:=h;unfold jE at hp;split at hp
  .rename_i Z' hput;obtain ⟨v,w',M',B',h1,h2⟩:=bSZ hI hs hside;have hG:=h2.put hput;unfold Oper.wp;rcases h1 with h1 | ⟨h1,hd⟩
   grind [Oper.upon_value]
   .rw[h1,Oper.upon_skip];have:a.put o.dst undef=a.put o.dst v:=by rw[hd]; rfl
    grind
  simp_all
 simp_all
theorem bMX (hI:Inv E.n M B out Z a.tmps w) {K:ASt->Prop} (h:VE E o K Z) {K':Act->World->Prop} {Q:Exit->Act->World->Prop}
 (hK:∀ v Z' M' B' w',K Z'->Good E.n out M B Z a.tmps w M' B' Z' (a.put o.dst v).tmps w'->K' (a.put o.dst v) w'):o.wp E.P a w K' Q:=by
 obtain ⟨dst,op,type,pos,after,guard⟩:=o;unfold VE at h;split at h
 case h_2=>exact h.elim
 rename_i es ps hc;unfold aA4 at hc;simp only at hc;split at hc
 case h_2=>cases hc
 rename_i YD t x yt;have key:∀ e,E.P.underlying t=some (.slice e)->∀ ow z,Z.rd x=some (.sl ow z es)->∃ b:Bool,(b=true->es = [])/\(Op.equal t (a.eval x) (.slice none 0 0)).run E.P w = .ok b w/\∃ A n c,a.eval x = .slice A n c:=by
  intro e hu ow z hx;obtain ⟨A,cap,hv,hle,hs,hz,hA⟩:=jR.1 (hI.rd x _ hx).1;refine ⟨A.isNone,fun hn => ?_,?_,A,_,cap,hv⟩;simp_all
  .rw[hv];refine Jn fun d => ?_
   rw[Op.equalIn,mX,fG hu w];cases A<;>rfl
 have fin:∀ (r:Bool),(execOp a.eval ⟨dst,.binOp YD t x (.const (.slice none 0 0)) yt,type,pos,after,guard⟩).run E.P w = .ok (.value (.bool r)) w->jE E dst (.bool r) Z K->Oper.wp E.P ⟨dst,.binOp YD t x (.const (.slice none 0 0)) yt,type,pos,after,guard⟩ a w K' Q:=by
  intro r hr hp;unfold jE at hp;split at hp
  .rename_i Z' hput;have hG:=(Pre.plain hI (kE.2 rfl) (fun b=>dP rfl _ _) (fJ rfl)).put hput;grind [Oper.wp,Oper.upon_value]
  simp_all
 split at hc
 .rename_i e ow z es' hu hx;cases hc;obtain ⟨b,hb,he,A,n,c,hv⟩:=key e hu ow z hx;refine fin b ?_ (by have:=h b hb; simp_all);refine wF (s:=do eqGuard .eql t x (.const (.slice none 0 0)) (a.eval x) (.slice none 0 0); binOp .eql t (a.eval x) (.slice none 0 0)) rfl ?_;rw[mX,hv,Df ⟨by simp,by simp⟩ w];rw[hv] at he;have:binOp .eql t (.slice A n c) (.slice none 0 0)=(do pure (.bool (<- Op.equal t (.slice A n c) (.slice none 0 0)))):=rfl;rw[this]; simp[he]
 .rename_i e ow z es' hu hx;cases hc;obtain ⟨b,hb,he,A,n,c,hv⟩:=key e hu ow z hx;refine fin (!b) ?_ (by have:=h b hb; simp_all);refine wF (s:=do eqGuard .neq t x (.const (.slice none 0 0)) (a.eval x) (.slice none 0 0); binOp .neq t (a.eval x) (.slice none 0 0)) rfl ?_;rw[mX,hv,Df ⟨by simp,by simp⟩ w];rw[hv] at he;have:binOp .neq t (.slice A n c) (.slice none 0 0)=(do pure (.bool (!(<- Op.equal t (.slice A n c) (.slice none 0 0))))):=rfl;rw[this]; simp[he]
 .cases hc
theorem aUV (hI:Inv E.n M B out Z a.tmps w) {K:ASt->Prop} (h:QY E o K Z) {K':Act->World->Prop} {Q:Exit->Act->World->Prop}
 (hK:∀ v Z' M' B' w',K Z'->Good E.n out M B Z a.tmps w M' B' Z' (a.put o.dst v).tmps w'->K' (a.put o.dst v) w'):o.wp E.P a w K' Q:=by
 rcases h with h | h
 grind [aUT]
 grind [bMX]
theorem aGA {cp:CP} (hm:RI cp) (hI:Inv E.n M B out Z a.tmps w) {vals:Array Value} (hv:ay M B args vals.toList) {r:PV} {h':aG} (hE:sQ E.P cp g args Z.h r h') {dst:Option Nat} {Z':ASt} (hp:ASt.put E dst r { Z with h:=h' }=some Z') 
 {R:Ending->World->Prop} (hK:∀ v M' B' w',Good E.n out M B Z a.tmps w M' B' Z' (a.put dst v).tmps w'->R (.returned v) w'):cp g vals w R:=by
 obtain ⟨_,hE⟩:=hE;have hc:=hE (fun b=>out b+ik Z.s a.tmps b) M B w vals hI.mem hI.heap (fun b=>by have:=hI.cnt b; grind [fp]) (fun b hb=>by have:=hI.new b hb; grind [fp]) hv;refine hm hc fun e w' he => ?_
 obtain ⟨v,M',B',rfl,hP⟩:=he;refine hK v M' B' w' ?_;have hpre:Pre E.n out M B Z a.tmps w M' B' { Z with h:=h' } w' r v:=by
  refine ⟨⟨hI.size,hP.mem,hI.iC,fun k p hk => ?_,hP.heap,fun b => ?_,fun b hb => ?_⟩,hP.le,?_,fun b hb => ?_,hP.rep,hP.tl,fun b => ?_,fun b hb => ?_⟩
  .obtain ⟨s1,s2,s3⟩:=hI.slots k p hk;refine ⟨s1,s2.mono hP.le,s3.kept fun b hb => ?_⟩;have e1:=EN (s:=Z.s) (t:=a.tmps) (k:=k) (b:=b);simp only[pg,hk] at e1;have e2:=hI.cnt b;simp only[fp] at e2;exact hP.fr.blk b (Q8 hI (by simp only[fp]; omega)) (by omega)
  .have:=hP.cnt b; simp only[fp]; omega
  .have:=hP.new b hb; simp only[fp]; omega
  .exact hP.fr.mono fun b hb h0=>by grind [fp]
  .have:=hP.own b hb; simp only[fp]; omega
  .have:=hP.cnt b; simp only[fp]; omega
  .have:=hP.new b hb; omega
 exact hpre.put hp
theorem aZG (hI:Inv E.n M B out Z a.tmps w) {vals:Array Value} (hv:ay M B args vals.toList) {r:PV} {h':aG} (hE:Ev E.P g args Z.h r h') {dst:Option Nat} {Z':ASt} (hp:ASt.put E dst r { Z with h:=h' }=some Z') 
 {R:Ending->World->Prop} (hK:∀ v M' B' w',Good E.n out M B Z a.tmps w M' B' Z' (a.put dst v).tmps w'->R (.returned v) w'):Calls E.P g vals w R:=aGA (a5N E.P) hI hv hE hp hK
theorem Y3 (hI:Inv E.n M B out Z a.tmps w) {K:ASt->Prop} (h:xG E o K Z) {K':Act->World->Prop} {Q:Exit->Act->World->Prop}
 (hK:∀ v Z' M' B' w',K Z'->Good E.n out M B Z a.tmps w M' B' Z' (a.put o.dst v).tmps w'->K' (a.put o.dst v) w'):o.wp E.P a w K' Q:=by
 unfold xG at h;split at h
 .rename_i c hop;split at h
  .rename_i f hf;split at h
   .rename_i g first caps az hfun has
    obtain ⟨r,h',hE,hp⟩:=h;unfold jE at hp;split at hp
    .rename_i Z' hput;obtain ⟨f',c',e1,r1,r2⟩:=zn.1 (hI.rd _ _ hfun).1;obtain ⟨ra,_⟩:=Ld hI.rd has;have hcall:=hE.1;unfold callable at hcall;split at hcall
     .rename_i fn hfn;unfold Oper.wp;have hrun:(execOp a.eval o).run E.P w = .ok (.enter g (f' ++ c.args.map a.eval ++ c')) w:=by
       obtain ⟨callee,YL,cts⟩:=c;subst hf;unfold execOp;rw[hop];simp only[resolve,e1,Deferred.ofValue,mX,JR,wZ,invoke,callFunc,run_program];have hnb:fn.body.isNone=false:=by cases hb:fn.body<;>simp[hb] at hcall ⊢
       grind [Sem.run_pure]
      rw[hrun];refine aZG hI ?_ hE hput fun v M' B' w' hG=>hK v Z' M' B' w' hp hG
      simpa using ER (ER r1 ra) r2
     grind
    simp_all
   simp_all
  grind [aUV]
 grind [aUV]
theorem P6 (hI:Inv E.n M B out Z a.tmps w) {ops:Array Oper} {j:Nat} {x:Option Bool} (h:AY ops Z j=some x):yielded ops a.tmps j=x:=by
 unfold AY at h;unfold yielded;split at h
 grind
 .rename_i d hd;split at h
  .rename_i b hb;obtain ⟨h1,h2,_⟩:=hI.slots _ _ hb;have:=kE.1 h2;have hlt:d<a.tmps.size:=by rw[hI.size]; exact h1
   simp_all
  .rename_i hb;obtain ⟨h1,h2,_⟩:=hI.slots _ _ hb;obtain ⟨vs,h3,h4⟩:=tq.1 h2;have hlt:d<a.tmps.size:=by rw[hI.size]; exact h1
   simp_all
  .cases h
theorem Act.Fp (a:Act) (d:Option Nat) (v:Value):(a.put d v).defers=a.defers:=by cases d<;>rfl
theorem a3H (hI:Inv E.n M B out Z a.tmps w) {dst:Option Nat} {Z':ASt} (h:ASt.put E dst (.tuple []) Z=some Z'):Good E.n out M B Z a.tmps w M B Z' (a.put dst undef).tmps w :=(Pre.plain hI (tq.2 ⟨#[],rfl,dW.2 rfl⟩) (fun b=>dP rfl _ _) (fJ rfl)).put h
theorem SG {ops:Array Oper} {Q:Exit->Act->World->Prop}:∀ (l:List Oper) {M:Mem} {B:aP} {Z:ASt} {a:Act} {w:World} {K:ASt->Prop},Inv E.n M B out Z a.tmps w->lQ E ops l K Z ->
 (∀ Z' M' B' a' w',K Z'->Good E.n out M B Z a.tmps w M' B' Z' a'.tmps w'->a'.defers=a.defers->Q .normal a' w')->wpList E.P ops Q l a w
 | [],M,B,Z,a,w,K,hI,h,hQ=>hQ Z M B a w h (Good.refl hI) rfl
 | o::l,M,B,Z,a,w,K,hI,h,hQ=>by
  have run:xG E o (lQ E ops l K) Z->o.wp E.P a w (wpList E.P ops Q l) Q:=fun h =>Y3 hI h fun v Z' M' B' w' hK hG=>SG l hG.inv hK fun Z2 M2 B2 a2 w2 hk hG2 hd=>hQ Z2 M2 B2 a2 w2 hk (hG.trans hG2) (by rw[hd,Act.Fp])
  have skip:jE E o.dst (.tuple []) Z (lQ E ops l K)->wpList E.P ops Q l (a.put o.dst undef) w:=fun h=>by
   unfold jE at h;split at h
   .rename_i Z' hp;have hG:=a3H hI hp;exact SG l hG.inv h fun Z2 M2 B2 a2 w2 hk hG2 hd=>hQ Z2 M2 B2 a2 w2 hk (hG.trans hG2) (by rw[hd,Act.Fp])
   simp_all
  rw[lQ] at h;grind [wpList,Region.wanted,P6]
theorem a5G {ops:Array Oper} {Q:Exit->Act->World->Prop} {rest:List Oper}:∀ (l:List Oper) {M:Mem} {B:aP} {Z:ASt} {a:Act} {w:World} {K:ASt->Prop},Inv E.n M B out Z a.tmps w->lQ E ops l K Z ->
 (∀ Z' M' B' a' w',K Z'->Good E.n out M B Z a.tmps w M' B' Z' a'.tmps w'->a'.defers=a.defers->wpList E.P ops Q rest a' w')->wpList E.P ops Q (l ++ rest) a w
 | [],M,B,Z,a,w,K,hI,h,hQ=>hQ Z M B a w h (Good.refl hI) rfl
 | o::l,M,B,Z,a,w,K,hI,h,hQ=>by
  have run:xG E o (lQ E ops l K) Z->o.wp E.P a w (wpList E.P ops Q (l ++ rest)) Q:=fun h =>Y3 hI h fun v Z' M' B' w' hK hG=>a5G l hG.inv hK fun Z2 M2 B2 a2 w2 hk hG2 hd=>hQ Z2 M2 B2 a2 w2 hk (hG.trans hG2) (by rw[hd,Act.Fp])
  have skip:jE E o.dst (.tuple []) Z (lQ E ops l K)->wpList E.P ops Q (l ++ rest) (a.put o.dst undef) w:=fun h=>by
   unfold jE at h;split at h
   .rename_i Z' hp;have hG:=a3H hI hp;exact a5G l hG.inv h fun Z2 M2 B2 a2 w2 hk hG2 hd=>hQ Z2 M2 B2 a2 w2 hk (hG.trans hG2) (by rw[hd,Act.Fp])
   simp_all
  rw[lQ] at h;grind [wpList,Region.wanted,P6]
end
def MC:Operand->Option Nat
 | .tmp t=>some t
 | _=>none
def rV (E:AE) (o:Oper):Option Nat :=
 match o.op with
 | .move x=>if dF E.mv o.dst then MC x else none
 | .assign x=>MC x
 | .store _ _ x=>MC x
 | .call c=>match c.callee with
  | .builtin .append=>(match c.args.toList with | [x,_]=>MC x | _=>none)
  | _=>none
 | _=>none
def Lj (E:AE):Bool:=E.ln.any fun k=>Nat.ble 1000000 k
def ET (E:AE) (H H':aG):Prop:=∀ i,dF E.ln (some (1000000+i))=true->H[i]? = H'[i]?
def hk (E:AE) (o:Oper):Nat :=
 match o.op with
 | .load _ _=>if dF E.ln o.dst then (if Lj E then 5 else 0) else if dF E.mv o.dst then 3 else 1
 | .alloc _=>if dF E.ln o.dst then (if Lj E then 6 else 2) else 2
 | .box _ _=>if dF E.fz o.dst then 0 else 2
 | .store _ a _=>if dF E.mu (kW a) then 6 else 2
 | .buildSlice _ _ _=>if dF E.mu o.dst then 2 else 0
 | .makeSlice _ _ _=>if dF E.mu o.dst then 2 else 0
 | .makeMap _ _=>if dF E.ln o.dst then (if Lj E then 6 else 2) else 2
 | .lookup _ _ _ _=>2
 | .mapUpdate _ _ _ _=>2
 | .insert _ m _ _=>if dF E.mu ((kW m).map (6000000 + ·)) then 6 else 2
 | .range _ _=>2
 | .next _ _=>2
 | .call c=>match c.callee with
  | .builtin .clear=>2
  | .builtin .copy=>2
  | .value _=>if dF E.sy o.dst then (if Lj E then 6 else 2) else 0
  | _=>0
 | _=>0
def wB (c:Option Nat) (s:fP):fP :=
 match c with
 | none=>s
 | some t=>match bZ t s with | some p=>iM t p.un s | none=>s
theorem DX (Z:ASt) (x:Operand):(Z.clr x).s=wB (MC x) Z.s/\(Z.clr x).h=Z.h:=by
 cases x with
 | tmp t=>grind [ASt.clr,wB,MC]
 | _=>exact ⟨rfl,rfl⟩
def nY (h:aG):aG:=h.map fun o=>o.map fun cs=>cs.map PV.un
def agree (o:Oper) (s s':fP):Prop:=∀ t,Operand.tmp t∈o.op.operands->bZ t s'=bZ t s
section
variable {E:AE} {o:Oper} {Z Z':ASt}
theorem OH (h:agree o Z.s Z'.s) {x:Operand} (hx:x∈o.op.operands):Z'.ev x=Z.ev x:=by
 cases x with
 | tmp t=>exact h t hx
 | _=>rfl
theorem lW (h:agree o Z.s Z'.s) {x:Operand} (hx:x∈o.op.operands):Z'.rd x=Z.rd x:=by grind [ASt.rd,OH]
theorem Xr {rd rd':Operand->Option PV} {xs:List Operand} (h:∀ x,x∈xs->rd' x=rd x):ji (xs.map rd')=ji (xs.map rd):=by rw[List.map_congr_left h]
theorem aAS {rd rd':Operand->Option PV}:∀ {xs:List (Nat×Operand)},(∀ x,x∈xs.map (·.2)->rd' x=rd x)->uV rd' xs=uV rd xs
 | [],_=>rfl
 | (i,x)::l,h=>by rw[uV,uV,h x (by simp),aAS (fun y hy=>h y (by simp_all))]
theorem aSM {P:Program} {rd rd':Operand->Option PV} {op:Op} (h:∀ x,x∈op.operands->rd' x=rd x):pop P rd' op=pop P rd op:=by
 cases op with
 | call c =>
  obtain ⟨callee,args,ts⟩:=c;have ha:∀ x,x∈args.toList->rd' x=rd x:=fun x hx=>h x (by grind [Op.operands,Call.operands])
  grind [pop,Fg,Xr]
 | makeFunc fn first caps =>
  have h1:∀ x,x∈first.toList->rd' x=rd x:=fun x hx=>h x (by grind [Op.operands])
  have h2:∀ x,x∈caps.toList->rd' x=rd x:=fun x hx=>h x (by grind [Op.operands])
  grind [pop,Xr]
 | build t ps =>
  have:uV rd' ps.toList=uV rd ps.toList:=aAS fun x hx=>h x (by grind [Op.operands])
  simp only[pop,this]
 | slice t x lo hi mx =>
  cases mx with
  | some m =>
   cases lo with
   | none=>simp[pop]
   | some a =>
    cases hi with
    | none=>simp[pop]
    | some b=>grind [pop,Op.operands]
  | none =>
   cases lo with
   | none =>grind [pop,Op.operands]
   | some a =>
    cases hi with
    | none=>grind [pop,Op.operands]
    | some b=>grind [pop,Op.operands]
 | _=>simp_all[pop,Op.operands]
theorem bV7 {h h':aG} (e:nY h'=nY h) {i:Nat} (hi:h[i]? = some (some cs)):∃ cs',h'[i]? = some (some cs')/\cs'.map PV.un=cs.map PV.un:=by
 have h1:=congrArg (·[i]?) e;simp only[nY,lL,hi] at h1;cases hh:h'[i]? with
 | none=>rw[hh] at h1; simp at h1
 | some x =>simp_all
theorem bLN {q p:PV} {Z1:ASt} (h:oP false I q Z=some (p,Z1)) (hh:nY Z'.h=nY Z.h):Z1=Z/\oP false I q Z'=some (p,Z'):=by
 unfold oP at *;cases q with
 | cst e =>simp_all
 | ptr i off =>
  cases hi:Z.h[i]? with
  | none=>grind
  | some x =>
   cases x with
   | none=>grind
   | some cs =>
    obtain ⟨cs',h1,h2⟩:=bV7 hh hi;have hl:cs'.length=cs.length:=by have:=congrArg List.length h2; grind
    simp_all
    .cases hp:cs[off]? with
     | none=>grind
     | some p0 =>have h3:=congrArg (·[off]?) h2;grind
 | _=>simp at h
theorem bV8 {h:aG} {i off:Nat} {p0:PV} (hi:h[i]? = some (some cs)) (hp:cs[off]? = some p0):nY (h.set i (some (cs.set off p0.un)))=nY h:=by
 simp only[nY];apply ND;intro j;rw[lL,lL];by_cases hj:i=j
 .subst hj;rw[zx (iO.1 hi).1,hi];simp only[XI,a4J];apply ND;grind [bVC]
 simp_all
theorem bLM {q p:PV} {Z1:ASt} (h:oP true I q Z=some (p,Z1)):Z1.s=Z.s/\(∀ Z':ASt,Z'.h=Z.h->oP true I q Z'=some (p,⟨Z'.s,Z1.h⟩))/\nY Z1.h=nY Z.h:=by
 have same:∀ Z':ASt,Z'.h=Z.h->(⟨Z'.s,Z.h⟩:ASt)=Z':=fun Z' e=>by cases Z'; simp_all
 unfold oP at *;cases q with
 | cst e =>simp_all
 | ptr i off =>
  cases hi:Z.h[i]? with
  | none=>grind
  | some x =>
   cases x with
   | none=>grind
   | some cs =>grind [bV8]
 | _=>simp at h
theorem bRE {E:AE} {i:Nat} (h:dF E.ln (some (1000000+i))=true):Lj E=true:=by grind [Lj,dF,Nat.ble_eq]
theorem aQB {q:PV} {Z Z1:ASt} {p:PV} (h:oP false I q Z=some (p,Z1)):Z1=Z/\∀ τ:ASt,(∀ i off,q = .ptr i off->τ.h[i]? = Z.h[i]?)->oP false I q τ=some (p,τ):=by
 unfold oP at h ⊢;cases q with
 | cst e =>simp_all
 | ptr i off =>
  simp only at h ⊢;cases hc:Z.h[i]? with
  | none=>rw[hc] at h; cases h
  | some o =>
   rw[hc] at h;cases o with
   | none=>cases h
   | some cs =>grind
 | _=>cases h
theorem aUX {p:PV} {Z1:ASt} (h:bY E o Z=some (p,Z1)) (ha:agree o Z.s Z'.s) (hh:hk E o=0\/Z'.h=Z.h\/(hk E o=1/\nY Z'.h=nY Z.h)) :
 ∃ Z1',bY E o Z'=some (p,Z1')/\Z1.s=wB (rV E o) Z.s/\Z1'.s=wB (rV E o) Z'.s/\((hk E o=0\/hk E o=1)->Z1.h=Z.h/\Z1'.h=Z'.h)/\(Z'.h=Z.h->Z1'.h=Z1.h)/\(hk E o=3->nY Z1.h=nY Z.h):=by
 obtain ⟨dst,op,type,pos,after,guard⟩:=o;cases op with
 | move x =>
  have hx:Z'.ev x=Z.ev x:=OH ha (by simp[Op.operands]);simp only[bY] at h ⊢;split at h
  .rename_i hm;cases he:Z.ev x with
   | none=>grind
   | some q =>grind [DX,rV]
  .rename_i hm;cases he:Z.rd x with
   | none=>grind
   | some q =>
    simp[he] at h; obtain ⟨rfl,rfl⟩:=h;have hr:Z'.rd x=Z.rd x:=lW ha (by simp[Op.operands]);have ht:rV E ⟨dst,.move x,type,pos,after,guard⟩=none:=by simp[rV,hm]
    rw[aV hm,hr,he,ht];exact ⟨_,rfl,rfl,rfl,fun _=>⟨rfl,rfl⟩,fun e=>e,fun _=>rfl⟩
 | assign x =>
  have hx:Z'.ev x=Z.ev x:=OH ha (by simp[Op.operands]);simp only[bY] at h ⊢;cases he:Z.ev x with
  | none=>grind
  | some q =>grind [DX,rV]
 | alloc t =>
  simp only[bY] at h ⊢;have hkn:hk E ⟨dst,.alloc t,type,pos,after,guard⟩≠0/\hk E ⟨dst,.alloc t,type,pos,after,guard⟩≠1/\hk E ⟨dst,.alloc t,type,pos,after,guard⟩≠3:=by simp only[hk]; grind
  have hh':Z'.h=Z.h:=by rcases hh with h | h | h<;>first | exact h | omega | omega
  rw[hh'];split at h
  .cases h
  rename_i hro;cases ht:ti E.P t with
  | none=>grind
  | some I =>simp[ht] at h; obtain ⟨rfl,rfl⟩:=h;exact ⟨⟨Z'.s,Z.h ++ [some (Jh (dF E.mu dst) t Z.h.length I.zero)]⟩,by rfl,rfl,rfl,fun e=>e.elim (fun e=>absurd e hkn.1) (fun e=>absurd e hkn.2.1),fun e=>rfl,fun e=>absurd e hkn.2.2⟩
 | box t x =>
  simp only[bY] at h ⊢;have hr:Z'.rd x=Z.rd x:=lW ha (by simp[Op.operands]);split at h
  .rename_i hm;rw[aX hm];cases hb:(Z.rd x).bind OW with
   | none=>grind
   | some e =>simp[hb] at h; obtain ⟨rfl,rfl⟩:=h;exact ⟨Z',by grind,rfl,rfl,fun _=>⟨rfl,rfl⟩,fun e=>e,fun _=>rfl⟩
  .rename_i hm;rw[aV hm];have hh':Z'.h=Z.h:=by rcases hh with h | h | h<;>first | exact h | (simp[hk,hm] at h)
   cases hb:(Z.rd x).bind PV.newCells with
   | none=>grind
   | some cs =>simp[hb] at h; obtain ⟨rfl,rfl⟩:=h;exact ⟨⟨Z'.s,Z'.h ++ [some cs]⟩,by simp_all,rfl,rfl,fun e=>by simp[hk,hm] at e,fun e=>by simp[e],fun e=>by simp[hk,hm] at e⟩
 | load t x =>
  simp only[bY] at h ⊢;have hr:Z'.rd x=Z.rd x:=lW ha (by simp[Op.operands]);rw[hr];cases hI:ti E.P t with
  | none=>grind
  | some I =>
   cases hq:Z.rd x with
   | none=>simp_all
   | some q =>
    simp only[hI,hq] at h ⊢;cases hln:dF E.ln dst with
    | true =>
     rw[hln] at h;simp only at h ⊢;split at h
     .rename_i hok;have hp:=aQB h;refine ⟨Z',?_,by rw[hp.1]; rfl,rfl,fun _=>⟨by rw[hp.1],rfl⟩,fun e=>by rw[hp.1]; exact e,fun e=>by simp_all⟩;refine hp.2 Z' ?_;cases q with
      | ptr i off =>
       have hm:dF E.ln (some (1000000+i))=true:=hok;have hro:Lj E=true:=bRE hm;have hne:hk E ⟨dst,.load t x,type,pos,after,guard⟩=5:=by simp only[hk,hln,BD,hro]
       simp_all
      | _=>intro j o' e; cases e
     .cases h
    | false =>
    rw[hln] at h;simp only at h ⊢;cases hm:dF E.mv dst with
    | false =>
     rw[hm] at h;have hun:nY Z'.h=nY Z.h:=by
      rcases hh with h | h | h
      .simp[hk,hln,hm] at h
      .rw[h]
      .exact h.2
     obtain ⟨rfl,h2⟩:=bLN h hun;exact ⟨Z',h2,rfl,rfl,fun _=>⟨rfl,rfl⟩,fun e=>e,fun e=>by rfl⟩
    | true =>
     rw[hm] at h;have hh':Z'.h=Z.h:=by rcases hh with h | h | h<;>first | exact h | (simp[hk,hln,hm] at h)
     obtain ⟨k1,k2,k3⟩:=bLM h;exact ⟨⟨Z'.s,Z1.h⟩,k2 Z' hh',k1,rfl,fun e=>by simp[hk,hln,hm] at e,fun _=>rfl,fun _=>k3⟩
 | store t x y =>
  simp only[bY] at h ⊢;have bXN:hk E ⟨dst,.store t x y,type,pos,after,guard⟩=2\/hk E ⟨dst,.store t x y,type,pos,after,guard⟩=6:=by simp only[hk];simp
  have hh':Z'.h=Z.h:=by rcases hh with h | h | h<;>first | exact h | omega | (exfalso; have:=h.1; omega)
  have hr:Z'.rd x=Z.rd x:=lW ha (by simp[Op.operands]);have hy:Z'.ev y=Z.ev y:=OH ha (by simp[Op.operands]);have c1:=DX Z y;have c2:=DX Z' y;have ht:rV E ⟨dst,.store t x y,type,pos,after,guard⟩=MC y:=rfl;rw[hr,hy];cases hso:QX E.mu E.ln (kW x) (Z.rd x) with
  | false=>rw[hso] at h; cases h
  | true =>
  rw[hso] at h;simp only at h ⊢;cases hI:ti E.P t with
  | none=>grind
  | some I =>
   cases hq:Z.rd x with
   | none=>simp_all
   | some q =>
    cases hp:Z.ev y with
    | none=>simp_all
    | some p' =>
     cases dst with
     | some d=>simp_all
     | none =>
      simp only[hI,hq,hp] at h ⊢;have key:∀ τ:ASt,τ.h=Z.h->∀ τ1,yZ I q p' τ=some τ1->τ1.s=τ.s/\∀ τ':ASt,τ'.h=Z.h->yZ I q p' τ'=some ⟨τ'.s,τ1.h⟩:=by
       intro τ hτ τ1 h1;unfold yZ at h1 ⊢;cases q with
       | ptr i off =>
        simp only[hτ] at h1;split at h1
        grind
        .cases h1
       | _=>simp at h1
      cases hst:yZ I q p' (Z.clr y) with
      | none=>simp_all
      | some τ1 =>simp[hst] at h; obtain ⟨rfl,rfl⟩:=h;obtain ⟨k1,k2⟩:=key (Z.clr y) c1.2 τ1 hst;have k3:=k2 (Z'.clr y) (by rw[c2.2,hh']);refine ⟨⟨(Z'.clr y).s,τ1.h⟩,by rw[k3]; rfl,by rw[k1,ht]; exact c1.1,by rw[ht]; exact c2.1,fun e=>by omega,fun _=>rfl,fun e=>by omega⟩
 | buildSlice t len ps =>
  have hp:∀ zs,uV (Z'.rdT zs) ps.toList=uV (Z.rdT zs) ps.toList:=fun zs=>aAS fun x hx=>by grind [ASt.rdT,lW,Op.operands]
  simp only[bY,hp] at h ⊢;cases hT:jl E.P t with
  | none=>grind
  | some I =>
   cases hq:uV (Z.rdT (elT E.P t)) ps.toList with
   | none=>simp_all
   | some qs =>
    simp only[hT,hq] at h ⊢;cases he:DZ I.size 0 qs with
    | none=>grind
    | some es =>
     simp only[he] at h ⊢;split at h
     .rename_i hc;rw[aX hc];split at h
      .rename_i hm;have hh':Z'.h=Z.h:=by rcases hh with h | h | h<;>first | exact h | (simp[hk,hm] at h)
       cases h;rw[aX hm];exact ⟨⟨Z'.s,Z'.h ++ [some (eu es)]⟩,by simp[hh'],rfl,rfl,fun e=>by simp[hk,hm] at e,fun e=>by simp[e],fun e=>by simp[hk,hm] at e⟩
      .rename_i hm;rw[aV hm];split at h
       .split at h
        .cases h;exact ⟨Z',by simp_all,rfl,rfl,fun _=>⟨rfl,rfl⟩,fun e=>e,fun _=>rfl⟩
        .cases h
       .cases h;exact ⟨Z',by simp_all,rfl,rfl,fun _=>⟨rfl,rfl⟩,fun e=>e,fun _=>rfl⟩
     .cases h
 | makeSlice t l c =>
  have hl:Z'.rd l=Z.rd l:=lW ha (by simp[Op.operands]);have hc:Z'.rd c=Z.rd c:=lW ha (by simp[Op.operands]);simp only[bY] at h ⊢;rw[hl,hc];split at h
  .split at h
   .rename_i hcond;rw[aX hcond];split at h
    .rename_i hm;cases h;have hh':Z'.h=Z.h:=by rcases hh with h | h | h<;>first | exact h | (simp[hk,hm] at h)
     rw[aX hm];exact ⟨⟨Z'.s,Z'.h ++ [some (wX _ _)]⟩,by rw[hh'],rfl,rfl,fun e=>by simp[hk,hm] at e,fun e=>by rw[e],fun e=>by simp[hk,hm] at e⟩
    .rename_i hm;rw[aV hm];split at h
     .rename_i hz;cases h;rw[aX hz];exact ⟨Z',rfl,rfl,rfl,fun _=>⟨rfl,rfl⟩,fun e=>e,fun _=>rfl⟩
     .cases h
   .cases h
  .cases h
 | call c =>
  obtain ⟨callee,args,ts⟩:=c;have hargs:∀ x,x∈args.toList->x∈(Op.call ⟨callee,args,ts⟩).operands:=fun x hx=>by grind [Op.operands,Call.operands]
  simp only[bY] at h ⊢;split at h
  .have hh':Z'.h=Z.h:=by rcases hh with h | h | h<;>first | exact h | (simp[hk] at h)
   split at h
   .rename_i x y t u h1 h2;have hx:Z'.rd x=Z.rd x:=lW ha (hargs x (by rw[h1]; simp));have hy:Z'.rd y=Z.rd y:=lW ha (hargs y (by rw[h1]; simp));have hcs:∀ sz q,F5 Z' sz q=F5 Z sz q:=fun sz q=>by unfold F5; simp_all
    rw[hx,hy];simp only[hcs,hh'];split at h
    .rename_i I i off m sz q _ _ _;split at h
     .rename_i cs m2 cells _ _;split at h
      .rename_i hc;cases h;exact ⟨⟨Z'.s,Z.h.set i (some (cs.take off ++ cells.take (Nat.min m2 m*sz) ++ cs.drop (off+Nat.min m2 m*sz)))⟩,by rw[aX hc,<- hh'],rfl,rfl,fun e=>by simp[hk] at e,fun e=>rfl,fun e=>by simp[hk] at e⟩
      .cases h
     .cases h
    .cases h
   .cases h
  .have hh':Z'.h=Z.h:=by rcases hh with h | h | h<;>first | exact h | (simp[hk] at h)
   split at h
   .rename_i x t h1 h2;have hx:Z'.rd x=Z.rd x:=lW ha (hargs x (by rw[h1]; simp));split at h
    .rename_i I j off m sz hT hx1;split at h
     .rename_i cs hcs;split at h
      .rename_i hc;cases h;exact ⟨⟨Z'.s,Z'.h.set j (some (cs.take off ++ (wX m I).map PV.un ++ cs.drop (off+m*sz)))⟩,by rw[hx,hx1,hh',hT]; simp_all,rfl,rfl,fun e=>by simp[hk] at e,fun e=>by rw[e],fun e=>by simp[hk] at e⟩
      .cases h
     .cases h
    .rename_i I o' z' hT hx1;cases h;exact ⟨Z',by rw[hx,hx1,hT],rfl,rfl,fun e=>by grind,fun e=>e,fun e=>by rfl⟩
    .cases h
   .cases h
  .split at h
   .rename_i s x t u h1 h2;have hs:Z'.ev s=Z.ev s:=OH ha (hargs s (by rw[h1]; simp));have hx:Z'.rd x=Z.rd x:=lW ha (hargs x (by rw[h1]; simp));rw[hs,hx];split at h
    grind [DX,rV]
    grind [DX,rV]
    grind [DX,rV]
    grind [DX,rV]
    grind [DX,rV]
    .cases h
   .cases h
  .rename_i hne;have hpc:Fg E.P Z'.rd ⟨callee,args,ts⟩=Fg E.P Z.rd ⟨callee,args,ts⟩:=by
    have:=aSM (P:=E.P) (rd:=Z.rd) (rd':=Z'.rd) (op := .call ⟨callee,args,ts⟩) fun x hx=>lW ha hx
    grind [pop]
   rw[hpc];cases hp:Fg E.P Z.rd ⟨callee,args,ts⟩ with
   | none=>grind
   | some q =>
    simp[hp] at h; obtain ⟨rfl,rfl⟩:=h;have ht:rV E ⟨dst,.call ⟨callee,args,ts⟩,type,pos,after,guard⟩=none:=by simp only[rV]
    rw[ht];exact ⟨Z',rfl,rfl,rfl,fun _=>⟨rfl,rfl⟩,fun e=>e,fun _=>rfl⟩
 | makeMap t r =>
  simp only[bY] at h ⊢;have hkn:hk E ⟨dst,.makeMap t r,type,pos,after,guard⟩≠0/\hk E ⟨dst,.makeMap t r,type,pos,after,guard⟩≠1/\hk E ⟨dst,.makeMap t r,type,pos,after,guard⟩≠3:=by simp only[hk]; grind
  have hh':Z'.h=Z.h:=by rcases hh with h | h | h<;>first | exact h | omega | omega
  rw[hh'];split at h
  .cases h
  rename_i hro;split at h
  .rename_i ht;cases h;exact ⟨⟨Z'.s,Z.h ++ [some [oW (dF E.mu dst) []]]⟩,by rfl,rfl,rfl,fun e=>e.elim (fun e=>absurd e hkn.1) (fun e=>absurd e hkn.2.1),fun e=>rfl,fun e=>absurd e hkn.2.2⟩
  .cases h
 | lookup t m k ok =>
  have hh':Z'.h=Z.h:=by rcases hh with h | h | h<;>first | exact h | (simp[hk] at h)
  have hm:Z'.rd m=Z.rd m:=lW ha (by simp[Op.operands]);have hkk:Z'.rd k=Z.rd k:=lW ha (by simp[Op.operands]);simp only[bY] at h ⊢;rw[hh',hm,hkk];split at h
  .rename_i s z i q ht h1 h2;split at h
   .rename_i cs hcs;split at h
    .rename_i b L hin;split at h
     .rename_i r hik hg;cases h;exact ⟨Z',by rfl,rfl,rfl,fun e=>by grind,fun _=>hh',fun e=>by rfl⟩
     .cases h
    .cases h
   .cases h
  .cases h
 | mapUpdate t m k x =>
  have hh':Z'.h=Z.h:=by rcases hh with h | h | h<;>first | exact h | (simp[hk] at h)
  have hm:Z'.rd m=Z.rd m:=lW ha (by simp[Op.operands]);have hkk:Z'.rd k=Z.rd k:=lW ha (by simp[Op.operands]);have hx:Z'.rd x=Z.rd x:=lW ha (by simp[Op.operands]);simp only[bY] at h ⊢;rw[hh',hm,hkk,hx];split at h
  .rename_i s z i q y ht h1 h2 h3;split at h
   .rename_i cs hcs;split at h
    .rename_i b L hin;split at h
     .rename_i hik;cases h;exact ⟨⟨Z'.s,Z.h.set i (some [oW b (jo s L q y)])⟩,by rfl,rfl,rfl,fun e=>by simp[hk] at e,fun _=>rfl,fun e=>by simp[hk] at e⟩
     .cases h
    .cases h
   .cases h
  .cases h
 | insert t m k x =>
  have hkn:hk E ⟨dst,.insert t m k x,type,pos,after,guard⟩≠0/\hk E ⟨dst,.insert t m k x,type,pos,after,guard⟩≠1/\hk E ⟨dst,.insert t m k x,type,pos,after,guard⟩≠3:=by simp only[hk]; split<;>simp
  have hh':Z'.h=Z.h:=by rcases hh with h | h | h<;>first | exact h | omega | omega
  have hm:Z'.rd m=Z.rd m:=lW ha (by simp[Op.operands]);have hkk:Z'.rd k=Z.rd k:=lW ha (by simp[Op.operands]);have hx:Z'.rd x=Z.rd x:=lW ha (by simp[Op.operands]);simp only[bY] at h ⊢;rw[hh',hm,hkk,hx];split at h
  .cases h
  rename_i hso;split at h
  .rename_i s z i q y ht h1 h2 h3;split at h
   .rename_i cs hcs;split at h
    .rename_i b L hin;split at h
     .rename_i hik;cases h;exact ⟨⟨Z'.s,Z.h.set i (some [oW b (jo s L q y)])⟩,by rfl,rfl,rfl,fun e=>e.elim (fun e=>absurd e hkn.1) (fun e=>absurd e hkn.2.1),fun _=>rfl,fun e=>absurd e hkn.2.2⟩
     .cases h
    .cases h
   .cases h
  .cases h
 | range t x =>
  have hh':Z'.h=Z.h:=by rcases hh with h | h | h<;>first | exact h | (simp[hk] at h)
  have hx:Z'.rd x=Z.rd x:=lW ha (by simp[Op.operands]);simp only[bY] at h ⊢;rw[hh',hx];split at h
  .rename_i s ht hs;cases h;exact ⟨⟨Z'.s,Z.h ++ [some [zQ s 0]]⟩,by rfl,rfl,rfl,fun e=>by simp[hk] at e,fun _=>rfl,fun e=>by simp[hk] at e⟩
  .cases h
 | next x b =>
  have hh':Z'.h=Z.h:=by rcases hh with h | h | h<;>first | exact h | (simp[hk] at h)
  have hx:Z'.rd x=Z.rd x:=lW ha (by simp[Op.operands]);simp only[bY] at h ⊢;rw[hh',hx];split at h
  .rename_i T i hx2;split at h
   .rename_i cs hcs;split at h
    .rename_i s p hin;split at h
     .rename_i hT;split at h
      .rename_i hp;cases h;exact ⟨⟨Z'.s,Z.h.set i (some [zQ s (PL s p)])⟩,by rfl,rfl,rfl,fun e=>by simp[hk] at e,fun _=>rfl,fun e=>by simp[hk] at e⟩
      .rename_i hp;cases h;exact ⟨Z',by rfl,rfl,rfl,fun e=>by grind,fun _=>hh',fun e=>by rfl⟩
     .cases h
    .cases h
   .cases h
  .cases h
 | _ =>
  simp only[bY] at h ⊢;rw[aSM (P:=E.P) (rd:=Z.rd) (rd':=Z'.rd) fun x hx=>lW ha hx];generalize pop E.P Z.rd _=r at h ⊢;cases r with
  | none=>simp at h
  | some q =>simp at h; obtain ⟨rfl,rfl⟩:=h;exact ⟨Z',rfl,rfl,rfl,fun _=>⟨rfl,rfl⟩,fun e=>e,fun _=>rfl⟩
end
theorem aUQ:∀ {s s':fP},jM s->jM s'->(∀ k,bZ k s=bZ k s')->s=s'
 | [],[],_,_,_=>rfl
 | [],(j,q)::l,_,_,h=>by have:=h j; simp[bZ] at this
 | (j,q)::l,[],_,_,h=>by have:=h j; simp[bZ] at this
 | (j,q)::l,(j',q')::l',h1,h2,h=>by
  obtain ⟨a1,a2⟩:=Cc.1 h1;obtain ⟨b1,b2⟩:=Cc.1 h2;have hj:j=j':=by
   rcases Nat.lt_trichotomy j j' with hlt | he | hgt
   .have:=h j;rw[bZ,aX rfl,bZ,aV (by omega),QO (fun a ha=>by have:=b1 a ha; omega)] at this;cases this
   .exact he
   .have:=h j';rw[bZ,aV (by omega),QO (fun a ha=>by have:=a1 a ha; omega),bZ,aX rfl] at this;cases this
  subst hj;have hq:q=q':=by have:=h j; simpa[bZ] using this
  subst hq;congr 1
  refine aUQ a2 b2 fun k => ?_
  by_cases e:j=k
  .subst e;rw[QO (fun a ha=>by have:=a1 a ha; simpa using this),QO (fun a ha=>by have:=b1 a ha; simpa using this)]
  .have:=h k;rwa [bZ,aV e,bZ,aV e] at this
def uZ (d:Option Nat) (p:PV) (s:fP):fP:=match d with | some k=>iM k p s | none=>s
theorem Fj {d:Option Nat} {p:PV} (h:jM s):jM (uZ d p s):=by cases d<;>first | exact h | exact Cb h
theorem Hf {c:Option Nat} (h:jM s):jM (wB c s):=by unfold wB; grind [Cb]
theorem Vp {d:Option Nat} {p:PV} (h:jM s) (k:Nat):bZ k (uZ d p s)=if d=some k then some p else bZ k s:=by
 cases d with
 | none=>simp[uZ]
 | some j=>grind [uZ,CZ]
theorem Vo {c:Option Nat} (h:jM s) (k:Nat):bZ k (wB c s)=if c=some k then (bZ k s).map PV.un else bZ k s:=by
 cases c with
 | none=>simp[wB]
 | some j =>grind [wB,CZ]
theorem a'R {d1 d2 c1 c2:Option Nat} {p1 p2:PV} (h:jM s) (e1:∀ k,d1=some k->d2≠some k/\c2≠some k) (e2:∀ k,c1=some k->d2≠some k/\c2≠some k):
 uZ d1 p1 (wB c1 (uZ d2 p2 (wB c2 s)))=uZ d2 p2 (wB c2 (uZ d1 p1 (wB c1 s))):=by
 have s1:=Hf (c:=c1) h;have s2:=Hf (c:=c2) h;refine aUQ (Fj (Hf (Fj s2))) (Fj (Hf (Fj s1))) fun k => ?_
 rw[Vp (Hf (Fj s2)),Vo (Fj s2),Vp s2,Vo h,Vp (Hf (Fj s1)),Vo (Fj s1),Vp s1,Vo h];grind
def rX (ops:Array Oper) (Z:ASt) (o:Oper):Option Bool :=
 match o.guard with
 | none=>some true
 | some (j,want)=>(AY ops Z j).map fun x=>x==some want
theorem hk5 {E:AE} {o:Oper} (h:hk E o=5):∃ t x,o.op = .load t x/\dF E.ln o.dst=true:=by unfold hk at h;grind
theorem aUW {E:AE} {o:Oper} {Z Z' Z1:ASt} {p:PV} (h:bY E o Z=some (p,Z1)) (h5:hk E o=5) (ha:agree o Z.s Z'.s) (hr:ET E Z'.h Z.h):Z1=Z/\bY E o Z'=some (p,Z')/\rV E o=none:=by
 obtain ⟨t,x,hop,hl⟩:=hk5 h5;obtain ⟨dst,op,type,pos,after,guard⟩:=o;subst hop;simp only[bY] at h ⊢;have hrd:Z'.rd x=Z.rd x:=lW ha (by simp[Op.operands]);rw[hrd];cases hI:ti E.P t with
 | none=>grind
 | some I =>
  cases hq:Z.rd x with
  | none=>simp_all
  | some q =>
   simp only[hI,hq,hl] at h ⊢;split at h
   .rename_i hok;have hp:=aQB h;refine ⟨hp.1,?_,rfl⟩;refine hp.2 Z' fun i off e => ?_
    subst e;exact hr i hok
   .cases h
def stepD (E:AE) (o:Oper) (Z Z':ASt):Prop:=∃ p Z1,bY E o Z=some (p,Z1)/\jg E o Z/\ASt.put E o.dst p Z1=some Z'
def aZE (E:AE) (o:Oper) (f:Operand) (args:List Operand) (Z Z':ASt):Prop :=
 ∃ g first caps az r,Z.rd f=some (.func (.func g) first caps)/\ji (args.map Z.rd)=some az /\
  ((Ev E.P g (first ++ az ++ caps) [] r []/\r.flat=true/\PV.flats (first ++ az ++ caps)=true/\ASt.put E o.dst r Z=some Z') \/
   (dF E.sy o.dst=true/\∃ h',Ev E.P g (first ++ az ++ caps) Z.h r h'/\ET E h' Z.h/\ASt.put E o.dst r { Z with h:=h' }=some Z'))
abbrev AZ (o:Oper):Option (Operand×List Operand) :=
 match o.op with
 | .call c=>match c.callee with
  | .value f=>some (f,c.args.toList)
  | _=>none
 | _=>none
theorem hk6 {E:AE} {o:Oper} (h:hk E o=6):AZ o≠none\/(∃ t a x,o.op = .store t a x/\dF E.mu (kW a)=true)\/(∃ t,o.op = .alloc t/\dF E.ln o.dst=true)\/(∃ t r,o.op = .makeMap t r/\dF E.ln o.dst=true)\/∃ t m k x,o.op = .insert t m k x/\dF E.mu ((kW m).map (6000000 + ·))=true:=by
 obtain ⟨dst,op,type,pos,after,guard⟩:=o;cases op with
 | call c =>
  obtain ⟨callee,YL,ts⟩:=c;cases callee with
  | value f=>grind
  | builtin b =>cases b<;>simp[hk] at h
  | _=>simp[hk] at h
 | store t a x =>simp only[hk] at h;grind
 | alloc t =>simp only[hk] at h;grind
 | makeMap t r =>simp only[hk] at h;grind
 | insert t m k x =>simp only[hk] at h;grind
 | load t x =>simp only[hk] at h;grind
 | _=>simp only[hk] at h<;>first | omega | (split at h<;>omega)
theorem bSX {E:AE} {o:Oper} {Z Z1:ASt} {p:PV} (h:bY E o Z=some (p,Z1)) (h6:hk E o=6) (hc:AZ o=none):ET E Z1.h Z.h:=by
 have far:∀ {n:Nat},aC8 E.ln n=true->∀ i,dF E.ln (some (1000000+i))=true->i<n:=fun {n} hro i hi=>by
  have hmi:1000000+i∈E.ln:=by simpa[dF] using hi
  have:=jF.1 hro _ hmi;rw[show Nat.ble 1000000 (1000000+i)=true by rw[Nat.ble_eq]; omega] at this;simp_all
 rcases hk6 h6 with h' | ⟨t,a,x,hop,hm⟩ | ⟨t,hop,hm⟩ | ⟨t,r,hop,hm⟩ | ⟨t,m,k,x,hop,hm⟩
 simp_all;case inr.inr.inr.inl =>
  obtain ⟨dst,op,type,pos,after,guard⟩:=o;subst hop;simp only[bY,hm] at h;split at h
  .cases h
  .split at h
   .intro i hi;grind
   .cases h
 case inr.inr.inr.inr =>
  obtain ⟨dst,op,type,pos,after,guard⟩:=o;subst hop;simp only[bY] at h;split at h
  .cases h
  rename_i hso;unfold a3M at hso;split at h
  .rename_i s z i q y ht h1 h2 h3;split at h
   .split at h
    .split at h
     .cases h;intro j hj;have hne:i≠j:=fun e=>by simp_all
      simp_all
     .cases h
    .cases h
   .cases h
  .cases h
 case inr.inr.inl =>
  obtain ⟨dst,op,type,pos,after,guard⟩:=o;subst hop;simp only[bY,hm] at h;split at h
  .cases h
  .cases ht:ti E.P t with
   | none=>grind
   | some I =>intro i hi;grind [dF]
 obtain ⟨dst,op,type,pos,after,guard⟩:=o;subst hop;simp only[bY] at h;split at h
 .cases h
 rename_i hso;cases hI:ti E.P t with
 | none=>grind
 | some I =>
  cases hq:Z.rd a with
  | none=>simp_all
  | some q =>
   cases hp:Z.ev x with
   | none=>simp_all
   | some p' =>
    cases dst with
    | some d=>simp_all
    | none =>
     simp only[hI,hq,hp] at h;cases hst:yZ I q p' (Z.clr x) with
     | none=>simp_all
     | some τ =>
      simp[hst] at h;obtain ⟨_,rfl⟩:=h;have hcl:=(DX Z x).2;unfold QX at hso;rw[hm,hq] at hso;cases q with
      | ptr i off =>
       have key:∃ cs,τ.h=(Z.clr x).h.set i cs:=by grind [yZ]
       obtain ⟨cs,hk⟩:=key;intro j hj;have hne:i≠j:=fun e=>by simp_all
       rw[hk,qY hne,hcl]
      | _=>simp at hso
def GH (E:AE) (o:Oper) (Z Z':ASt):Prop :=
 match AZ o with
 | some (f,args)=>aZE E o f args Z Z'
 | none=>stepD E o Z Z'
def lY (E:AE) (ops:Array Oper) (o:Oper) (Z Z':ASt):Prop :=(rX ops Z o=some true/\GH E o Z Z')\/(rX ops Z o=some false/\ASt.put E o.dst (.tuple []) Z=some Z')
section
variable {E:AE} {ops:Array Oper} {o:Oper} {Z Z' τ:ASt}
theorem a2K {d:Option Nat} {p:PV} (h:ASt.put E d p Z=some Z'):Z'.s=uZ d p Z.s/\Z'.h=Z.h/\∀ k,d=some k->k<E.n:=by
 cases d with
 | none=>simp[ASt.put] at h; subst h; exact ⟨rfl,rfl,by simp⟩
 | some k =>
  simp only[ASt.put] at h;split at h
  .cases h; exact ⟨rfl,rfl,fun j e=>by simp_all⟩
  .cases h
theorem VY {d:Option Nat} {p:PV} (h:∀ k,d=some k->k<E.n):ASt.put E d p Z=some ⟨uZ d p Z.s,Z.h⟩:=by
 cases d with
 | none=>rfl
 | some k=>simp only[ASt.put,aX (h k rfl)]; rfl
theorem a9X {t:Nat} (h:Operand.tmp t∈o.op.operands):t∈o.looksAt ops:=XB _ (List.mem_filterMap.2 ⟨.tmp t,by grind,rfl⟩)
theorem UL (h:∀ t,t∈o.looksAt ops->bZ t τ.s=bZ t Z.s):rX ops τ o=rX ops Z o:=by
 unfold rX;cases hg:o.guard with
 | none=>rfl
 | some jw =>
  obtain ⟨j,want⟩:=jw;have:AY ops τ j=AY ops Z j:=by
   unfold AY;cases hd:(ops[j]?).bind (·.dst) with
   | none=>rfl
   | some d=>simp only[h d (XC _ (by grind))]
  simp_all
theorem aUC (h:agree o Z.s τ.s) (hs:jg E o Z):jg E o τ:=by
 obtain ⟨dst,op,type,pos,after,guard⟩:=o;cases op with
 | call c =>
  obtain ⟨callee,args,ts⟩:=c;have hargs:∀ x,x∈args.toList->x∈(Op.call ⟨callee,args,ts⟩).operands:=fun x hx=>by grind [Op.operands,Call.operands]
  grind [jg,OH,lW]
 | _=>trivial
theorem a5E (h:lY E ops o Z Z'):∃ c p,(c=none\/c=rV E o)/\Z'.s=uZ o.dst p (wB c Z.s)/\((hk E o=0\/hk E o=1\/hk E o=5)->Z'.h=Z.h)/\(hk E o=3->nY Z'.h=nY Z.h)/\(hk E o=6->ET E Z'.h Z.h) /\
 ∀ τ:ASt,(∀ t,t∈o.looksAt ops->bZ t τ.s=bZ t Z.s)->(hk E o=0\/τ.h=Z.h\/(hk E o=1/\nY τ.h=nY Z.h)\/(hk E o=5/\ET E τ.h Z.h))->∃ τ',lY E ops o τ τ'/\τ'.s=uZ o.dst p (wB c τ.s)/\((hk E o=0\/hk E o=1\/hk E o=5)->τ'.h=τ.h)/\(τ.h=Z.h->τ'.h=Z'.h):=by
 rcases h with ⟨hg,hr⟩ | ⟨hg,hp⟩
 .unfold GH at hr;cases hc:AZ o with
  | some fa =>
   obtain ⟨f,args⟩:=fa;rw[hc] at hr;obtain ⟨g,first,caps,az,r,h1,h2,h3⟩:=hr;have hop:f∈o.op.operands/\∀ x,x∈args->x∈o.op.operands:=by grind [Op.operands,Call.operands]
   rcases h3 with ⟨h3,h4,h5,h6⟩ | ⟨hsy,h',h3,hro,h6⟩
   .obtain ⟨p1,p2,p3⟩:=a2K h6;refine ⟨none,r,.inl rfl,p1,fun _=>p2,fun _=>by rw[p2],fun _ i _=>by rw[p2],fun τ ht _=>⟨⟨uZ o.dst r τ.s,τ.h⟩,.inl ⟨by rw[UL ht]; exact hg,?_⟩,rfl,fun _=>rfl,fun e=>by rw[p2]; exact e⟩⟩;unfold GH;rw[hc];have hag:agree o Z.s τ.s:=fun t h=>ht t (a9X h)
    exact ⟨g,first,caps,az,r,by rw[lW hag hop.1]; exact h1,by rw[Xr fun x hx=>lW hag (hop.2 x hx)]; exact h2,.inl ⟨h3,h4,h5,VY p3⟩⟩
   .obtain ⟨p1,p2,p3⟩:=a2K h6;have hk2:hk E o=2\/hk E o=6:=by
     obtain ⟨dst,op,type,pos,after,guard⟩:=o;cases op<;>simp[AZ] at hc
     rename_i c;obtain ⟨callee,YL,ts⟩:=c;cases callee<;>simp at hc
     simp only[hk,hsy];simp
    refine ⟨none,r,.inl rfl,p1,fun e=>by omega,fun e=>by omega,fun _=>by rw[p2]; exact hro,fun τ ht hh => ?_⟩;have hh':τ.h=Z.h:=by grind
    refine ⟨⟨uZ o.dst r τ.s,h'⟩,.inl ⟨by rw[UL ht]; exact hg,?_⟩,rfl,fun e=>by omega,fun _=>by rw[p2]⟩;unfold GH;rw[hc];have hag:agree o Z.s τ.s:=fun t h=>ht t (a9X h)
    exact ⟨g,first,caps,az,r,by rw[lW hag hop.1]; exact h1,by rw[Xr fun x hx=>lW hag (hop.2 x hx)]; exact h2,.inr ⟨hsy,h',by rw[hh']; exact h3,by rw[hh']; exact hro,VY p3⟩⟩
  | none =>
   rw[hc] at hr;obtain ⟨p,Z1,h1,h2,h3⟩:=hr;obtain ⟨p1,p2,p3⟩:=a2K h3;have hself:=aUX h1 (fun _ _=>rfl) (.inr (.inl rfl));obtain ⟨_,_,s1,_,s3,_,s5⟩:=hself;have e5:hk E o=5->Z1.h=Z.h:=fun e=>by rw[(aUW h1 e (fun _ _=>rfl) (fun _ _=>rfl)).1]
   refine ⟨rV E o,p,.inr rfl,by rw[p1,s1],fun e=>by grind,fun e=>by rw[p2]; exact s5 e,fun e=>by rw[p2]; exact bSX h1 e hc,fun τ ht hh => ?_⟩;have hag:agree o Z.s τ.s:=fun t h=>ht t (a9X h)
   by_cases h5:hk E o=5
   .have hro:ET E τ.h Z.h:=by
     rcases hh with h | h | h | h
     .omega
     .intro i _; rw[h]
     .omega
     .exact h.2
    obtain ⟨l0,l1,l2⟩:=aUW h1 h5 hag hro;refine ⟨⟨uZ o.dst p τ.s,τ.h⟩,.inl ⟨by rw[UL ht]; exact hg,?_⟩,by rw[l2]; rfl,fun _=>rfl,fun e=>by rw[p2,e5 h5]; exact e⟩;unfold GH;rw[hc];exact ⟨p,τ,l1,aUC hag h2,VY p3⟩
   have hh3:hk E o=0\/τ.h=Z.h\/(hk E o=1/\nY τ.h=nY Z.h):=by simp_all
   obtain ⟨τ1,l1,l2,l3,l4,l5,_⟩:=aUX h1 hag hh3;refine ⟨⟨uZ o.dst p τ1.s,τ1.h⟩,.inl ⟨by rw[UL ht]; exact hg,?_⟩,by grind,fun e=>by simp_all,fun e=>by rw[p2]; exact l5 e⟩;unfold GH;rw[hc];exact ⟨p,τ1,l1,aUC hag h2,VY p3⟩
 .obtain ⟨p1,p2,p3⟩:=a2K hp;exact ⟨none,.tuple [],.inl rfl,p1,fun _=>p2,fun _=>by rw[p2],fun _ i _=>by rw[p2],fun τ ht _=>⟨⟨uZ o.dst (.tuple []) τ.s,τ.h⟩,.inr ⟨by rw[UL ht]; exact hg,VY p3⟩,rfl,fun _=>rfl,fun e=>by rw[p2]; exact e⟩⟩
theorem lY.iC (h:lY E ops o Z Z') (hs:jM Z.s):jM Z'.s:=by grind [a5E,Fj,Hf]
def writes (E:AE) (o:Oper):List Nat:=o.dst.toList ++ (rV E o).toList
def aNG (a b:Nat):Bool:=a==0||b==0||(a==1&&b==1)||(a==1&&b==3)||(a==3&&b==1)||(a==5&&(b==1||b==5||b==6))||(b==5&&(a==1||a==6))
def UZ (o:Oper):Option ByteArray:=match o.op,o.dst,o.guard with
 | .insert _ _ (.const (.string k)) _,none,none=>some k
 | _,_,_=>none
def a8L (x y:Oper):Bool:=match UZ x,UZ y with
 | some a,some b => !(a.data.toList==b.data.toList)
 | _,_=>false
def a5U (E:AE) (ops:Array Oper) (x y:Oper):Bool :=(writes E x).all (fun d => !(y.looksAt ops).contains d && !(writes E y).contains d)&&(writes E y).all (fun d => !(x.looksAt ops).contains d)&&aNG (hk E x) (hk E y)
def Jk (E:AE) (ops:Array Oper) (x y:Oper):Bool:=a5U E ops x y||a8L x y
theorem aG3:∀ {a b c:bZ'},DT a b=true->DT b c=true->DT a c=true
 | [],[],_,h,_=>by cases h
 | [],_::_,[],_,h=>by cases h
 | [],_::_,_::_,_,_=>rfl
 | _::_,[],_,h,_=>by cases h
 | _::_,_::_,[],_,h=>by cases h
 | a::az,b::bs,c::cs,h1,h2=>by
  simp only[DT,Gl,bI,D6,JM] at h1 h2 ⊢;rcases h1 with h1 | ⟨h1,h1'⟩<;>rcases h2 with h2 | ⟨h2,h2'⟩
  .omega
  .omega
  .omega
  .right; exact ⟨by omega,aG3 h1' h2'⟩
theorem a5J:∀ {a b:bZ'},a≠b->DT b a = !DT a b
 | [],[],h=>absurd rfl h
 | [],_::_,_=>rfl
 | _::_,[],_=>rfl
 | a::az,b::bs,h=>by
  simp only[DT];rcases Nat.lt_trichotomy a.toNat b.toNat with hl | he | hg
  .rw[show Nat.blt a.toNat b.toNat=true by rw[D6]; exact hl,show Nat.blt b.toNat a.toNat=false by rw[<- a4D,D6]; omega,show Nat.beq b.toNat a.toNat=false by rw[<- a4D,JM]; omega]; rfl
  .have hab:a=b:=UInt8.toNat_inj.1 he;subst hab;have hn:az≠bs:=fun e=>h (by rw[e])
   rw[show Nat.blt a.toNat a.toNat=false by rw[<- a4D,D6]; omega,show Nat.beq a.toNat a.toNat=true by rw[JM],a5J hn]; rfl
  .rw[show Nat.blt a.toNat b.toNat=false by rw[<- a4D,D6]; omega,show Nat.blt b.toNat a.toNat=true by rw[D6]; exact hg,show Nat.beq a.toNat b.toNat=false by rw[<- a4D,JM]; omega]; rfl
section
variable {a b:ByteArray} {x y:PV}
def xE:bZZ->Prop
 | k::_::L=>(∃ c,k = .str c)/\xE L
 | []=>True
 | [_]=>False
theorem a5C:∀ {L:bZZ},rZ none L (.str a)=true↔xE L
 | []=>⟨fun _=>trivial,fun _=>rfl⟩
 | [_]=>⟨fun h=>(by simp[rZ] at h),fun h=>h.elim⟩
 | k::v::L=>by rw[rZ,bI,a5C];refine and_congr ⟨fun h => ?_,fun ⟨c,hc⟩=>by subst hc; rfl⟩ Iff.rfl;cases k<;>first | exact ⟨_,rfl⟩ | (simp[eqK] at h)
theorem aNE (hab:a.data.toList≠b.data.toList):∀ {L:bZZ},xE L->tK none (nU none L (.str a) x) (.str b)=tK none L (.str b)
 | [],_=>rfl
 | [_],h=>h.elim
 | k::v::L,⟨⟨c,hc⟩,h⟩=>by
  subst hc;simp only[nU,eqK];by_cases hac:a.data.toList=c.data.toList
  .rw[show (a.data.toList==c.data.toList)=true by rw[uH]; exact hac];simp only[tK,eqK];rw[hac]
  .rw[show (a.data.toList==c.data.toList)=false from qc.2 hac];simp only[tK];rw[aNE hab h]
theorem aNC (hab:a.data.toList≠b.data.toList):∀ {L:bZZ},xE L->tK none (oZ L (.str a) x) (.str b)=tK none L (.str b)
 | [],_=>by grind [oZ,tK,eqK]
 | [_],h=>h.elim
 | k::v::L,⟨⟨c,hc⟩,h⟩=>by
  subst hc;simp only[oZ];cases oU (.str a) (.str c) with
  | true =>simp only[tK,eqK];rw[show (b.data.toList==a.data.toList)=false from qc.2 (Ne.symm hab)]
  | false =>simp only[tK];rw[aNC hab h]
theorem aQ' (hab:a.data.toList≠b.data.toList):∀ {L:bZZ},xE L->nU none (nU none L (.str a) x) (.str b) y=nU none (nU none L (.str b) y) (.str a) x
 | [],_=>rfl
 | [_],h=>h.elim
 | k::v::L,⟨⟨c,hc⟩,h⟩=>by
  subst hc;by_cases hac:a.data.toList=c.data.toList
  .have hbc:(b.data.toList==c.data.toList)=false:=qc.2 fun e=>hab (hac.trans e.symm)
   have hba:(b.data.toList==a.data.toList)=false:=qc.2 (Ne.symm hab);simp only[nU,eqK,show (a.data.toList==c.data.toList)=true by rw[uH]; exact hac,hbc,hba]
  .have KP:(a.data.toList==c.data.toList)=false:=qc.2 hac;by_cases hbc:b.data.toList=c.data.toList
   .have hab':(a.data.toList==b.data.toList)=false:=qc.2 hab;simp only[nU,eqK,KP,show (b.data.toList==c.data.toList)=true by rw[uH]; exact hbc,hab']
   .have bIO:(b.data.toList==c.data.toList)=false:=qc.2 hbc;simp only[nU,eqK,KP,bIO,aQ' hab h]
theorem aQY (hab:a.data.toList≠b.data.toList):∀ {L:bZZ},xE L->tK none L (.str a)=true->oZ (nU none L (.str a) x) (.str b) y=nU none (oZ L (.str b) y) (.str a) x
 | [],_,h=>by cases h
 | [_],h,_=>h.elim
 | k::v::L,⟨⟨c,hc⟩,h⟩,hh=>by
  subst hc;have hab':(a.data.toList==b.data.toList)=false:=qc.2 hab;by_cases hac:a.data.toList=c.data.toList
  .have hl:oU (.str b) (.str a)=oU (.str b) (.str c):=by simp only[oU,hac]
   simp only[nU,eqK,show (a.data.toList==c.data.toList)=true by rw[uH]; exact hac,oZ,hl];cases oU (.str b) (.str c) with
   | true=>simp only[nU,eqK,hab',show (a.data.toList==c.data.toList)=true by rw[uH]; exact hac]
   | false=>simp only[nU,eqK,show (a.data.toList==c.data.toList)=true by rw[uH]; exact hac]
  .have KP:(a.data.toList==c.data.toList)=false:=qc.2 hac;simp only[tK,eqK,KP] at hh;simp only[nU,eqK,KP,oZ];cases oU (.str b) (.str c) with
   | true=>simp only[nU,eqK,hab',KP]
   | false=>simp only[nU,eqK,KP,aQY hab h hh]
theorem aN' (hab:a.data.toList≠b.data.toList):∀ {L:bZZ},xE L->oZ (oZ L (.str a) x) (.str b) y=oZ (oZ L (.str b) y) (.str a) x
 | [],_=>by have ht:oU (.str b) (.str a) = !oU (.str a) (.str b):=a5J hab;grind [oZ]
 | [_],h=>h.elim
 | k::v::L,⟨⟨c,hc⟩,h⟩=>by
  subst hc;have ht:oU (.str b) (.str a) = !oU (.str a) (.str b):=a5J hab;have tr:∀ {p q r:ByteArray},oU (.str p) (.str q)=true->oU (.str q) (.str r)=true->oU (.str p) (.str r)=true:=fun h1 h2=>aG3 h1 h2
  cases ha:oU (.str a) (.str c) with
  | true =>
   cases hb:oU (.str b) (.str c) with
   | true =>simp only[oZ,ha,hb,ht];cases oU (.str a) (.str b)<;>simp
   | false =>
    have hn:oU (.str b) (.str a)=false:=by
     cases hh:oU (.str b) (.str a) with
     | false=>rfl
     | true=>rw[tr hh ha] at hb; cases hb
    simp only[oZ,ha,hb,hn]
  | false =>
   cases hb:oU (.str b) (.str c) with
   | true =>
    have hn:oU (.str a) (.str b)=false:=by
     cases hh:oU (.str a) (.str b) with
     | false=>rfl
     | true=>rw[tr hh hb] at ha; cases ha
    simp only[oZ,ha,hb,hn]
   | false=>simp only[oZ,ha,hb,aN' hab h]
theorem bQJ (hab:a.data.toList≠b.data.toList) (h:xE L):jo none (jo none L (.str a) x) (.str b) y=jo none (jo none L (.str b) y) (.str a) x:=by grind [jo,aNE,aNC,aN',aQY,aQ']
theorem aQX:∀ {L:bZZ},xE L->xE (nU none L (.str a) x)
 | [],_=>trivial
 | [_],h=>h.elim
 | k::v::L,⟨⟨c,hc⟩,h⟩=>by
  subst hc;simp only[nU];split
  .exact ⟨⟨_,rfl⟩,h⟩
  .exact ⟨⟨_,rfl⟩,aQX h⟩
theorem aNZ:∀ {L:bZZ},xE L->xE (oZ L (.str a) x)
 | [],_=>⟨⟨_,rfl⟩,trivial⟩
 | [_],h=>h.elim
 | k::v::L,⟨⟨c,hc⟩,h⟩=>by
  subst hc;simp only[oZ];cases oU (.str a) (.str c) with
  | true=>exact ⟨⟨_,rfl⟩,⟨_,rfl⟩,h⟩
  | false=>exact ⟨⟨_,rfl⟩,aNZ h⟩
theorem bQH (h:xE L):xE (jo none L (.str a) x):=by grind [jo,aQX,aNZ]
end
theorem bJ9 {o:Oper} {k:ByteArray} (h:UZ o=some k):∃ t m v,o.op = .insert t m (.const (.string k)) v/\o.dst=none/\o.guard=none:=by grind [UZ]
theorem P8 {o:Oper} {k:ByteArray} (hk:UZ o=some k):lY E ops o Z Z'↔∃ t m v,o.op = .insert t m (.const (.string k)) v/\∃ i q cs b L z,a3M E.mu E.ln (kW m) (Z.rd m)=true/\Bq E.P t=some (none,z)/\Z.rd m=some (.dA 0 i)/\Z.rd v=some q/\Z.h[i]? = some (some cs)/\Ad cs=some (b,L)/\xE L/\(!b||q.flat)=true /\
 Z' = { Z with h:=Z.h.set i (some [oW b (jo none L (.str k) q)]) }:=by
 obtain ⟨t,m,v,h1,h2,h3⟩:=bJ9 hk;obtain ⟨dst,op,type,pos,after,guard⟩:=o;subst h1; subst h2; subst h3;have hr:Z.rd (.const (.string k))=some (.str k):=rfl;constructor
 .rintro (⟨_,h⟩ | ⟨h,_⟩)
  .obtain ⟨p,Z1,hs,_,hp⟩:=h;simp only[ASt.put,a4J] at hp;subst hp;simp only[bY] at hs;split at hs
   .cases hs
   rename_i hso;split at hs
   .rename_i s z i q y ht g1 gk g3 gd;rw[hr] at gk;cases gk;split at hs
    .rename_i cs hcs;split at hs
     .rename_i b L hin;split at hs
      .rename_i hik;cases hs;simp only[bI] at hik;have hsn:s=none:=by
        cases s with
        | none=>rfl
        | some kd=>have:=hik.1; simp[yJ] at this
       subst hsn;exact ⟨t,m,v,rfl,i,y,cs,b,L,z,hso,ht,g1,g3,hcs,hin,a5C.1 hik.2.1,hik.2.2,rfl⟩
      .cases hs
     .cases hs
    .cases hs
   .cases hs
  .simp[rX] at h
 .rintro ⟨t',m',v',e,i,q,cs,b,L,z,hso,ht,g1,g3,hcs,hin,hal,hfl,rfl⟩;refine .inl ⟨rfl,?_⟩;refine ⟨.tuple [],{ Z with h:=Z.h.set i (some [oW b (jo none L (.str k) q)]) },?_,trivial,rfl⟩;grind [bY,yJ,a5C]
theorem aQN {b:Bool}:Ad [oW b L]=some (b,L):=by cases b<;>rfl
theorem a'M {x y:Oper} {Z1 Z2:ASt} (h1:lY E ops x Z Z1) (h2:lY E ops y Z1 Z2) (hc:a8L x y=true):∃ τ,lY E ops y Z τ/\lY E ops x τ Z2:=by
 unfold a8L at hc;split at hc
 .rename_i a b hx hy;obtain ⟨t,m,v,e1,i,q,cs,b1,L,z,s1,s2,s3,s4,s5,s6,s7,s8,rfl⟩:=(P8 hx).1 h1;obtain ⟨t',m',v',e2,j,q',cs',b2,L',z',u1,u2,u3,u4,u5,u6,u7,u8,rfl⟩:=(P8 hy).1 h2;by_cases hij:i=j
  .subst hij;have hlt:i<Z.h.length:=(iO.1 s5).1;rw[zx hlt] at u5;injection u5 with u5; injection u5 with u5; subst u5
   rw[aQN] at u6;injection u6 with u6; injection u6 with u6a u6b
   subst u6a; refine ⟨{ Z with h:=Z.h.set i (some [oW b1 (jo none L (.str b) q')]) },(P8 hy).2 ⟨t',m',v',e2,i,q',cs,b1,L,z',u1,u2,u3,u4,s5,s6,s7,u8,rfl⟩,(P8 hx).2 ⟨t,m,v,e1,i,q,[oW b1 (jo none L (.str b) q')],b1,jo none L (.str b) q',z,s1,s2,s3,s4,?_,aQN,bQH s7,s8,?_⟩⟩;simp_all;grind [List.set_set,bQJ]
  .rw[qY hij] at u5;refine ⟨{ Z with h:=Z.h.set j (some [oW b2 (jo none L' (.str b) q')]) },(P8 hy).2 ⟨t',m',v',e2,j,q',cs',b2,L',z',u1,u2,u3,u4,u5,u6,u7,u8,rfl⟩,(P8 hx).2 ⟨t,m,v,e1,i,q,cs,b1,L,z,s1,s2,s3,s4,?_,s6,s7,s8,?_⟩⟩;grind
   grind [List.set_comm]
 .cases hc
theorem a'L {x y:Oper} {Z1 Z2:ASt} (hs:jM Z.s) (h1:lY E ops x Z Z1) (h2:lY E ops y Z1 Z2) (hc:a5U E ops x y=true):∃ τ,lY E ops y Z τ/\lY E ops x τ Z2:=by
 unfold a5U at hc;simp only[bI,jF,BA,List.contains_eq_mem,XJ] at hc;obtain ⟨⟨hw1,hw2⟩,hh⟩:=hc;obtain ⟨c1,p1,k1,e1,a1,b1,r1,t1⟩:=a5E h1;obtain ⟨c2,p2,k2,e2,a2,b2,r2,t2⟩:=a5E h2;have wr:∀ {o:Oper} {c:Option Nat} {k:Nat},(c=none\/c=rV E o)->c=some k->k∈writes E o:=fun hk e=>by
  rcases hk with h | h
  simp_all
  .exact XC _ (by rw[<- h,e]; simp)
 have wd:∀ {o:Oper} {k:Nat},o.dst=some k->k∈writes E o:=fun e=>XB _ (by rw[e]; simp)
 have hsame:∀ {o:Oper} {c:Option Nat} {p:PV} {s:fP} {t:Nat},jM s->(c=none\/c=rV E o)->t∉writes E o->bZ t (uZ o.dst p (wB c s))=bZ t s:=fun hs hk ht=>by rw[Vp (Hf hs),aV (fun e=>ht (wd e)),Vo hs,aV (fun e=>ht (wr hk e))]
 unfold aNG at hh;simp only[Gl,bI,uH] at hh;have hheap:hk E y=0\/Z.h=Z1.h\/(hk E y=1/\nY Z.h=nY Z1.h)\/(hk E y=5/\ET E Z.h Z1.h):=by
  rcases hh with (((((h | h) | h) | h) | h) | h) | h
  simp_all;omega;simp_all;simp_all;simp_all;simp_all
  .rcases h.2 with h2 | h2
   simp_all
   .exact .inr (.inr (.inr ⟨h.1,fun i hi=>(r1 h2 i hi).symm⟩))
 obtain ⟨τ,y1,y2,y3,y4⟩:=t2 Z (fun t ht=>by rw[e1,hsame hs k1 fun hw=>(hw1 t hw).1 ht]) hheap;have bIS:hk E x=0\/τ.h=Z.h\/(hk E x=1/\nY τ.h=nY Z.h)\/(hk E x=5/\ET E τ.h Z.h):=by grind
 obtain ⟨τ',x1,x2,x3,x4⟩:=t1 τ (fun t ht=>by rw[y2,hsame hs k2 fun hw=>hw2 t hw ht]) bIS;refine ⟨τ,y1,?_⟩;have bXQ:τ'.s=Z2.s:=by rw[x2,y2,e2,e1];exact a'R hs (fun k e=>⟨fun e'=>(hw1 k (wd e)).2 (wd e'),fun e'=>(hw1 k (wd e)).2 (wr k2 e')⟩) (fun k e=>⟨fun e'=>(hw1 k (wr k1 e)).2 (wd e'),fun e'=>(hw1 k (wr k1 e)).2 (wr k2 e')⟩)
 have bXM:τ'.h=Z2.h:=by grind
 have:τ'=Z2:=by cases τ'; cases Z2; simp_all
 rw[<- this]; exact x1
theorem aGZ {x y:Oper} {Z1 Z2:ASt} (hs:jM Z.s) (h1:lY E ops x Z Z1) (h2:lY E ops y Z1 Z2) (hc:Jk E ops x y=true):∃ τ,lY E ops y Z τ/\lY E ops x τ Z2:=by grind [Jk,a'L,a'M]
def Chain (E:AE) (ops:Array Oper):List Nat->ASt->ASt->Prop
 | [],Z,Z'=>Z=Z'
 | i::l,Z,Z'=>∃ o,ops[i]? = some o/\∃ Z1,lY E ops o Z Z1/\Chain E ops l Z1 Z'
theorem aGK {i:Nat} {oi:Oper} (hi:ops[i]? = some oi):∀ (p q:List Nat) {Z Z':ASt},jM Z.s->Chain E ops (p ++ i::q) Z Z'->(∀ k,k∈p->∀ ok,ops[k]? = some ok->Jk E ops ok oi=true)->∃ Z1,lY E ops oi Z Z1/\Chain E ops (p ++ q) Z1 Z'
 | [],q,Z,Z',hs,h,_=>by obtain ⟨o,ho,Z1,h1,h2⟩:=h;grind
 | k::p,q,Z,Z',hs,h,hc=>by
  obtain ⟨o,ho,Z1,h1,h2⟩:=h;obtain ⟨Z2,h3,h4⟩:=aGK hi p q (h1.iC hs) h2 fun k hk=>hc k (by simp[hk])
  obtain ⟨τ,d1,d2⟩:=aGZ hs h1 h3 (hc k (by simp) o ho);exact ⟨τ,d1,o,ho,Z2,d2,h4⟩
def aFP (acc:List Nat) (o:Oper):Nat:=o.after.toList.foldl (fun s e=>if Region.binds .any e then s ||| (2 ^ e.on ||| acc.getD e.on 0) else s) 0
def Jd:List Nat->List Oper->List Nat
 | acc,[]=>acc
 | acc,o::l=>Jd (acc ++ [aFP acc o]) l
def Closed (ops:Array Oper) (L:Nat->Prop):Prop:=∀ (j:Nat) o,ops[j]? = some o->L j->∀ e,e∈o.after->Region.binds .any e=true->L e.on
theorem aXP {acc:List Nat} {o:Oper} {k:Nat} (h:(aFP acc o).testBit k=true):∃ e,e∈o.after/\Region.binds .any e=true/\(k=e.on\/(acc.getD e.on 0).testBit k=true):=by
 have key:∀ (l:List Edge) (s:Nat),(l.foldl (fun s e=>if Region.binds .any e then s ||| (2 ^ e.on ||| acc.getD e.on 0) else s) s).testBit k=true->s.testBit k=true\/∃ e,e∈l/\Region.binds .any e=true/\(k=e.on\/(acc.getD e.on 0).testBit k=true):=by
  intro l;induction l with
  | nil=>simp
  | cons e l ih =>grind
 rcases key o.after.toList 0 h with h1 | ⟨e,h1,h2⟩
 grind
 grind
def a4K (ops:Array Oper) (acc:List Nat):Prop:=∀ (j:Nat) o,j<acc.length->ops[j]? = some o->∀ L,Closed ops L->(∀ e,e∈o.after->Region.binds .any e=true->L e.on)->∀ k,(acc.getD j 0).testBit k=true->L k
theorem aFQ {ops:Array Oper}:∀ (l:List Oper) (acc:List Nat),a4K ops acc->(∀ j,l[j]? = ops[acc.length+j]?)->a4K ops (Jd acc l)
 | [],acc,h,_=>h
 | o::l,acc,h,hl=>by
  have ho:ops[acc.length]? = some o:=by have:=hl 0; simp_all
  refine aFQ l _ (fun j o' hj ho' L hL hd k hk => ?_) (fun j=>by have:=hl (j+1); grind);rcases zy j acc.length with hlt | hge
  .refine h j o' hlt ho' L hL hd k ?_;rwa [aD',vW hlt] at hk
  .have hje:j=acc.length:=by grind
   subst hje;rw[ho] at ho'; cases ho';simp at hk;obtain ⟨e,he,hb,hkk⟩:=aXP hk;rcases hkk with rfl | hkk
   simp_all
   .have hle:=hd e he hb;rcases zy e.on acc.length with h1 | h1
    .cases hoe:ops[e.on]? with
     | none =>have h2:=(yj.1 ho).1;rw[Array.getElem?_eq_none_iff] at hoe; omega
     | some oe=>exact h e.on oe h1 hoe L hL (hL e.on oe hoe hle) k (by omega)
    simp_all
def okD (E:AE) (ops:Array Oper):Bool :=
 let A:=Jd [] ops.toList
 (List.range ops.size).all fun j=>match ops[j]? with
  | some oj=>oj.after.toList.all (fun e => !Region.binds .any e||decide (e.on<j))&&(List.range j).all fun i=>match ops[i]? with
   | some oi=>(A.getD j 0).testBit i||Jk E ops oi oj
   | none=>true
  | none=>true
theorem bND (h:okD E ops=true):(∀ (j:Nat) o,ops[j]? = some o->∀ e,e∈o.after->Region.binds .any e=true->e.on<j) /\
 ∀ (i j:Nat) oi oj,i<j->ops[i]? = some oi->ops[j]? = some oj->∀ L,Closed ops L->(∀ e,e∈oj.after->Region.binds .any e=true->L e.on)->¬ L i->Jk E ops oi oj=true:=by
 unfold okD at h;simp only[jF,XD] at h;have hA:a4K ops (Jd [] ops.toList):=aFQ ops.toList [] (fun j o hj=>by simp at hj) (fun j=>by simp);have hlen:∀ (l:List Oper) (acc:List Nat),(Jd acc l).length=acc.length+l.length:=by
  intro l;induction l with
  | nil=>simp[Jd]
  | cons o l ih=>grind [Jd]
 constructor;grind
 .intro i j oi oj hij hi hj L hL hd hn;have hjs:=(yj.1 hj).1;have:=h j hjs;simp only[hj,bI,jF,XD] at this;have:=this.2 i hij;simp only[hi,Gl] at this;rcases this with h1 | h1
  .exact absurd (hA j oj (by simp_all) hj L hL hd i h1) hn
  .exact h1
theorem aMR {out:Nat->Nat} {M:Mem} {B:aP} {a:Act} {w:World} (hI:Inv E.n M B out Z a.tmps w) {b:Bool} (h:rX ops Z o=some b):Region.wanted o (yielded ops a.tmps)=b:=by unfold rX at h;grind [Region.wanted,AY,P6]
theorem aW0 {out:Nat->Nat} {M:Mem} {B:aP} {a:Act} {w:World} (hI:Inv E.n M B out Z a.tmps w) {i:Nat} (hi:ops[i]? = some o) (h:lY E ops o Z Z') {K:Act->World->Prop} {Q:Exit->Act->World->Prop}
 (hK:∀ v M' B' w',Good E.n out M B Z a.tmps w M' B' Z' (a.put o.dst v).tmps w'->K (a.put o.dst v) w'):wpOp E.P ops Q i K a w:=by
 unfold wpOp;simp only[hi];rcases h with ⟨hg,hr⟩ | ⟨hg,hp⟩
 .rw[aX (aMR hI hg)];refine .inl ?_;unfold GH at hr;cases hc:AZ o with
  | some fa =>
   rw[hc] at hr;obtain ⟨g,first,caps,az,r,h1,h2,h3⟩:=hr;refine Y3 (K:=fun τ=>τ=Z') hI ?_ fun v τ M' B' w' e hG=>by grind
   unfold xG;obtain ⟨dst,op,type,pos,after,guard⟩:=o;cases op<;>simp[AZ] at hc
   rename_i c;obtain ⟨callee,YL,ts⟩:=c;cases callee<;>simp at hc
   obtain ⟨rfl,rfl⟩:=hc;simp only[h1,h2];rcases h3 with ⟨h3,h4,h5,h6⟩ | ⟨_,h',h3,_,h6⟩
   .refine ⟨r,Z.h,h3.frame' h4 h5 _,?_⟩;unfold jE;simp_all
   .refine ⟨r,h',h3,?_⟩;grind [jE]
  | none =>
   rw[hc] at hr;obtain ⟨p,Z1,h1,h2,h3⟩:=hr;refine aUT (K:=fun τ=>τ=Z') hI ?_ fun v τ M' B' w' e hG=>by grind
   grind [yY,jE]
 .rw[aV (by rw[aMR hI hg]; simp)];exact hK undef M B w (a3H hI hp)
def qB (n:Nat) (L:Array Bool):List Nat:=(List.range n).filter fun i => !L.getD i true
theorem Pm {n:Nat} {L:Array Bool} {i:Nat}:i∈qB n L↔i<n/\L.getD i true=false:=by grind [qB]
theorem bVE {n:Nat} {L:Array Bool} {i:Nat} (hL:L.size=n) (hi:i<n) (hu:L.getD i true=false):∃ p q,qB n L=p ++ i::q/\qB n (L.setIfInBounds i true)=p ++ q/\∀ k,k∈p->k<i:=by
 have hr:List.range n=List.range i ++ i::(List.range' (i+1) (n-i-1)):=by
  have:n=i+(n-i-1+1):=by omega
  rw[aE6,aE6,this,<- List.range'_append_1,aE5];simp
 have hne:∀ j,j≠i->(L.setIfInBounds i true).getD j true=L.getD j true:=fun j h=>by simp[aW4 (Ne.symm h)]
 have heq:(L.setIfInBounds i true).getD i true=true:=by simp[hL]
 refine ⟨(List.range i).filter fun i => !L.getD i true,(List.range' (i+1) (n-i-1)).filter fun i => !L.getD i true,?_,?_,fun k hk => ?_⟩;grind [qB]
 grind [qB,List.filter_congr]
 simp_all
theorem aFS (hok:okD E ops=true) {out:Nat->Nat} {Q:Exit->Act->World->Prop}:∀ (fuel:Nat) (L:Array Bool) {M:Mem} {B:aP} {Z:ASt} {a:Act} {w:World} {K:ASt->Prop} {Z':ASt},L.size=ops.size->(qB ops.size L).length=fuel->Closed ops (fun i=>L.getD i false=true) ->
 Inv E.n M B out Z a.tmps w->Chain E ops (qB ops.size L) Z Z'->K Z' ->
 (∀ M' B' a' w',K Z'->Good E.n out M B Z a.tmps w M' B' Z' a'.tmps w'->a'.defers=a.defers->Q .normal a' w')->wpAny E.P .any ops Q fuel L a w:=by
 obtain ⟨hback,hcomm⟩:=bND hok;have bIY:∀ (L:Array Bool),L.size=ops.size->Region.ready .any ops L = []->qB ops.size L = []:=by
  intro L hL h;cases hu:qB ops.size L with
  | nil=>rfl
  | cons i l =>
   exfalso;have him:i∈qB ops.size L:=by rw[hu]; simp
   obtain ⟨h1,h2⟩:=Pm.1 him;have ho:ops[i]? = some ops[i]:=Array.getElem?_eq_getElem h1;have hmin:∀ k,k<i->L.getD k true=true:=fun k hk=>by grind [qB,List.filter_sublist,List.pairwise_lt_range]
   have:i∈Region.ready .any ops L:=RD.2 ⟨h2,_,ho,fun e he hb=>by have hlt:=hback i _ ho e he hb;have:=hmin _ hlt;grind⟩;rw[h] at this; cases this
 intro fuel;induction fuel with
 | zero =>
  intro L M B Z a w K Z' hL hlen _ hI hc hk hQ;have hnil:qB ops.size L = []:=lJ hlen;rw[hnil] at hc;have:Z=Z':=hc;subst this;refine ⟨?_,hQ M B a w hk (Good.refl hI) rfl⟩;cases hr:Region.ready .any ops L with
  | nil=>rfl
  | cons i l =>
   exfalso;have hi:i∈Region.ready .any ops L:=by rw[hr]; simp
   obtain ⟨h1,o,ho,_⟩:=RD.1 hi;have:i∈qB ops.size L:=Pm.2 ⟨(yj.1 ho).1,h1⟩;rw[hnil] at this; cases this
 | succ fuel ih =>
  intro L M B Z a w K Z' hL hlen hcl hI hc hk hQ;refine ⟨fun h=>by rw[bIY L hL h] at hlen; simp at hlen,fun i hi => ?_⟩;obtain ⟨h1,o,ho,hd⟩:=RD.1 hi;have his:=(yj.1 ho).1;obtain ⟨p,q,u1,u2,u3⟩:=bVE hL his h1;rw[u1] at hc;obtain ⟨Z1,s1,s2⟩:=aGK ho p q hI.iC hc fun k hkp ok hok'=>by
   have uN:k∈qB ops.size L:=by rw[u1]; simp_all
   obtain ⟨k1,k2⟩:=Pm.1 uN;grind
  refine aW0 hI ho s1 fun v M' B' w' hG => ?_
  refine ih (L.setIfInBounds i true) (by grind) (by rw[u2]; rw[u1] at hlen; grind) (fun j oj hj hlj e he hb => ?_) hG.inv (by rw[u2]; exact s2) hk fun M2 B2 a2 w2 hk2 hG2 hd2=>hQ M2 B2 a2 w2 hk2 (hG.trans hG2) (by rw[hd2,Act.Fp])
  by_cases hij:i=j;grind [getD_set_true]
  .have aNH:(L.setIfInBounds i true).getD j false=true:=hlj;rw[getD_set_ne false hij] at aNH;exact getD_set_true (hcl j oj hj aNH e he hb)
def a5L (E:AE) (g:FuncId) (args:bZZ) (dst:Option Nat) (K:ASt->Prop) (Z:ASt):Prop:=(∃ r,Ev E.P g args [] r []/\r.flat=true/\PV.flats args=true/\jE E dst r Z K)\/(dF E.sy dst=true/\∃ r h',Ev E.P g args Z.h r h'/\ET E h' Z.h/\jE E dst r { Z with h:=h' } K)
def BZ (E:AE) (o:Oper) (K:ASt->Prop) (Z:ASt):Prop :=
 match AZ o with
 | some (f,args)=>(match Z.rd f,ji (args.map Z.rd) with
  | some (.func (.func g) first caps),some az=>a5L E g (first ++ az ++ caps) o.dst K Z
  | _,_=>False)
 | none=>yY E o K Z
def sV (E:AE) (ops:Array Oper):List Oper->(ASt->Prop)->ASt->Prop
 | [],Q,Z=>Q Z
 | o::l,Q,Z =>
  match o.guard with
  | none=>BZ E o (sV E ops l Q) Z
  | some (j,want)=>match AY ops Z j with
   | some none=>jE E o.dst (.tuple []) Z (sV E ops l Q)
   | some (some b)=>(b=want->BZ E o (sV E ops l Q) Z)/\(b≠want->jE E o.dst (.tuple []) Z (sV E ops l Q))
   | none=>False
def Y0 (E:AE) (ops:Array Oper) (K:ASt->Prop) (Z:ASt):Prop:=okD E ops=true/\sV E ops ops.toList K Z
theorem WA {d:Option Nat} {p:PV} {K:ASt->Prop} (h:jE E d p Z K):∃ Z',ASt.put E d p Z=some Z'/\K Z':=by grind [jE]
theorem aG1 {K:ASt->Prop} (h:BZ E o K Z):∃ Z',GH E o Z Z'/\K Z':=by
 unfold BZ at h;unfold GH;split at h
 .rename_i f args hc;split at h
  .rename_i g first caps az h1 h2
   rcases h with ⟨r,a1,a2,a3,a4⟩ | ⟨hsy,r,h',a1,aro,a4⟩
   .obtain ⟨Z',a5,a6⟩:=WA a4;exact ⟨Z',⟨g,first,caps,az,r,h1,h2,.inl ⟨a1,a2,a3,a5⟩⟩,a6⟩
   .obtain ⟨Z',a5,a6⟩:=WA a4;exact ⟨Z',⟨g,first,caps,az,r,h1,h2,.inr ⟨hsy,h',a1,aro,a5⟩⟩,a6⟩
  simp_all
 .rename_i hc;unfold yY at h;split at h
  .rename_i p Z1 hs;obtain ⟨Z',a5,a6⟩:=WA h.2;exact ⟨Z',⟨p,Z1,hs,h.1,a5⟩,a6⟩
  simp_all
theorem a5F {K:ASt->Prop}:∀ (l:List Oper) (k:Nat) {Z:ASt},(∀ j,l[j]? = ops[k+j]?)->sV E ops l K Z->∃ Z',Chain E ops (List.range' k l.length) Z Z'/\K Z'
 | [],k,Z,_,h=>⟨Z,rfl,h⟩
 | o::l,k,Z,hl,h=>by
  have ho:ops[k]? = some o:=by have:=hl 0; simp_all
  have go:∀ Z1,lY E ops o Z Z1->sV E ops l K Z1->∃ Z',Chain E ops (List.range' k (o::l).length) Z Z'/\K Z':=fun Z1 h1 h2=>by obtain ⟨Z',h3,h4⟩:=a5F l (k+1) (fun j=>by have:=hl (j+1); grind) h2;exact ⟨Z',by rw[bM,aE5]; exact ⟨o,ho,Z1,h1,h3⟩,h4⟩
  have run:rX ops Z o=some true->BZ E o (sV E ops l K) Z->∃ Z',Chain E ops (List.range' k (o::l).length) Z Z'/\K Z':=fun hg h=>by obtain ⟨Z1,h1,h2⟩:=aG1 h;exact go Z1 (.inl ⟨hg,h1⟩) h2
  have skip:rX ops Z o=some false->jE E o.dst (.tuple []) Z (sV E ops l K)->∃ Z',Chain E ops (List.range' k (o::l).length) Z Z'/\K Z':=fun hg h=>by obtain ⟨Z1,h1,h2⟩:=WA h;exact go Z1 (.inr ⟨hg,h1⟩) h2
  rw[sV] at h;split at h
  grind [rX]
  .rename_i j want hg;split at h
   grind [rX]
   .rename_i b hv;by_cases hb:b=want;grind [rX]
    .exact skip (by simp[rX,hg,hv,hb]) (h.2 hb)
   simp_all
theorem aY2 (hm:E.P.follows .mixedOrders=true) {out:Nat->Nat} {M:Mem} {B:aP} {a:Act} {w:World} {id:Nat} {Q:Exit->Act->World->Prop} {K:ASt->Prop} (hI:Inv E.n M B out Z a.tmps w) (h:Y0 E ops K Z)
 (hQ:∀ Z' M' B' a' w',K Z'->Good E.n out M B Z a.tmps w M' B' Z' a'.tmps w'->a'.defers=a.defers->Q .normal a' w'):(Code.region id ops true).wp E.P Q a w:=by
 obtain ⟨hok,h⟩:=h;obtain ⟨Z',hc,hk⟩:=a5F ops.toList 0 (fun j=>by simp) h;have hd:=hI.drew;have hu:qB ops.size (Array.replicate ops.size false)=List.range' 0 ops.toList.length:=by unfold qB;rw[aDZ.2 (fun i hi=>by have:=XD.1 hi; simp[this]),aE6]; simp
 refine wp_region_any hm ?_;refine aFS hok ops.size (Array.replicate ops.size false) (K:=K) (Z':=Z') (by simp) (by rw[hu]; simp) (fun j o _ h => ?_) hd.1 (by rw[hu]; exact hc) hk fun M' B' a' w' hk' hG hd'=>hQ Z' M' B' a' w' hk' (hd.2.trans hG) hd'
 have h':(Array.replicate ops.size false).getD j false=true:=h;simp[Array.getElem?_replicate] at h';split at h'<;>simp at h'
end
def RG (E:AE) (ops:Array Oper) (Kp:ASt->Prop):Nat->Array Bool->ASt->Prop
 | 0,L,Z=>Region.ready .any ops L = []/\Kp Z
 | fuel+1,L,Z=>(Region.ready .any ops L = []->Kp Z)/\∀ i,i∈Region.ready .any ops L->∃ o,ops[i]? = some o/\∃ Z',lY E ops o Z Z'/\RG E ops Kp fuel (L.setIfInBounds i true) Z'
def aGY (j:Nat) (o:Oper):Bool:=o.after.toList.any fun e=>Region.binds .any e&&e.on==j
def a6P (E:AE) (ops:Array Oper) (L:Array Bool) (j:Nat):Bool:=match ops[j]? with
 | none=>false
 | some o=>(qB ops.size L).all fun k=>k==j||(match ops[k]? with | none=>false | some ok=>aGY j ok||Jk E ops o ok)
def Ho (E:AE) (ops:Array Oper) (L:Array Bool):List Nat->Option Nat
 | []=>none
 | j::l=>match a6P E ops L j with | true=>some j | false=>Ho E ops L l
def JS (E:AE) (ops:Array Oper) (Kp:ASt->Prop):Nat->Array Bool->ASt->Prop
 | 0,L,Z=>Region.ready .any ops L = []/\Kp Z
 | fuel+1,L,Z=>(Region.ready .any ops L = []->Kp Z)/\∀ i,i∈(match Ho E ops L (Region.ready .any ops L) with | some j => [j] | none=>Region.ready .any ops L)->∃ o,ops[i]? = some o/\∃ Z',lY E ops o Z Z'/\JS E ops Kp fuel (L.setIfInBounds i true) Z'
section
variable {E:AE} {ops:Array Oper} {Kp:ASt->Prop}
theorem aEA {Kq:ASt->Prop} (hm:∀ Z,Kp Z->Kq Z):∀ (fuel:Nat) {L:Array Bool} {Z:ASt},JS E ops Kp fuel L Z->JS E ops Kq fuel L Z
 | 0,L,Z,h=>⟨h.1,hm Z h.2⟩
 | fuel+1,L,Z,h=>⟨fun e=>hm Z (h.1 e),fun i hi=>by obtain ⟨o,ho,Z',h1,h2⟩:=h.2 i hi;exact ⟨o,ho,Z',h1,aEA hm fuel h2⟩⟩
theorem a5A {out:Nat->Nat} {Q:Exit->Act->World->Prop}:∀ (fuel:Nat) (L:Array Bool) {M:Mem} {B:aP} {Z:ASt} {a:Act} {w:World},Inv E.n M B out Z a.tmps w->RG E ops Kp fuel L Z ->
 (∀ Zt M' B' a' w',Kp Zt->Good E.n out M B Z a.tmps w M' B' Zt a'.tmps w'->a'.defers=a.defers->Q .normal a' w')->wpAny E.P .any ops Q fuel L a w
 | 0,L,M,B,Z,a,w,hI,h,hQ=>⟨h.1,hQ Z M B a w h.2 (Good.refl hI) rfl⟩
 | fuel+1,L,M,B,Z,a,w,hI,h,hQ=>by
  refine ⟨fun e=>hQ Z M B a w (h.1 e) (Good.refl hI) rfl,fun i hi => ?_⟩;obtain ⟨o,ho,Z',h1,h2⟩:=h.2 i hi;refine aW0 hI ho h1 fun v M' B' w' hG => ?_
  exact a5A fuel _ hG.inv h2 fun Z3 M3 B3 a3 w3 hk3 hG3 hd=>hQ Z3 M3 B3 a3 w3 hk3 (hG.trans hG3) (by rw[hd,Act.Fp])
theorem aI9 {L:Array Bool} {j:Nat}:∀ {l:List Nat},Ho E ops L l=some j->j∈l/\a6P E ops L j=true
 | [],h=>by cases h
 | i::l,h=>by
  unfold Ho at h;split at h
  .rename_i hc; cases h; exact ⟨by simp,hc⟩
  .have:=aI9 h; exact ⟨by simp[this.1],this.2⟩
theorem bSB {L:Array Bool} {i j:Nat}:(L.setIfInBounds i true).setIfInBounds j true=(L.setIfInBounds j true).setIfInBounds i true:=by grind
theorem aBY {L:Array Bool} {i j:Nat} (hi:i∈Region.ready .any ops L) (hne:i≠j):i∈Region.ready .any ops (L.setIfInBounds j true):=by obtain ⟨h1,o,ho,hd⟩:=RD.1 hi;refine RD.2 ⟨?_,o,ho,fun e he hb=>getD_set_true (hd e he hb)⟩;rw[getD_set_ne true (Ne.symm hne)]; exact h1
theorem bVD {n:Nat} {L:Array Bool} {i k:Nat} (h:k∈qB n (L.setIfInBounds i true)):k∈qB n L:=by obtain ⟨h1,h2⟩:=Pm.1 h;refine Pm.2 ⟨h1,?_⟩;by_cases hik:i=k;simp_all;simp_all
theorem b0D {j:Nat} {o:Oper} (ho:ops[j]? = some o):∀ (fuel:Nat) {L:Array Bool} {Z Zj:ASt},jM Z.s->j∈Region.ready .any ops L->(∀ k,k∈qB ops.size L->k≠j->∀ ok,ops[k]? = some ok->aGY j ok=true\/Jk E ops o ok=true) ->
 lY E ops o Z Zj->RG E ops Kp fuel (L.setIfInBounds j true) Zj->RG E ops Kp (fuel+1) L Z:=by
 intro fuel;induction fuel with
 | zero =>
  intro L Z Zj hs hj hc h1 h2;refine ⟨fun e=>(by rw[e] at hj; cases hj),fun i hi => ?_⟩;by_cases hij:i=j;grind
  .have hi':=aBY hi hij;rw[h2.1] at hi'; cases hi'
 | succ fuel ih =>
  intro L Z Zj hs hj hc h1 h2;refine ⟨fun e=>(by rw[e] at hj; cases hj),fun i hi => ?_⟩;by_cases hij:i=j;grind
  .obtain ⟨oi,hoi,Zji,h3,h4⟩:=h2.2 i (aBY hi hij);obtain ⟨hi1,oi2,aNK,bIP⟩:=RD.1 hi;rw[hoi] at aNK; cases aNK;have hcomm:=(hc i (Pm.2 ⟨(yj.1 hoi).1,hi1⟩) hij oi hoi).resolve_left fun hd=>by obtain ⟨e,he,hb⟩:=List.any_eq_true.1 hd;simp only[bI,uH] at hb;have h5:=bIP e (by grind) hb.1;rw[hb.2] at h5;have h6:=(RD.1 hj).1;grind
   grind [aGZ,lY.iC,aBY,bVD,bSB]
theorem Xq:∀ (fuel:Nat) {L:Array Bool} {Z:ASt},jM Z.s->JS E ops Kp fuel L Z->RG E ops Kp fuel L Z
 | 0,L,Z,_,h=>h
 | fuel+1,L,Z,hs,h=>by
  unfold JS at h;cases hf:Ho E ops L (Region.ready .any ops L) with
  | some j =>rw[hf] at h;obtain ⟨hm,hc⟩:=aI9 hf;obtain ⟨o,ho,Zj,h1,h2⟩:=h.2 j (by simp);unfold a6P at hc;rw[ho] at hc;simp only[jF,Gl,uH] at hc;refine b0D ho fuel hs hm (fun k hk hkj ok hok => ?_) h1 (Xq fuel (h1.iC hs) h2);have:=(hc k hk).resolve_left hkj;rw[hok] at this;exact (Gl _ _).mp this
  | none =>rw[hf] at h;refine ⟨h.1,fun i hi => ?_⟩;obtain ⟨o,ho,Z',h1,h2⟩:=h.2 i hi;exact ⟨o,ho,Z',h1,Xq fuel (h1.iC hs) h2⟩
theorem aY4 {o:Oper} {Z:ASt} (h:sV E ops [o] Kp Z):∃ Z',lY E ops o Z Z'/\Kp Z':=by
 have run:rX ops Z o=some true->BZ E o Kp Z->∃ Z',lY E ops o Z Z'/\Kp Z':=fun hg h=>by obtain ⟨Z1,h1,h2⟩:=aG1 h;exact ⟨Z1,.inl ⟨hg,h1⟩,h2⟩
 have skip:rX ops Z o=some false->jE E o.dst (.tuple []) Z Kp->∃ Z',lY E ops o Z Z'/\Kp Z':=fun hg h=>by obtain ⟨Z1,h1,h2⟩:=WA h;exact ⟨Z1,.inr ⟨hg,h1⟩,h2⟩
 rw[sV] at h;split at h
 .rename_i hg; exact run (by simp[rX,hg]) h
 .rename_i j want hg;split at h
  .rename_i hv; exact skip (by simp[rX,hg,hv]) h
  .rename_i b hv;by_cases hb:b=want
   .exact run (by simp[rX,hg,hv,hb]) (h.1 hb)
   .exact skip (by simp[rX,hg,hv,hb]) (h.2 hb)
  simp_all
end
def aG0 (E:AE) (ops:Array Oper) (K:ASt->Prop) (Z:ASt):Prop:=Y0 E ops K Z\/JS E ops K ops.size (Array.replicate ops.size false) Z
theorem aY0 {E:AE} (hm:E.P.follows .mixedOrders=true) {out:Nat->Nat} {M:Mem} {B:aP} {Z:ASt} {a:Act} {w:World} {id:Nat} {ops:Array Oper} {Q:Exit->Act->World->Prop} {K:ASt->Prop} (hI:Inv E.n M B out Z a.tmps w) (h:aG0 E ops K Z)
 (hQ:∀ Z' M' B' a' w',K Z'->Good E.n out M B Z a.tmps w M' B' Z' a'.tmps w'->a'.defers=a.defers->Q .normal a' w'):(Code.region id ops true).wp E.P Q a w:=by
 rcases h with h | h
 grind [aY2]
 .have hd:=hI.drew;exact wp_region_any hm (a5A ops.size _ hd.1 (Xq _ hd.1.iC h) fun Zt M' B' a' w' hk hG hdf=>hQ Zt M' B' a' w' hk (hd.2.trans hG) hdf)
inductive AX where
 | normal
 | ret
 | exit (id:Nat)
def AX.toExit:AX->Exit
 | .normal => .normal
 | .ret => .ret
 | .exit i => .exit i
def ASt.keep (l:List Nat) (Z:ASt):ASt := { Z with s:=Z.s.filter fun kp=>l.contains kp.1 }
def vO (sz:List (Nat×List Nat)):fP->fP
 | [] => []
 | (k,p)::l=>(match sz.lookup k with | some z=>(k,p.zo z) | none=>(k,p))::vO sz l
def aAH (zs:List Nat) (p:PV) (h:aG):aG:=match p with
 | .ptr i 0=>(match h[i]? with | some (some cs)=>h.set i (some (yS zs cs)) | _=>h)
 | _=>h
def aAD (s:fP):List (Nat×List Nat)->aG->aG
 | [],h=>h
 | (k,zs)::l,h=>aAD s l (match bZ k s with | some p=>aAH zs p h | none=>h)
def ASt.head (E:AE) (Z:ASt):ASt:=⟨vO E.sz (Z.keep E.vars).s,aAD (vO E.sz (Z.keep E.vars).s) E.pt Z.h⟩
def ASt.gc (l:List Nat) (m:Nat) (Z:ASt):ASt:=⟨Z.s.filter fun kp=>l.contains kp.1,Z.h.take m⟩
def Dt (l:List Nat) (m:Nat) (Z:ASt):Bool:=(Z.gc l m).s.all (fun kp=>kp.2.blw m)&&AL m (Z.gc l m).h
def DY (K:ASt->Prop) (Q:AX->ASt->Prop):AX->ASt->Prop
 | .normal,Z=>K Z
 | e,Z=>Q e Z
def lT (sz:Nat) (cs:bZZ) (n:Nat):bZZ:=match sz with
 | 1=>(cs.take n).map PV.un
 | _=>(List.range n).map fun j => .agg (((cs.drop (j*sz)).take sz).map PV.un)
def Yy (k:Nat) (Z:ASt):ASt:=match bZ k Z.s with
 | some (.slh i 0 n sz)=>(match Z.h[i]? with
  | some (some cs)=>(match decide (n*sz<=cs.length)&&decide (0<sz)&&cs.all fun p=>p.one&&p.flat with
   | true=>⟨iM k (.sl false sz (lT sz cs n)) Z.s,Z.h.set i none⟩
   | false=>Z)
  | _=>Z)
 | _=>Z
def a6Q (k:Nat) (Z:ASt):ASt:=match bZ k Z.s with
 | some (.slh i 0 n 1)=>(match Z.h[i]? with
  | some (some cs)=>(match Nat.beq cs.length n&&cs.all fun p=>p.one&&p.flat with
   | true=>⟨iM k (.sl true 1 (cs.map PV.un)) Z.s,Z.h.set i none⟩
   | false=>Z)
  | _=>Z)
 | _=>Z
def QZ (k:Nat) (Z:ASt):ASt:=match bZ k Z.s with
 | some (.gX true n sz cs)=>(match Nat.ble 1 n with
  | true=>⟨iM k (.slh Z.h.length 0 n sz) Z.s,Z.h ++ [some cs]⟩
  | false=>⟨iM k (.sl false sz []) Z.s,Z.h⟩)
 | _=>Z
def WC (k j:Nat) (Z:ASt):ASt:=match bZ k Z.s with
 | some (.ptr i 0)=>(match Z.h[i]? with
  | some (some cs0)=>(match cs0[j]? with
   | some (.gX true n sz cs)=>(match Nat.ble 1 n with
    | true=>⟨Z.s,Z.h.set i (some (cs0.set j (.slh Z.h.length 0 n sz))) ++ [some cs]⟩
    | false=>⟨Z.s,Z.h.set i (some (cs0.set j (.sl false sz [])))⟩)
   | _=>Z)
  | _=>Z)
 | _=>Z
def Yv (k j:Nat) (Z:ASt):ASt:=match bZ k Z.s with
 | some (.ptr i2 0)=>(match Z.h[i2]? with
  | some (some cs0)=>(match cs0[j]? with
   | some (.slh i 0 n sz)=>(match Z.h[i]? with
    | some (some cs)=>(match decide (n*sz<=cs.length)&&decide (0<sz)&&cs.all (fun p=>p.one&&p.flat) && !Nat.beq i i2 with
     | true=>⟨Z.s,(Z.h.set i none).set i2 (some (cs0.set j (.sl false sz (lT sz cs n))))⟩
     | false=>Z)
    | _=>Z)
   | _=>Z)
  | _=>Z)
 | _=>Z
def Yx (k:Nat) (Z:ASt):ASt:=match bZ k Z.s with
 | some (.ptr i 0)=>(match Z.h[i]? with
  | some (some cs)=>(match decide (0<cs.length)&&cs.all fun p=>p.one&&p.flat with
   | true=>⟨iM k (.cst ((lT cs.length cs 1).headD .nilp)) Z.s,Z.h.set i none⟩
   | false=>Z)
  | _=>Z)
 | _=>Z
def xK (k:Nat) (Z:ASt):ASt:=match Nat.ble 9000000 k with
 | true=>Yx (k-9000000) Z
 | false=>match Nat.ble 5000000 k with
 | true=>Yv ((k-5000000) / 100) ((k-5000000) % 100) Z
 | false=>match Nat.ble 4000000 k with
 | true=>WC ((k-4000000) / 100) ((k-4000000) % 100) Z
 | false=>match Nat.ble 3000000 k with
 | true=>QZ ((k-3000000) % 500000) Z
 | false=>match Nat.ble 1000000 k with
  | true=>Yy (k-1000000) Z
  | false=>a6Q k Z
def yF:List Nat->ASt->ASt
 | [],Z=>Z
 | k::ks,Z=>yF ks (xK k Z)
def jA (m0:Nat) (K:ASt->Prop) (Z:ASt):Prop:=∃ ks,K (yF ks Z)\/∃ l m,m0<=m/\Dt l m (yF ks Z)=true/\K ((yF ks Z).gc l m)
def O3 (id:Nat) (Q:AX->ASt->Prop):AX->ASt->Prop
 | .exit i,Z=>if i=id then Q .normal Z else Q (.exit i) Z
 | e,Z=>Q e Z
def Ll (m0:Nat) (body:(AX->ASt->Prop)->ASt->Prop) (Q:AX->ASt->Prop):Nat->ASt->Prop
 | 0,_=>False
 | n+1,Z=>∃ l m,m0<=m/\Dt l m Z=true/\body (DY (Ll m0 body Q n) Q) (Z.gc l m)
def aQG (m0:Nat) (body:(AX->ASt->Prop)->ASt->Prop) (Q:AX->ASt->Prop) (Z:ASt):Prop:=∃ n,Ll m0 body Q n Z
def dS (E:AE) (m0:Nat):Code->(AX->ASt->Prop)->ASt->Prop
 | .skip,Q,Z=>Q .normal Z
 | .region _ ops draw,Q,Z=>if draw then aG0 E ops (Q .normal) (Z.head E) else lQ E ops ops.toList (Q .normal) (Z.head E)
 | .seq x y,Q,Z=>dS E m0 x (DY (jA m0 (dS E m0 y Q)) Q) Z
 | .cond c x y,Q,Z=>match Z.rd c with
  | some (.bool b)=>(b=true->dS E m0 x Q Z)/\(b=false->dS E m0 y Q Z)
  | _=>False
 | .block id x,Q,Z=>dS E m0 x (O3 id Q) Z
 | .loop x,Q,Z=>aQG m0 (dS E m0 x) Q Z
 | .exit id,Q,Z=>Q (.exit id) Z
 | .ret,Q,Z=>Q .ret Z
 | .scope x,Q,Z=>dS E m0 x Q Z
 | .label _,Q,Z=>Q .normal Z
 | .rangeFunc _ _ _ _,_,_=>False
 | .goto _,_,_=>False
 | .refuse _,_,_=>False
structure cu (n:Nat) (out:Nat->Nat) (m0:Nat) (M:Mem) (B:aP) (Z:ASt) (t:Array Value) (w:World) (M':Mem) (B':aP) (Z':ASt) (t':Array Value) (w':World):Prop where
 inv:Inv n M' B' out Z' t' w'
 mem:∀ (b o:Nat) (v:Value),M b o=some v->M' b o=some v
 pre:∀ (i:Nat) (c:Nat×Nat×TypeId),i<m0->B[i]? = some c->B'[i]? = some c
 fr:Fr (fp B Z t w) M w M' w'
 own:∀ b,b<w.heap.size->fp B' Z' t' w' b<=fp B Z t w b
section
variable {n:Nat} {out:Nat->Nat} {m0:Nat} {M M1 M2:Mem} {B B1 B2:aP} {Z Z1 Z2:ASt} {t t1 t2:Array Value} {w w1 w2:World} {E:AE}
theorem cu.trans (h:cu n out m0 M B Z t w M1 B1 Z1 t1 w1) (k:cu n out m0 M1 B1 Z1 t1 w1 M2 B2 Z2 t2 w2):cu n out m0 M B Z t w M2 B2 Z2 t2 w2 :=⟨k.inv,fun b o v e=>k.mem b o v (h.mem b o v e),fun i c hi e=>k.pre i c hi (h.pre i c hi e),h.fr.trans k.fr (fun b hb h0=>by have:=h.own b hb; omega),fun b hb=>ng (k.own b (Qy hb h.fr.size)) (h.own b hb)⟩
theorem Good.c (h:Good n out M B Z t w M1 B1 Z1 t1 w1):cu n out m0 M B Z t w M1 B1 Z1 t1 w1:=⟨h.inv,h.le.mem,fun i c _ e=>h.le.blk i c e,h.fr,h.own⟩
theorem cu.refl (h:Inv n M B out Z t w):cu n out m0 M B Z t w M B Z t w:=(Good.refl h).c
theorem aAI (f:Nat×PV->Bool) (b:Nat):∀ s:fP,ik (s.filter f) t b<=ik s t b
 | []=>fK _
 | (k,p)::l=>by have:=aAI f b l;rw[List.filter_cons];grind [ik]
theorem a3E (f:Nat->Bool) {k:Nat} {p:PV}:∀ {s:fP},bZ k (s.filter fun kp=>f kp.1)=some p->bZ k s=some p
 | [],h=>by simp_all
 | (j,q)::l,h=>by
  rw[List.filter_cons] at h;split at h
  .rw[bZ] at h ⊢;split at h
   simp_all
   .rename_i e; rw[aV e]; exact a3E f h
  .rename_i hf;have:=a3E f h;rw[bZ];split
   .rename_i e; subst e;have hm:=a3F h;rw[List.mem_filter] at hm;simp_all
   omega
theorem aAG (m:Nat) (b:Nat):∀ (h:aG) (B:aP),aT w (h.take m) (B.take m) b<=aT w h B b:=by
 induction m with
 | zero=>intro h B; simp[aT]
 | succ m ih =>
  intro h B;cases h with
  | nil=>simp[aT]
  | cons x h =>
   cases B with
   | nil=>cases x<;>simp[aT]
   | cons c B =>have:=ih h B;cases x<;>simp only[List.take_succ_cons,aT]<;>omega
theorem bKY (hI:Inv n M B out Z t w) (l:List Nat):Good n out M B Z t w M B (Z.keep l) t w:=by
 have hle:∀ b,fp B (Z.keep l) t w b<=fp B Z t w b:=fun b=>by have:=aAI (t:=t) (fun kp=>l.contains kp.1) b Z.s;grind [fp,ASt.keep]
 exact ⟨⟨hI.size,hI.mem,List.Pairwise.sublist List.filter_sublist hI.iC,fun k p hp=>hI.slots k p (a3E (fun k=>l.contains k) hp),hI.heap,fun b=>by have:=hle b; have:=hI.cnt b; omega,fun b hb=>by have:=hle b; have:=hI.new b hb; omega⟩,dH.refl _ _,Fr.refl _ _ _,fun b _=>hle b⟩
theorem VQ {k:Nat} {p:PV} {b:Nat} (hk:k<t.size) (hs:jM Z.s):ik (iM k p Z.s) t b+pg Z.s t k b=ik Z.s t b+bT p (t.getD k undef) b:=by
 have hset:t.setIfInBounds k (t.getD k undef)=t:=by apply Array.ext (by simp);intro i h1 h2;by_cases h:k=i;simp_all;simp_all
 have:=VR (p:=p) (v:=t.getD k undef) (b:=b) hk hs;rwa [hset] at this
theorem EM {b:Nat}:∀ {h:aG} {B:aP} {i:Nat} {cs:bZZ} {c:Nat×Nat×TypeId},h[i]? = some (some cs)->B[i]? = some c->aT w (h.set i none) B b+((if c.1=b then 1 else 0)+dn cs (gy w c.1) b)=aT w h B b
 | [],_,_,_,_,h,_=>by simp at h
 | _::_,[],_,_,_,_,h=>by simp at h
 | some ds::h,d::B,0,cs,c,h1,h2=>by grind [aT]
 | none::h,d::B,0,cs,c,h1,h2=>by simp at h1
 | some ds::h,d::B,i+1,cs,c,h1,h2=>by have:=EM (b:=b) (h:=h) (B:=B) (i:=i) (cs:=cs) (c:=c) (by grind) (by grind); grind [aT]
 | none::h,d::B,i+1,cs,c,h1,h2=>by have:=EM (b:=b) (h:=h) (B:=B) (i:=i) (cs:=cs) (c:=c) (by grind) (by grind); grind [aT]
theorem b0E (hI:Inv n M B out Z t w) (k:Nat):∃ M',cu n out m0 M B Z t w M' B (a6Q k Z) t w:=by
 unfold a6Q;split;case h_2=>exact ⟨M,cu.refl hI⟩
 rename_i i m hk;split;case h_2=>exact ⟨M,cu.refl hI⟩
 rename_i cs hi;split;case h_2=>exact ⟨M,cu.refl hI⟩
 rename_i hb;simp only[bI,jF] at hb;obtain ⟨hb1,hb2⟩:=hb;have hm:cs.length=m:=oJ hb1;obtain ⟨hkn,hrep,_⟩:=hI.slots k _ hk;obtain ⟨c,cap,⟨hc,hcm⟩,hv,hle,hcap⟩:=tZ.1 hrep;obtain ⟨vs,ty,r1,o2,o3,o4,o5⟩:=hI.heap.at hi hc;obtain ⟨ty,rfl,o1⟩:=EU r1 (by rw[o2.2]; exact hcm);have hkt:k<t.size:=by rw[hI.size]; exact hkn
 have hown:1<=aT w Z.h B c.1:=by have:=kX (w:=w) c.1 hi hc;grind
 obtain ⟨M',hM'⟩:∃ M':Mem,∀ b o,M' b o=if b=c.1 then (if o<m then vs[o]? else none) else M b o:=⟨yQ _ _,EI (UO o5)⟩
 have hmem:dH M M' B B:=⟨fun b o v h=>by
  have:b≠c.1:=fun e=>by simp_all
  rw[hM']; simp_all,fun _ _ h=>h⟩
 have hne:∀ b,b≠c.1->∀ o,M' b o=M b o:=fun b h o=>by rw[hM']; simp_all
 have hcell:∀ o,w.cell? ⟨c.1,o,none⟩=vs[o]? := fun o=>by simp[World.cell?,o1]
 have hS:=fun b=>VQ (t:=t) (p := .sl true 1 (cs.map PV.un)) (b:=b) hkt hI.iC
 have hH:=fun b=>EM (w:=w) (b:=b) hi hc
 have hvo:∀ b,bT (.sl true 1 (cs.map PV.un)) (t.getD k undef) b=if c.1=b then 1 else 0:=fun b=>by rw[hv]; rfl
 have hfp:∀ b,fp B ⟨iM k (.sl true 1 (cs.map PV.un)) Z.s,Z.h.set i none⟩ t w b<=fp B Z t w b:=fun b=>by have h1:=hS b;have h2:=hH b;rw[hvo] at h1;simp only[fp]; omega
 have hfc:∀ b,1<=ik Z.s t b->b≠c.1:=fun b h e=>by subst e;have:=hI.cnt c.1;grind [fp]
 have P7:∀ (j:Nat) e,(cs.map PV.un)[j]? = some e->Loc M' [] e c.1 (0+j*1):=fun j e he=>by
  rw[lL] at he;cases hcj:cs[j]? with
  | none=>rw[hcj] at he; cases he
  | some q =>
   rw[hcj] at he;cases he;obtain ⟨v,hv',hr,_,_⟩:=o4 j q hcj;have hj:j<m:=by rw[<- hm]; grind
   have hq:=hb2 q (nZ hcj);have h1:M' c.1 (0+j*1)=some v:=by rw[hM']; simp_all
   have hone:q.isAgg=false/\∀ ds,q ≠ .tuple ds:=by have:=hq.1;cases q<;>first | (simp[PV.one] at this; done) | exact ⟨rfl,fun ds h=>by cases h⟩
   rw[a9V,zX hone.1 hone.2];exact ⟨v,h1,Rep.flat [] hq.2 (hr.mono hmem)⟩
 refine ⟨M',⟨⟨hI.size,fun b o v h => ?_,Cb hI.iC,fun j p hj => ?_,⟨by simp[hI.heap.1],fun i' cs' hi' => ?_⟩,fun b=>by have:=hfp b; have:=hI.cnt b; omega,fun b hb=>by have:=hfp b; have:=hI.new b hb; omega⟩,hmem.mem,fun _ _ _ h=>h,⟨rfl,rfl,rfl,fK _,fun b hb h0=>⟨rfl,fun o=>hne b (fun e=>by grind [fp]) o⟩⟩,fun b _=>hfp b⟩⟩
 .by_cases e:b=c.1
  .subst e;rw[hM'] at h;simp only[BD] at h;split at h
   .rename_i ho;rw[hcell];refine ⟨h,?_⟩;obtain ⟨q,hq⟩:∃ q,cs[o]? = some q:=⟨_,jU (by omega)⟩;grind
   .cases h
  .rw[hne b e] at h; exact hI.mem b o v h
 .rw[CZ j hI.iC] at hj;split at hj
  .rename_i e; subst e; injection hj with hj; subst hj
   refine ⟨hkn,?_,?_⟩
   .rw[hv];refine jR.2 ⟨some ⟨c.1,0,none⟩,cap,by simp[hm],by simp_all,fun e he => ?_,(fun h=>by cases h),fun _=>⟨c.1,0,rfl,zY P7⟩⟩;obtain ⟨q,hq,rfl⟩:=uG.1 he;have:=(hb2 q hq).1;rw[aDM];cases q<;>first | (simp[PV.one] at this; done) | rfl
   .refine Qc (fun l h=>by cases h) ?_;intro sz es A n' cap' e1 e2;rw[hv] at e2;grind
  .rename_i hjk;obtain ⟨s1,s2,s3⟩:=hI.slots j p hj;refine ⟨s1,s2.mono hmem,s3.kept fun b ho=>⟨rfl,hne b (hfc b ?_)⟩⟩;have:=EN (s:=Z.s) (t:=t) (k:=j) (b:=b);grind [pg]
 .have hii:i'≠i:=fun e=>by grind
  simp only at hi';rw[qY (Ne.symm hii)] at hi';obtain ⟨c',hc',vs',ty',q1,q2,q3,q4,q5⟩:=hI.heap.2 i' cs' hi';have hoc:∀ b,1<=(if c'.1=b then 1 else 0)+dn cs' (gy w c'.1) b->b≠c.1:=fun b h e=>by subst e;have h2:=EM (w:=w) (b:=c.1) hi hc;have h3:=kX (w:=w) (h:=Z.h.set i none) c.1 (by rw[qY (Ne.symm hii)]; exact hi') hc';have:=hI.cnt c.1;grind [fp]
  refine ⟨c',hc',vs',ty',q1,q2,q3,fun j p hj => ?_,fun o => ?_⟩
  .obtain ⟨v,a1,a2,a3,a4⟩:=q4 j p hj;refine ⟨v,a1,a2.mono hmem,a3.kept fun b ho=>⟨rfl,hne b (hoc b ?_)⟩,a4⟩;have:=xU b hj (by rw[qj q1]; grind:(gy w c'.1)[j]? = some v);omega
  simp_all
theorem YQ {sz:Nat} {n:Nat} (h0:0<sz) (hn:n*sz<=cs.length) (h1:∀ p,p∈cs->p.one=true):(lT sz cs n).length=n/\(∀ e,e∈lT sz cs n->e.size=sz) /\
 ∀ (M:Mem) (b:Nat),(∀ (j:Nat) p,cs[j]? = some p->j<n*sz->Loc M [] p b j)->kP M [] sz (lT sz cs n) b 0:=by
 by_cases h:sz=1
 .subst h;have e:lT 1 cs n=(cs.take n).map PV.un:=rfl;rw[e];refine ⟨by simp; omega,fun e he => ?_,fun M b hc=>zY fun j p hj => ?_⟩
  .obtain ⟨q,hq,rfl⟩:=uG.1 he;have:=h1 q (Qu hq);rw[aDM];cases q<;>first | (simp[PV.one] at this; done) | rfl
  grind [a9V]
 .have e:lT sz cs n=(List.range n).map fun j => .agg (((cs.drop (j*sz)).take sz).map PV.un):=by grind [lT]
  rw[e];have hfit:∀ j,j<n->j*sz+sz<=cs.length:=fun j hj=>by have:(j+1)*sz<=n*sz:=vY _ hj;rw[JP] at this; omega
  refine ⟨by simp,fun e he => ?_,fun M b hc=>zY fun j p hj => ?_⟩;grind [PV.size]
  .rw[lL] at hj;cases hq:(List.range n)[j]? with
   | none=>simp_all
   | some q =>
    obtain ⟨hlt,hq'⟩:=iO.1 hq;simp at hlt hq';subst hq';rw[hq] at hj; injection hj with hj; subst hj
    refine yO.2 (Ey fun k r hr => ?_);rw[lL] at hr;cases hd:((cs.drop (j*sz)).take sz)[k]? with
    | none=>simp_all
    | some r' =>simp[hd] at hr; subst hr;have hk:=(iO.1 hd).1;simp at hk;rw[mV,aX (by omega),aE1] at hd;have hone:=h1 r' (nZ hd);have:=hc (j*sz+k) r' hd (by have:(j+1)*sz<=n*sz:=vY _ hlt;rw[JP] at this; omega);obtain ⟨u,hu,hr⟩:=(Bi hone).1 this;exact ⟨u,by rw[qK]; exact hu,ou.2 hr⟩
theorem b0I (hI:Inv n M B out Z t w) (k:Nat):∃ M',cu n out m0 M B Z t w M' B (Yy k Z) t w:=by
 unfold Yy;split;case h_2=>exact ⟨M,cu.refl hI⟩
 rename_i i m sz hk;split;case h_2=>exact ⟨M,cu.refl hI⟩
 rename_i cs hi;split;case h_2=>exact ⟨M,cu.refl hI⟩
 rename_i hb;simp only[bI,jF,ny] at hb;obtain ⟨⟨hb1,hb0⟩,hb2⟩:=hb;obtain ⟨hkn,hrep,_⟩:=hI.slots k _ hk;obtain ⟨c,cap,⟨hc,hcm⟩,hv,hle,hcap⟩:=tZ.1 hrep;obtain ⟨vs,ty,r1,o2,o3,o4,o5⟩:=hI.heap.at hi hc;obtain ⟨ty,rfl,o1⟩:=EU r1 (by rw[o2.2]; exact hcm);have hkt:k<t.size:=by rw[hI.size]; exact hkn
 have hown:1<=aT w Z.h B c.1:=by have:=kX (w:=w) c.1 hi hc;grind
 obtain ⟨M',hM'⟩:∃ M':Mem,∀ b o,M' b o=if b=c.1 then (if o<m*sz then vs[o]? else none) else M b o:=⟨yQ _ _,EI (UO o5)⟩
 have hmem:dH M M' B B:=⟨fun b o v h=>by
  have:b≠c.1:=fun e=>by simp_all
  rw[hM']; simp_all,fun _ _ h=>h⟩
 have hne:∀ b,b≠c.1->∀ o,M' b o=M b o:=fun b h o=>by rw[hM']; simp_all
 have hcell:∀ o,w.cell? ⟨c.1,o,none⟩=vs[o]? := fun o=>by simp[World.cell?,o1]
 obtain ⟨k1,k2,k3⟩:=YQ hb0 hb1 fun p hp=>(hb2 p hp).1
 have hH:=fun b=>EM (w:=w) (b:=b) hi hc
 have hS:=fun b=>VQ (t:=t) (p := .sl false sz (lT sz cs m)) (b:=b) hkt hI.iC
 have hfp:∀ b,fp B ⟨iM k (.sl false sz (lT sz cs m)) Z.s,Z.h.set i none⟩ t w b<=fp B Z t w b:=fun b=>by have h1:=hS b;have h2:=hH b;rw[dP rfl] at h1;simp only[fp]; omega
 have hfc:∀ b,1<=ik Z.s t b->b≠c.1:=fun b h e=>by subst e;have:=hI.cnt c.1;grind [fp]
 refine ⟨M',⟨⟨hI.size,fun b o v h => ?_,Cb hI.iC,fun j p hj => ?_,⟨by simp[hI.heap.1],fun i' cs' hi' => ?_⟩,fun b=>by have:=hfp b; have:=hI.cnt b; omega,fun b hb=>by have:=hfp b; have:=hI.new b hb; omega⟩,hmem.mem,fun _ _ _ h=>h,⟨rfl,rfl,rfl,fK _,fun b hb h0=>⟨rfl,hne b (fun e=>by grind [fp])⟩⟩,fun b _=>hfp b⟩⟩
 .by_cases e:b=c.1
  .subst e;rw[hM'] at h;simp only[BD] at h;split at h
   .rename_i ho;rw[hcell];refine ⟨h,?_⟩;obtain ⟨q,hq⟩:∃ q,cs[o]? = some q:=⟨_,jU (by omega)⟩;grind
   .cases h
  .rw[hne b e] at h; exact hI.mem b o v h
 .rw[CZ j hI.iC] at hj;split at hj
  .rename_i e; subst e; injection hj with hj; subst hj
   refine ⟨hkn,?_,fJ rfl⟩;rw[hv];refine jR.2 ⟨some ⟨c.1,0,none⟩,cap,by rw[k1],by rw[k1]; exact hle,k2,(fun h=>by omega),fun _=>⟨c.1,0,rfl,k3 M' c.1 fun j q hq hlt => ?_⟩⟩;obtain ⟨v,hv',hr,_,_⟩:=o4 j q hq;have hq':=hb2 q (nZ hq);refine (Bi hq'.1).2 ⟨v,?_,Rep.flat [] hq'.2 (hr.mono hmem)⟩;rw[hM']; simp_all
  .rename_i hjk;obtain ⟨s1,s2,s3⟩:=hI.slots j p hj;refine ⟨s1,s2.mono hmem,s3.kept fun b ho=>⟨rfl,hne b (hfc b ?_)⟩⟩;have:=EN (s:=Z.s) (t:=t) (k:=j) (b:=b);grind [pg]
 .have hii:i'≠i:=fun e=>by grind
  simp only at hi';rw[qY (Ne.symm hii)] at hi';obtain ⟨c',hc',vs',ty',q1,q2,q3,q4,q5⟩:=hI.heap.2 i' cs' hi';have hoc:∀ b,1<=(if c'.1=b then 1 else 0)+dn cs' (gy w c'.1) b->b≠c.1:=fun b h e=>by subst e;have h2:=EM (w:=w) (b:=c.1) hi hc;have h3:=kX (w:=w) (h:=Z.h.set i none) c.1 (by rw[qY (Ne.symm hii)]; exact hi') hc';have:=hI.cnt c.1;grind [fp]
  refine ⟨c',hc',vs',ty',q1,q2,q3,fun j p hj => ?_,fun o => ?_⟩
  .obtain ⟨v,a1,a2,a3,a4⟩:=q4 j p hj;refine ⟨v,a1,a2.mono hmem,a3.kept fun b ho=>⟨rfl,hne b (hoc b ?_)⟩,a4⟩;have:=xU b hj (by rw[qj q1]; grind:(gy w c'.1)[j]? = some v);omega
  simp_all
theorem b0G (hI:Inv n M B out Z t w) (k:Nat):∃ M',cu n out m0 M B Z t w M' B (Yx k Z) t w:=by
 unfold Yx;split;case h_2=>exact ⟨M,cu.refl hI⟩
 rename_i i hk;split;case h_2=>exact ⟨M,cu.refl hI⟩
 rename_i cs hi;split;case h_2=>exact ⟨M,cu.refl hI⟩
 rename_i hb;simp only[bI,jF,ny] at hb;obtain ⟨hb0,hb2⟩:=hb;generalize hsz:cs.length=sz at hb0 ⊢;have hb1:1*sz<=cs.length:=by omega
 obtain ⟨hkn,hrep,_⟩:=hI.slots k _ hk;obtain ⟨c,⟨hc,hcm⟩,hv⟩:=wO.1 hrep;obtain ⟨vs,ty,r1,o2,o3,o4,o5⟩:=hI.heap.at hi hc;obtain ⟨ty,rfl,o1⟩:=EU r1 (by rw[o2.2]; exact hcm);have hkt:k<t.size:=by rw[hI.size]; exact hkn
 have hown:1<=aT w Z.h B c.1:=by have:=kX (w:=w) c.1 hi hc;grind
 obtain ⟨M',hM'⟩:∃ M':Mem,∀ b o,M' b o=if b=c.1 then (if o<1*sz then vs[o]? else none) else M b o:=⟨yQ _ _,EI (UO o5)⟩
 have hmem:dH M M' B B:=⟨fun b o v h=>by
  have:b≠c.1:=fun e=>by simp_all
  rw[hM']; simp_all,fun _ _ h=>h⟩
 have hne:∀ b,b≠c.1->∀ o,M' b o=M b o:=fun b h o=>by rw[hM']; simp_all
 have hcell:∀ o,w.cell? ⟨c.1,o,none⟩=vs[o]? := fun o=>by simp[World.cell?,o1]
 obtain ⟨k1,k2,k3⟩:=YQ hb0 hb1 fun p hp=>(hb2 p hp).1
 obtain ⟨x,hx⟩:∃ x,lT sz cs 1 = [x]:=by
  match hh:lT sz cs 1,k1 with
  | [x],_=>simp
 rw[hx] at k3 ⊢;show ∃ M',cu n out m0 M B Z t w M' B ⟨iM k (.cst x) Z.s,Z.h.set i none⟩ t w;have hH:=fun b=>EM (w:=w) (b:=b) hi hc
 have hS:=fun b=>VQ (t:=t) (p := .cst x) (b:=b) hkt hI.iC
 have hfp:∀ b,fp B ⟨iM k (.cst x) Z.s,Z.h.set i none⟩ t w b<=fp B Z t w b:=fun b=>by have h1:=hS b;have h2:=hH b;rw[dP rfl] at h1;simp only[fp]; omega
 have hfc:∀ b,1<=ik Z.s t b->b≠c.1:=fun b h e=>by subst e;have:=hI.cnt c.1;grind [fp]
 refine ⟨M',⟨⟨hI.size,fun b o v h => ?_,Cb hI.iC,fun j p hj => ?_,⟨by simp[hI.heap.1],fun i' cs' hi' => ?_⟩,fun b=>by have:=hfp b; have:=hI.cnt b; omega,fun b hb=>by have:=hfp b; have:=hI.new b hb; omega⟩,hmem.mem,fun _ _ _ h=>h,⟨rfl,rfl,rfl,fK _,fun b hb h0=>⟨rfl,hne b (fun e=>by grind [fp])⟩⟩,fun b _=>hfp b⟩⟩
 .by_cases e:b=c.1
  .subst e;rw[hM'] at h;simp only[BD] at h;split at h
   .rename_i ho;rw[hcell];refine ⟨h,?_⟩;obtain ⟨q,hq⟩:∃ q,cs[o]? = some q:=⟨_,jU (by omega)⟩;grind
   .cases h
  .rw[hne b e] at h; exact hI.mem b o v h
 .rw[CZ j hI.iC] at hj;split at hj
  .rename_i e; subst e; injection hj with hj; subst hj
   refine ⟨hkn,?_,fJ rfl⟩;rw[hv];refine Am.2 ⟨c.1,0,rfl,(Pg.1 (k3 M' c.1 fun j q hq hlt => ?_)).1⟩;obtain ⟨v,hv',hr,_,_⟩:=o4 j q hq;have hq':=hb2 q (nZ hq);refine (Bi hq'.1).2 ⟨v,?_,Rep.flat [] hq'.2 (hr.mono hmem)⟩;rw[hM']; simp_all
  .rename_i hjk;obtain ⟨s1,s2,s3⟩:=hI.slots j p hj;refine ⟨s1,s2.mono hmem,s3.kept fun b ho=>⟨rfl,hne b (hfc b ?_)⟩⟩;have:=EN (s:=Z.s) (t:=t) (k:=j) (b:=b);grind [pg]
 .have hii:i'≠i:=fun e=>by grind
  simp only at hi';rw[qY (Ne.symm hii)] at hi';obtain ⟨c',hc',vs',ty',q1,q2,q3,q4,q5⟩:=hI.heap.2 i' cs' hi';have hoc:∀ b,1<=(if c'.1=b then 1 else 0)+dn cs' (gy w c'.1) b->b≠c.1:=fun b h e=>by subst e;have h2:=EM (w:=w) (b:=c.1) hi hc;have h3:=kX (w:=w) (h:=Z.h.set i none) c.1 (by rw[qY (Ne.symm hii)]; exact hi') hc';have:=hI.cnt c.1;grind [fp]
  refine ⟨c',hc',vs',ty',q1,q2,q3,fun j p hj => ?_,fun o => ?_⟩
  .obtain ⟨v,a1,a2,a3,a4⟩:=q4 j p hj;refine ⟨v,a1,a2.mono hmem,a3.kept fun b ho=>⟨rfl,hne b (hoc b ?_)⟩,a4⟩;have:=xU b hj (by rw[qj q1]; grind:(gy w c'.1)[j]? = some v);omega
  simp_all
theorem aQ8 {p:PV} (h:p.lit=true):p.own=false:=by cases p<;>first | rfl | (simp[PV.lit] at h)
theorem aS0 {us:List Value} {b:Nat} (h:∀ p,p∈cs->p.own=false):dn cs us b=0:=by
 induction cs generalizing us with
 | nil=>cases us<;>rfl
 | cons p cs ih =>
  cases us with
  | nil=>rfl
  | cons u us=>rw[dn,dP (h p (by simp)),ih fun q hq=>h q (by simp[hq])]
theorem aS3 {p0 q:PV} {v:Value} {b:Nat} (hq:q.own=false):∀ (cs:bZZ) (us:List Value) (j:Nat),cs[j]? = some p0->us[j]? = some v->dn (cs.set j q) us b+bT p0 v b=dn cs us b:=by
 intro cs;induction cs with
 | nil=>simp
 | cons c cs ih =>
  intro us j h1 h2;cases us with
  | nil=>simp at h2
  | cons u us =>
   cases j with
   | zero=>grind [dn,dP]
   | succ j=>have:=ih us j (by grind) (by grind); grind [dn]
theorem aAF {cs':bZZ} {c:Nat×Nat×TypeId} {k b:Nat} (hk:dn cs' (gy w c.1) b+k=dn cs (gy w c.1) b):∀ (h:aG) (B:aP) (i:Nat),h[i]? = some (some cs)->B[i]? = some c->aT w (h.set i (some cs')) B b+k=aT w h B b:=by
 intro h;induction h with
 | nil=>simp
 | cons x h ih =>
  intro B i h1 h2;cases B with
  | nil=>simp at h2
  | cons d B =>
   cases i with
   | zero=>grind [aT]
   | succ i =>simp at h1 h2;have:=ih B i h1 h2;cases x<;>simp only[List.set_cons_succ,aT]<;>omega
theorem aUK {M:Mem} {w:World} {k sz:Nat} {v:Value} (hr:Rep M B (.gX true k sz cs) v) (hT:Tl M w (.gX true k sz cs) v) (hk:1<=k):
 ∃ g cap vs ty,v = .slice (some ⟨g,0,none⟩) k cap/\k<=cap/\w.heap[g]? = some (.cells vs ty (0,0))/\cap*sz<=vs.size/\cs.length=k*sz/\0<sz/\(∀ (j:Nat) p,cs[j]? = some p->p.lit=true/\∃ u,vs[j]? = some u/\Rep LH [] p u/\u.oneCell'=true)/\∀ o,M g o=none:=by
 obtain ⟨A,cap,e1,hle⟩:=Fz.1 hr;obtain ⟨⟨h1,h2⟩,h3,h4⟩:=hT.p _ _ _ _ _ _ rfl e1;cases A with
 | none=>have:=h3 rfl; omega
 | some ad =>obtain ⟨vs,ty,g1,g2,g3,g4,g5,g6⟩:=h4 ad rfl;obtain ⟨g,off,spot⟩:=ad;simp only at g1 g4 g5 g6;subst g5; subst g6;exact ⟨g,cap,vs,ty,e1,hle,g1,g2,h1,h2,g3,g4⟩
theorem aUJ {M:Mem} {w:World} {k sz:Nat} {v:Value} (hr:Rep M B (.gX true k sz cs) v) (hT:Tl M w (.gX true k sz cs) v) (hk:k=0):Rep M B (.sl false sz []) v:=by obtain ⟨A,cap,e1,hle⟩:=Fz.1 hr;obtain ⟨⟨h1,h2⟩,h3,h4⟩:=hT.p _ _ _ _ _ _ rfl e1;subst hk;exact jR.2 ⟨A,cap,e1,Ee _,by simp,fun h=>by omega,by simp⟩
theorem bTQ (hI:Inv n M B out Z t w) (k:Nat):∃ B',cu n out m0 M B Z t w M B' (QZ k Z) t w:=by
 unfold QZ;split;case h_2=>exact ⟨B,cu.refl hI⟩
 rename_i m sz cs hk;obtain ⟨hkn,hrep,hT⟩:=hI.slots k _ hk;have hkt:k<t.size:=by rw[hI.size]; exact hkn
 split
 .rename_i hm;have hm:=Qx hm;obtain ⟨g,cap,vs,ty,hv,hle,r1,r2,r3,r4,r5,r6⟩:=aUK hrep hT hm;have hBl:Z.h.length=B.length:=hI.heap.1;have hle2:dH M M B (B ++ [(g,vs.size,ty+1)]):=⟨fun _ _ _ h=>h,fun i c h=>by rw[vW (iO.1 h).1]; exact h⟩;have hown:∀ p,p∈cs->p.own=false:=fun p hp=>by obtain ⟨j,hj⟩:=yu.1 hp;grind [aQ8]
  have hfp:∀ b,fp (B ++ [(g,vs.size,ty+1)]) ⟨iM k (.slh Z.h.length 0 m sz) Z.s,Z.h ++ [some cs]⟩ t w b=fp B Z t w b:=fun b=>by have h1:=VQ (t:=t) (p := .slh Z.h.length 0 m sz) (b:=b) hkt hI.iC;rw[dP rfl,pg,hk] at h1;grind [bT,PV.own,fp,Q7,aS0]
  refine ⟨B ++ [(g,vs.size,ty+1)],⟨⟨hI.size,hI.mem,Cb hI.iC,fun j p hj => ?_,⟨by simp[hBl],fun i cs' hi => ?_⟩,fun b=>by rw[hfp]; exact hI.cnt b,fun b hb=>by rw[hfp]; exact hI.new b hb⟩,fun _ _ _ h=>h,fun i c _ h=>hle2.blk i c h,Fr.refl _ _ _,fun b _=>by rw[hfp]; omega⟩⟩
  .rw[CZ j hI.iC] at hj;split at hj
   .rename_i e; subst e; injection hj with hj; subst hj
    exact ⟨hkn,by rw[hv]; exact tZ.2 ⟨(g,vs.size,ty+1),cap,⟨by rw[hBl]; simp,by simp⟩,rfl,hle,by grind⟩,fJ rfl⟩
   .obtain ⟨s1,s2,s3⟩:=hI.slots j p hj;exact ⟨s1,s2.mono hle2,s3⟩
  .rcases zy i Z.h.length with hlt | hge
   .simp only at hi;rw[vW hlt] at hi;obtain ⟨c,hc,vs',ty',q1,q2,q3,q4,q5⟩:=hI.heap.2 i cs' hi;exact ⟨c,hle2.blk _ _ hc,vs',ty',q1,q2,q3,fun j p hj=>by obtain ⟨v,a1,a2,a3,a4⟩:=q4 j p hj; exact ⟨v,a1,a2.mono hle2,a3,a4⟩,q5⟩
   .simp only at hi;rw[Gm hge] at hi;have:i-Z.h.length=0:=by grind
    rw[this] at hi;simp at hi; subst hi;have hi':i=B.length:=by omega
    subst hi';refine ⟨(g,vs.size,ty+1),by simp,vs,ty+1,CW r1,⟨rfl,rfl⟩,?_,fun j p hj => ?_,r6⟩
    .rw[r3]; exact ng (vY _ hle) r2
    grind [aQ6,fJ]
 .rename_i hm;have hm0:m=0:=by grind [Nat.ble_eq_true_of_le]
  have hfp:∀ b,fp B ⟨iM k (.sl false sz []) Z.s,Z.h⟩ t w b<=fp B Z t w b:=fun b=>by have h1:=VQ (t:=t) (p := .sl false sz []) (b:=b) hkt hI.iC;rw[dP rfl] at h1;simp only[fp]; omega
  refine ⟨B,⟨⟨hI.size,hI.mem,Cb hI.iC,fun j p hj => ?_,hI.heap,fun b=>by have:=hfp b; have:=hI.cnt b; omega,fun b hb=>by have:=hfp b; have:=hI.new b hb; omega⟩,fun _ _ _ h=>h,fun i c _ h=>h,Fr.refl _ _ _,fun b _=>hfp b⟩⟩;rw[CZ j hI.iC] at hj;split at hj
  .rename_i e; subst e; injection hj with hj; subst hj
   exact ⟨hkn,aUJ hrep hT hm0,fJ rfl⟩
  .exact hI.slots j p hj
theorem bTP (hI:Inv n M B out Z t w) (k j:Nat):∃ B',cu n out m0 M B Z t w M B' (WC k j Z) t w:=by
 unfold WC;split;case h_2=>exact ⟨B,cu.refl hI⟩
 rename_i i hk;split;case h_2=>exact ⟨B,cu.refl hI⟩
 rename_i cs0 hi;split;case h_2=>exact ⟨B,cu.refl hI⟩
 rename_i m sz cs hj;obtain ⟨c,hc,vs0,ty0,o1,o2,o3,o4,o5⟩:=hI.heap.2 i cs0 hi;obtain ⟨v,hv0,hrep,hT,hone⟩:=o4 j _ hj;have hBl:Z.h.length=B.length:=hI.heap.1;have hil:=(iO.1 hi).1;have hcs:∀ (q:PV) (b:Nat),q.own=false->dn (cs0.set j q) (gy w c.1) b+bT (.gX true m sz cs) v b=dn cs0 (gy w c.1) b:=fun q b hq=>by rw[qj o1]; grind [aS3]
 split
 .rename_i hm;have hm:=Qx hm;obtain ⟨g,cap,vs,ty,hv,hle,r1,r2,r3,r4,r5,r6⟩:=aUK hrep hT hm;have hle2:dH M M B (B ++ [(g,vs.size,ty+1)]):=⟨fun _ _ _ h=>h,fun i c h=>by rw[vW (iO.1 h).1]; exact h⟩;have hown:∀ p,p∈cs->p.own=false:=fun p hp=>by obtain ⟨j,hj⟩:=yu.1 hp;grind [aQ8]
  have hfp:∀ b,fp (B ++ [(g,vs.size,ty+1)]) ⟨Z.s,Z.h.set i (some (cs0.set j (.slh Z.h.length 0 m sz))) ++ [some cs]⟩ t w b=fp B Z t w b:=fun b=>by have h1:=aAF (hcs (.slh Z.h.length 0 m sz) b rfl) Z.h B i hi hc;grind [bT,PV.own,fp,Q7,aS0]
  refine ⟨B ++ [(g,vs.size,ty+1)],⟨⟨hI.size,hI.mem,hI.iC,fun j p hj => ?_,⟨by simp[hBl],fun i' cs' hi' => ?_⟩,fun b=>by rw[hfp]; exact hI.cnt b,fun b hb=>by rw[hfp]; exact hI.new b hb⟩,fun _ _ _ h=>h,fun i c _ h=>hle2.blk i c h,Fr.refl _ _ _,fun b _=>by rw[hfp]; omega⟩⟩
  .obtain ⟨s1,s2,s3⟩:=hI.slots j p hj;exact ⟨s1,s2.mono hle2,s3⟩
  .simp only at hi';rcases zy i' Z.h.length with hlt | hge
   .rw[vW (by rw[JJ]; exact hlt)] at hi';by_cases hii:i'=i
    .subst hii;rw[zx hil] at hi';injection hi' with hi'; injection hi' with hi'; subst hi'
     refine ⟨c,hle2.blk _ _ hc,vs0,ty0,o1,o2,by rw[JJ]; exact o3,fun j' p hj' => ?_,o5⟩;by_cases hjj:j=j'
     .subst hjj;rw[zx (iO.1 hj).1] at hj';injection hj' with hj'; subst hj'
      exact ⟨v,hv0,by rw[hv]; exact tZ.2 ⟨(g,vs.size,ty+1),cap,⟨by rw[hBl]; simp,by simp⟩,rfl,hle,by grind⟩,fJ rfl,hone⟩
     .rw[qY hjj] at hj';obtain ⟨u,a1,a2,a3,a4⟩:=o4 j' p hj';exact ⟨u,a1,a2.mono hle2,a3,a4⟩
    .rw[qY (Ne.symm hii)] at hi';obtain ⟨c,hc,vs',ty',q1,q2,q3,q4,q5⟩:=hI.heap.2 i' cs' hi';exact ⟨c,hle2.blk _ _ hc,vs',ty',q1,q2,q3,fun j p hj=>by obtain ⟨v,a1,a2,a3,a4⟩:=q4 j p hj; exact ⟨v,a1,a2.mono hle2,a3,a4⟩,q5⟩
   .rw[Gm (by rw[JJ]; exact hge),JJ] at hi';have:i'-Z.h.length=0:=by grind
    rw[this] at hi';simp at hi'; subst hi';have hi2:i'=B.length:=by omega
    subst hi2;refine ⟨(g,vs.size,ty+1),by simp,vs,ty+1,CW r1,⟨rfl,rfl⟩,?_,fun j p hj => ?_,r6⟩
    .rw[r3]; exact ng (vY _ hle) r2
    grind [aQ6,fJ]
 .rename_i hm;have hm0:m=0:=by grind [Nat.ble_eq_true_of_le]
  have hfp:∀ b,fp B ⟨Z.s,Z.h.set i (some (cs0.set j (.sl false sz [])))⟩ t w b<=fp B Z t w b:=fun b=>by have h1:=aAF (hcs (.sl false sz []) b rfl) Z.h B i hi hc;simp only[fp]; omega
  refine ⟨B,⟨⟨hI.size,hI.mem,hI.iC,hI.slots,⟨by simp[hBl],fun i' cs' hi' => ?_⟩,fun b=>by have:=hfp b; have:=hI.cnt b; omega,fun b hb=>by have:=hfp b; have:=hI.new b hb; omega⟩,fun _ _ _ h=>h,fun i c _ h=>h,Fr.refl _ _ _,fun b _=>hfp b⟩⟩;simp only at hi';by_cases hii:i'=i
  .subst hii;rw[zx hil] at hi';injection hi' with hi'; injection hi' with hi'; subst hi'
   refine ⟨c,hc,vs0,ty0,o1,o2,by rw[JJ]; exact o3,fun j' p hj' => ?_,o5⟩;by_cases hjj:j=j'
   .subst hjj;rw[zx (iO.1 hj).1] at hj';injection hj' with hj'; subst hj'
    exact ⟨v,hv0,aUJ hrep hT hm0,fJ rfl,hone⟩
   simp_all
  .rw[qY (Ne.symm hii)] at hi';exact hI.heap.2 i' cs' hi'
theorem b0F (hI:Inv n M B out Z t w) (k j:Nat):∃ M',cu n out m0 M B Z t w M' B (Yv k j Z) t w:=by
 unfold Yv;split;case h_2=>exact ⟨M,cu.refl hI⟩
 rename_i i2 hk;split;case h_2=>exact ⟨M,cu.refl hI⟩
 rename_i cs0 hi2;split;case h_2=>exact ⟨M,cu.refl hI⟩
 rename_i i m sz hj;split;case h_2=>exact ⟨M,cu.refl hI⟩
 rename_i cs hi;split;case h_2=>exact ⟨M,cu.refl hI⟩
 rename_i hb;simp only[bI,jF,ny,BA] at hb;obtain ⟨⟨⟨hb1,hb0⟩,hb2⟩,hbn⟩:=hb;have hii2:i≠i2:=fun e=>by simp_all
 obtain ⟨c2,hc2,vs2,ty2,p1,p2,p3,p4,p5⟩:=hI.heap.2 i2 cs0 hi2;obtain ⟨v,hv0,hrep,_,hone⟩:=p4 j _ hj;obtain ⟨c,cap,⟨hc,hcm⟩,hv,hle,hcap⟩:=tZ.1 hrep;obtain ⟨vs,ty,r1,o2,o3,o4,o5⟩:=hI.heap.at hi hc;obtain ⟨ty,rfl,o1⟩:=EU r1 (by rw[o2.2]; exact hcm);have hown:1<=aT w Z.h B c.1:=by have:=kX (w:=w) c.1 hi hc;grind
 obtain ⟨M',hM'⟩:∃ M':Mem,∀ b o,M' b o=if b=c.1 then (if o<m*sz then vs[o]? else none) else M b o:=⟨yQ _ _,EI (UO o5)⟩
 have hmem:dH M M' B B:=⟨fun b o v h=>by
  have:b≠c.1:=fun e=>by simp_all
  rw[hM']; simp_all,fun _ _ h=>h⟩
 have hne:∀ b,b≠c.1->∀ o,M' b o=M b o:=fun b h o=>by rw[hM']; simp_all
 have hcell:∀ o,w.cell? ⟨c.1,o,none⟩=vs[o]? := fun o=>by simp[World.cell?,o1]
 obtain ⟨k1,k2,k3⟩:=YQ hb0 hb1 fun p hp=>(hb2 p hp).1
 have hH:=fun b=>EM (w:=w) (b:=b) hi hc
 have bIU:(Z.h.set i none)[i2]? = some (some cs0):=by rw[qY hii2]; exact hi2
 have hcs:∀ b,dn (cs0.set j (.sl false sz (lT sz cs m))) (gy w c2.1) b+bT (.slh i 0 m sz) v b=dn cs0 (gy w c2.1) b:=fun b=>by rw[qj p1]; exact aS3 rfl cs0 vs2.toList j hj (by simp_all)
 have hfp:∀ b,fp B ⟨Z.s,(Z.h.set i none).set i2 (some (cs0.set j (.sl false sz (lT sz cs m))))⟩ t w b<=fp B Z t w b:=fun b=>by have h1:=aAF (hcs b) (Z.h.set i none) B i2 bIU hc2;have h2:=hH b;simp only[fp]; omega
 have hfc:∀ b,1<=ik Z.s t b->b≠c.1:=fun b h e=>by subst e;have:=hI.cnt c.1;grind [fp]
 have hother:∀ {i':Nat} {cs':bZZ} {c':Nat×Nat×TypeId} {b:Nat},i'≠i->Z.h[i']? = some (some cs')->B[i']? = some c'->1<=(if c'.1=b then 1 else 0)+dn cs' (gy w c'.1) b->b≠c.1:=fun {i' cs' c' b} hii hi' hc' h e=>by subst e;have h2:=EM (w:=w) (b:=c.1) hi hc;have h3:=kX (w:=w) (h:=Z.h.set i none) c.1 (by rw[qY (Ne.symm hii)]; exact hi') hc';have:=hI.cnt c.1;grind [fp]
 refine ⟨M',⟨⟨hI.size,fun b o v h => ?_,hI.iC,fun j p hj => ?_,⟨by simp[hI.heap.1],fun i' cs' hi' => ?_⟩,fun b=>by have:=hfp b; have:=hI.cnt b; omega,fun b hb=>by have:=hfp b; have:=hI.new b hb; omega⟩,hmem.mem,fun _ _ _ h=>h,⟨rfl,rfl,rfl,fK _,fun b hb h0=>⟨rfl,hne b (fun e=>by grind [fp])⟩⟩,fun b _=>hfp b⟩⟩
 .by_cases e:b=c.1
  .subst e;rw[hM'] at h;simp only[BD] at h;split at h
   .rename_i ho;rw[hcell];refine ⟨h,?_⟩;obtain ⟨q,hq⟩:∃ q,cs[o]? = some q:=⟨_,jU (by omega)⟩;grind
   .cases h
  .rw[hne b e] at h; exact hI.mem b o v h
 .obtain ⟨s1,s2,s3⟩:=hI.slots j p hj;refine ⟨s1,s2.mono hmem,s3.kept fun b ho=>⟨rfl,hne b (hfc b ?_)⟩⟩;have:=EN (s:=Z.s) (t:=t) (k:=j) (b:=b);grind [pg]
 .by_cases hi22:i'=i2
  .subst hi22;simp only at hi';rw[zx (by rw[JJ]; grind)] at hi';injection hi' with hi'; injection hi' with hi'; subst hi'
   refine ⟨c2,hc2,vs2,ty2,p1,p2,by rw[JJ]; exact p3,fun j' p hj' => ?_,fun o => ?_⟩
   .by_cases hjj:j=j'
    .subst hjj;rw[zx (iO.1 hj).1] at hj';injection hj' with hj'; subst hj'
     refine ⟨v,hv0,?_,fJ rfl,hone⟩;rw[hv];refine jR.2 ⟨some ⟨c.1,0,none⟩,cap,by rw[k1],by rw[k1]; exact hle,k2,(fun h=>by omega),fun _=>⟨c.1,0,rfl,k3 M' c.1 fun j q hq hlt => ?_⟩⟩;obtain ⟨v,hv',hr,_,_⟩:=o4 j q hq;have hq':=hb2 q (nZ hq);refine (Bi hq'.1).2 ⟨v,?_,Rep.flat [] hq'.2 (hr.mono hmem)⟩;rw[hM']; simp_all
    .rw[qY hjj] at hj';obtain ⟨u,a1,a2,a3,a4⟩:=p4 j' p hj';refine ⟨u,a1,a2.mono hmem,a3.kept fun b ho=>⟨rfl,hne b (hother (Ne.symm hii2) hi2 hc2 ?_)⟩,a4⟩;have:=xU b hj' (by rw[qj p1]; grind:(gy w c2.1)[j']? = some u);omega
   grind
  .have hii:i'≠i:=fun e=>by grind
   simp only at hi';rw[qY (Ne.symm hi22),qY (Ne.symm hii)] at hi';obtain ⟨c',hc',vs',ty',q1,q2,q3,q4,q5⟩:=hI.heap.2 i' cs' hi';refine ⟨c',hc',vs',ty',q1,q2,q3,fun j p hj => ?_,fun o => ?_⟩
   .obtain ⟨v,a1,a2,a3,a4⟩:=q4 j p hj;refine ⟨v,a1,a2.mono hmem,a3.kept fun b ho=>⟨rfl,hne b (hother hii hi' hc' ?_)⟩,a4⟩;have:=xU b hj (by rw[qj q1]; grind:(gy w c'.1)[j]? = some v);omega
   grind
theorem b0H (hI:Inv n M B out Z t w) (k:Nat):∃ M' B',cu n out m0 M B Z t w M' B' (xK k Z) t w:=by
 unfold xK;split
 .obtain ⟨M',h⟩:=b0G (m0:=m0) hI (k-9000000);grind
 split
 .obtain ⟨M',h⟩:=b0F (m0:=m0) hI ((k-5000000) / 100) ((k-5000000) % 100);grind
 split
 .obtain ⟨B',h⟩:=bTP (m0:=m0) hI ((k-4000000) / 100) ((k-4000000) % 100);grind
 split
 .obtain ⟨B',h⟩:=bTQ (m0:=m0) hI ((k-3000000) % 500000);grind
 split
 .obtain ⟨M',h⟩:=b0I (m0:=m0) hI (k-1000000);grind
 .obtain ⟨M',h⟩:=b0E (m0:=m0) hI k;grind
theorem Yw:∀ (ks:List Nat) {M:Mem} {B:aP} {Z:ASt},Inv n M B out Z t w->∃ M' B',cu n out m0 M B Z t w M' B' (yF ks Z) t w
 | [],M,B,_,hI=>⟨M,B,cu.refl hI⟩
 | k::ks,M,B,Z,hI=>by obtain ⟨M1,B1,h1⟩:=b0H (m0:=m0) hI k;obtain ⟨M2,B2,h2⟩:=Yw ks h1.inv;exact ⟨M2,B2,h1.trans h2⟩
theorem FH (hI:Inv n M B out Z t w) {l:List Nat} {m:Nat} (hm:m0<=m) (hg:Dt l m Z=true):cu n out m0 M B Z t w M (B.take m) (Z.gc l m) t w:=by
 unfold Dt at hg;simp only[bI,jF] at hg;obtain ⟨g1,g2⟩:=hg;have hle:∀ b,fp (B.take m) (Z.gc l m) t w b<=fp B Z t w b:=fun b=>by have h1:=aAI (t:=t) (fun kp=>l.contains kp.1) b Z.s;have h2:=aAG (w:=w) m b Z.h B;grind [fp,ASt.gc]
 refine ⟨⟨hI.size,hI.mem,List.Pairwise.sublist List.filter_sublist hI.iC,fun k p hp => ?_,⟨by simp[ASt.gc,hI.heap.1],fun i cs hi => ?_⟩,fun b=>by have:=hle b; have:=hI.cnt b; omega,fun b hb=>by have:=hle b; have:=hI.new b hb; omega⟩,fun _ _ _ h=>h,fun i c hi hc=>by rw[mV,aX (by omega)]; exact hc,Fr.refl _ _ _,fun b _=>hle b⟩
 .obtain ⟨s1,s2,s3⟩:=hI.slots k p (a3E (fun k=>l.contains k) hp);exact ⟨s1,s2.blw (g1 _ (a3F hp)),s3⟩
 .have hi0:=hi;simp only[ASt.gc] at hi;rw[mV] at hi;split at hi
  .rename_i hlt;obtain ⟨c,hc,vs,ty,o1,o2,o3,o4,o5⟩:=hI.heap.2 i cs hi;refine ⟨c,by rw[mV,aX hlt]; exact hc,vs,ty,o1,o2,o3,fun j p hj => ?_,o5⟩;obtain ⟨v,a1,a2,a3,a4⟩:=o4 j p hj;refine ⟨v,a1,a2.blw ?_,a3,a4⟩;have:=jF.1 g2 _ (nZ hi0);exact YA.1 this p (nZ hj)
  .cases hi
theorem bR5 (sz:List (Nat×List Nat)) (h:jM s):jM (vO sz s):=by
 induction s with
 | nil=>exact h
 | cons a l ih =>
  obtain ⟨k,p⟩:=a;obtain ⟨h1,h2⟩:=Cc.1 h;have hm:∀ (l:fP) (b:Nat×PV),b∈vO sz l->∃ c,c∈l/\c.1=b.1:=by
   intro l;induction l with
   | nil=>grind [vO]
   | cons a l ih =>grind [vO]
  rw[vO];refine Cc.2 ⟨fun b hb => ?_,ih h2⟩;grind
theorem aU2 {sz:List (Nat×List Nat)} {k:Nat} {p:PV}:∀ {s:fP},bZ k (vO sz s)=some p->∃ q,bZ k s=some q/\(p=q\/∃ z,p=q.zo z)
 | [],h=>by simp[vO,bZ] at h
 | (j,q)::l,h=>by
  rw[vO] at h;by_cases e:j=k
  .refine ⟨q,by rw[bZ,aX e],?_⟩;split at h<;>(rw[bZ,aX e] at h; injection h with h)
   .exact .inr ⟨_,h.symm⟩
   .exact .inl h.symm
  .have h':bZ k (vO sz l)=some p:=by split at h<;>(rw[bZ,aV e] at h; exact h)
   obtain ⟨r,h1,h2⟩:=aU2 h';exact ⟨r,by rw[bZ,aV e]; exact h1,h2⟩
theorem aS5 {sz:List (Nat×List Nat)} {t:Array Value} {b:Nat}:∀ {s:fP},ik (vO sz s) t b=ik s t b
 | []=>rfl
 | (j,q)::l=>by rw[vO];split<;>simp only[ik,aS6,aS5]
theorem bR6 (hI:Inv n M B out Z t w) (sz:List (Nat×List Nat)):Good n out M B Z t w M B { Z with s:=vO sz Z.s } t w:=by
 have hle:∀ b,fp B { Z with s:=vO sz Z.s } t w b=fp B Z t w b:=fun b=>by simp only[fp,aS5]
 refine ⟨⟨hI.size,hI.mem,bR5 _ hI.iC,fun k p hp => ?_,hI.heap,fun b=>by have:=hle b; have:=hI.cnt b; omega,fun b hb=>by have:=hle b; have:=hI.new b hb; omega⟩,dH.refl _ _,Fr.refl _ _ _,fun b _=>by rw[hle b]; omega⟩;obtain ⟨q,h1,h2⟩:=aU2 hp;obtain ⟨g1,g2,g3⟩:=hI.slots k q h1;grind [Vf,aVF]
theorem aRY:∀ {zs:List Nat} {cs:bZZ} {j:Nat} {p:PV},(yS zs cs)[j]? = some p->∃ q,cs[j]? = some q/\(p=q\/∃ z,p=q.Ib z)
 | [],cs,j,p,h=>by cases cs<;>exact ⟨p,h,.inl rfl⟩
 | z::zs,[],j,p,h=>by simp[yS] at h
 | z::zs,c::cs,0,p,h=>by grind [yS]
 | z::zs,c::cs,j+1,p,h=>by rw[yS,aE0] at h; simpa using aRY h
theorem aRZ:∀ (zs:List Nat) (cs:bZZ),(yS zs cs).length=cs.length
 | [],cs=>by cases cs<;>rfl
 | _::_,[]=>rfl
 | z::zs,c::cs=>by simp[yS,aRZ zs cs]
theorem aS1:∀ {zs:List Nat} {cs:bZZ} {vs:List Value} {b:Nat},(∀ (j:Nat) p v,cs[j]? = some p->vs[j]? = some v->Rep M B p v)->dn (yS zs cs) vs b=dn cs vs b
 | [],cs,vs,b,_=>by cases cs<;>rfl
 | _::_,[],vs,b,_=>rfl
 | z::zs,c::cs,[],b,_=>by rfl
 | z::zs,c::cs,v::vs,b,h=>by rw[yS,dn,dn,bNN (M:=M) (B:=B) z (h 0 c v rfl rfl),aS1 fun j p u hp hu=>h (j+1) p u (by grind) (by grind)]
theorem bNA (hI:Inv n M B out Z t w) {i:Nat} (hi:Z.h[i]? = some (some cs)) (zs:List Nat):Good n out M B Z t w M B { Z with h:=Z.h.set i (some (yS zs cs)) } t w:=by
 obtain ⟨c,hc,vs,ty,o1,o2,o3,o4,o5⟩:=hI.heap.2 i cs hi;have hrep:∀ (j:Nat) p v,cs[j]? = some p->vs.toList[j]? = some v->Rep M B p v:=fun j p v hp hv=>by grind
 have hown:∀ b,aT w (Z.h.set i (some (yS zs cs))) B b=aT w Z.h B b:=fun b=>by
  have key:∀ (h:aG) (B':aP) (i:Nat),h[i]? = some (some cs)->B'[i]? = some c->aT w (h.set i (some (yS zs cs))) B' b=aT w h B' b:=by
   intro h;induction h with
   | nil=>simp
   | cons x h ih =>
    intro B' i h1 h2;cases B' with
    | nil=>simp at h2
    | cons d B' =>
     cases i with
     | zero =>simp at h1 h2; subst h1; subst h2;simp only[List.set_cons_zero,aT];rw[qj o1,aS1 hrep]
     | succ i =>
      simp at h1 h2;cases x with
      | none=>grind [aT]
      | some ds=>grind [aT]
  simp_all
 have hfp:∀ b,fp B { Z with h:=Z.h.set i (some (yS zs cs)) } t w b=fp B Z t w b:=fun b=>by simp only[fp,hown]
 refine ⟨⟨hI.size,hI.mem,hI.iC,hI.slots,⟨by simp[hI.heap.1],fun i' cs' hi' => ?_⟩,fun b=>by rw[hfp]; exact hI.cnt b,fun b hb=>by rw[hfp]; exact hI.new b hb⟩,dH.refl _ _,Fr.refl _ _ _,fun b _=>by rw[hfp]; omega⟩;by_cases hii:i'=i
 .subst hii;rw[zx (iO.1 hi).1] at hi';injection hi' with hi'; injection hi' with hi'; subst hi'
  refine ⟨c,hc,vs,ty,o1,o2,by rw[aRZ]; exact o3,fun j p hp => ?_,o5⟩;grind [aRY,bQX,bTR]
 .rw[qY (Ne.symm hii)] at hi';exact hI.heap.2 i' cs' hi'
theorem aR' (s:fP):∀ (l:List (Nat×List Nat)) {Z:ASt},Inv n M B out Z t w->Good n out M B Z t w M B { Z with h:=aAD s l Z.h } t w
 | [],Z,hI=>Good.refl hI
 | (k,zs)::l,Z,hI=>by
  have h1:Good n out M B Z t w M B { Z with h:=match bZ k s with | some p=>aAH zs p Z.h | none=>Z.h } t w:=by
   split
   .rename_i p hp;unfold aAH;split
    .rename_i i;split;grind [bNA]
     .exact Good.refl hI
    .exact Good.refl hI
   .exact Good.refl hI
  exact h1.trans (aR' s l h1.inv)
theorem a0Q {E:AE} (hI:Inv n M B out Z t w):Good n out M B Z t w M B (Z.head E) t w:=by have hk:=bKY hI E.vars;have h2:=bR6 hk.inv E.sz;exact (hk.trans h2).trans (aR' (vO E.sz (Z.keep E.vars).s) E.pt h2.inv)
def lift (E:AE) (out:Nat->Nat) (m0:Nat) (M:Mem) (B:aP) (Z:ASt) (t:Array Value) (w:World) (ds:List Deferred) (Q:AX->ASt->Prop) (e:Exit) (a':Act) (w':World):Prop :=∃ ax Z' M' B',e=ax.toExit/\Q ax Z'/\a'.defers=ds/\cu E.n out m0 M B Z t w M' B' Z' a'.tmps w'
theorem a1Q {ds:List Deferred} {Q:AX->ASt->Prop} (h:cu E.n out m0 M B Z t w M1 B1 Z1 t1 w1) {e:Exit} {a':Act} {w':World} (k:lift E out m0 M1 B1 Z1 t1 w1 ds Q e a' w'):lift E out m0 M B Z t w ds Q e a' w':=by obtain ⟨ax,Z',M',B',h1,h2,h3,h4⟩:=k;exact ⟨ax,Z',M',B',h1,h2,h3,h.trans h4⟩
theorem xH (hm:E.P.follows .mixedOrders=true):∀ (c:Code) {M:Mem} {B:aP} {Z:ASt} {a:Act} {w:World} {Q:AX->ASt->Prop},Inv E.n M B out Z a.tmps w->dS E m0 c Q Z->c.wp E.P (lift E out m0 M B Z a.tmps w a.defers Q) a w
 | .skip,M,B,Z,a,w,Q,hI,h=>wp_skip ⟨.normal,Z,M,B,rfl,h,rfl,cu.refl hI⟩
 | .label l,M,B,Z,a,w,Q,hI,h=>wp_label ⟨.normal,Z,M,B,rfl,h,rfl,cu.refl hI⟩
 | .exit id,M,B,Z,a,w,Q,hI,h=>wp_exit ⟨.exit id,Z,M,B,rfl,h,rfl,cu.refl hI⟩
 | .ret,M,B,Z,a,w,Q,hI,h=>wp_ret ⟨.ret,Z,M,B,rfl,h,rfl,cu.refl hI⟩
 | .region id ops draw,M,B,Z,a,w,Q,hI,h=>by
  have hk:=a0Q (E:=E) hI;rw[dS] at h;cases draw with
  | false =>simp only[Qo,if_false] at h;exact wp_region_list (SG _ hk.inv h fun Z' M' B' a' w' hq hG hd=>⟨.normal,Z',M',B',rfl,hq,hd,(hk.trans hG).c⟩)
  | true =>simp only[BD] at h;exact aY0 hm hk.inv h fun Z' M' B' a' w' hq hG hd=>⟨.normal,Z',M',B',rfl,hq,hd,(hk.trans hG).c⟩
 | .seq x y,M,B,Z,a,w,Q,hI,h=>by
  rw[dS] at h;refine wp_seq (vZ (xH hm x hI h) fun e a' w' hl => ?_);obtain ⟨ax,Z',M',B',rfl,hq,hd,hG⟩:=hl;cases ax with
  | normal =>
   obtain ⟨ks,hq⟩:=hq;obtain ⟨M2,B2,hz⟩:=Yw (m0:=m0) ks hG.inv;have hG:=hG.trans hz;rcases hq with hq | ⟨l,m,hm0,hg,hq⟩
   .exact vZ (xH hm y hG.inv hq) fun e a2 w2 hl2=>by rw[hd] at hl2; exact a1Q hG hl2
   .have hgc:=hG.trans (FH hG.inv hm0 hg);exact vZ (xH hm y hgc.inv hq) fun e a2 w2 hl2=>by rw[hd] at hl2; exact a1Q hgc hl2
  | ret=>exact ⟨.ret,Z',M',B',rfl,hq,hd,hG⟩
  | exit i=>exact ⟨.exit i,Z',M',B',rfl,hq,hd,hG⟩
 | .cond c x y,M,B,Z,a,w,Q,hI,h=>by
  rw[dS] at h;split at h
  .rename_i b hb;have he:=kE.1 (hI.rd _ _ hb).1;refine wp_cond_split he (fun hb=>xH hm x hI (h.1 hb)) (fun hb=>xH hm y hI (h.2 hb))
  simp_all
 | .block id x,M,B,Z,a,w,Q,hI,h=>by
  rw[dS] at h;refine wp_block (vZ (xH hm x hI h) fun e a' w' hl => ?_);obtain ⟨ax,Z',M',B',rfl,hq,hd,hG⟩:=hl;cases ax with
  | normal=>exact ⟨.normal,Z',M',B',rfl,hq,hd,hG⟩
  | ret=>exact ⟨.ret,Z',M',B',rfl,hq,hd,hG⟩
  | exit i =>
   simp only[AX.toExit,Exit.inBlock];simp only[O3] at hq;split
   .rename_i e; rw[aX e] at hq; exact ⟨.normal,Z',M',B',rfl,hq,hd,hG⟩
   .rename_i e; rw[aV e] at hq; exact ⟨.exit i,Z',M',B',rfl,hq,hd,hG⟩
 | .scope x,M,B,Z,a,w,Q,hI,h=>by rw[dS] at h;refine wp_scope_straight (vZ (xH hm x hI h) fun e a' w' hl => ?_);obtain ⟨ax,Z',M',B',rfl,hq,hd,hG⟩:=hl;cases ax<;>exact ⟨_,Z',M',B',rfl,hq,hd,hG⟩
 | .loop x,M,B,Z,a,w,Q,hI,h=>by
  rw[dS] at h;obtain ⟨k,hk⟩:=h;refine wp_loop_rounds k ?_;have key:∀ (k:Nat) (M1:Mem) (B1:aP) (Z1:ASt) (a1:Act) (w1:World),cu E.n out m0 M B Z a.tmps w M1 B1 Z1 a1.tmps w1->a1.defers=a.defers->Ll m0 (dS E m0 x) Q k Z1->Code.rounds E.P x (lift E out m0 M B Z a.tmps w a.defers Q) k a1 w1:=by
   intro k;induction k with
   | zero=>intro M1 B1 Z1 a1 w1 _ _ h; exact h.elim
   | succ k ih =>
    intro M1 B1 Z1 a1 w1 hG hd h;obtain ⟨l,m,hm0,hg,hb⟩:=h;have hgc:=FH hG.inv hm0 hg;rw[rounds_succ];refine vZ (xH hm x hgc.inv hb) fun e a' w' hl => ?_
    obtain ⟨ax,Z',M',B',rfl,hq,hd',hG'⟩:=hl;have hG2:=(hG.trans hgc).trans hG';cases ax with
    | normal=>exact ih M' B' Z' a' w' hG2 (by rw[hd',hd]) hq
    | ret=>exact ⟨.ret,Z',M',B',rfl,hq,by rw[hd',hd],hG2⟩
    | exit i=>exact ⟨.exit i,Z',M',B',rfl,hq,by rw[hd',hd],hG2⟩
  exact key k M B Z a w (cu.refl hI) rfl hk
 | .rangeFunc f ps az b,_,_,_,_,_,_,_,h=>by rw[dS] at h; exact h.elim
 | .goto l,_,_,_,_,_,_,_,h=>by rw[dS] at h; exact h.elim
 | .refuse l,_,_,_,_,_,_,_,h=>by rw[dS] at h; exact h.elim
end
def mO:Nat->bZZ->fP
 | _,[] => []
 | k,p::ps=>(k,p.un)::mO (k+1) ps
def resV (P:Program) (Z:ASt):ResultVar->Option PV
 | .tmp t=>bZ t Z.s
 | .cell t ty=>match ti P ty,bZ t Z.s with
  | some I,some q=>(oP false I q Z).map (·.1)
  | _,_=>none
def Lh (P:Program) (rs:List ResultVar) (m0:Nat) (r:PV) (h':aG) (Z:ASt):Prop :=
 m0<=h'.length/\Z.h.take h'.length=h'/\r.blw h'.length=true/\AL h'.length h'=true /\
  match rs with
  | [x]=>resV P Z x=some r
  | rs=>(ji (rs.map (resV P Z))).map (fun ps=>PV.tuple (ps.map PV.un))=some r
section
variable {n:Nat} {out:Nat->Nat} {m0:Nat} {M:Mem} {B:aP} {Z:ASt} {a:Act} {w:World} {P:Program}
def a2Z (tmps:Array Value):ResultVar->Sem Value
 | .tmp t=>pure (tmps.getD t undef)
 | .cell a t=>do loadVar t (<- asAddr (tmps.getD a undef))
theorem bR7 (fn:Func) (tmps:Array Value):results fn tmps=(do let vs<-fn.results.mapM (a2Z tmps); pure (if h:vs.size=1 then vs[0] else .tuple vs)):=by rfl
theorem aT5 (hI:Inv n M B out Z a.tmps w) {x:ResultVar} {p:PV} (h:resV P Z x=some p) :
 ∃ v,(a2Z a.tmps x).run P w = .ok v w/\Rep M B p v/\Tl M w p v/\∀ b,bT p v b<=ik Z.s a.tmps b:=by
 cases x with
 | tmp t =>obtain ⟨h1,h2,h3⟩:=hI.slots t p h;refine ⟨_,rfl,h2,h3,fun b => ?_⟩;have:=EN (s:=Z.s) (t:=a.tmps) (k:=t) (b:=b);have h':bZ t Z.s=some p:=h;grind [pg]
 | cell c t =>
  simp only[resV] at h;split at h
  .rename_i I q hI' hq;cases hl:oP false I q Z with
   | none=>grind
   | some pZ =>
    obtain ⟨p',Z1⟩:=pZ;simp[hl] at h; subst h;have hrd:Z.rd (.tmp c)=some q.un:=by simp[ASt.rd,ASt.ev,hq]
    have hl':oP false I q.un Z=some (p',Z1):=by
     have:oP false I q.un Z=oP false I q Z:=by cases q<;>rfl
     rw[this,hl]
    obtain ⟨v,h1,h2⟩:=a9U hI hI' hrd hl';have bIX:p'.own=false:=by
     unfold oP at hl;split at hl
     grind [qX]
     .split at hl
      .split at hl
       .split at hl
        .cases hl; rfl
        .cases hl
       grind [qX]
      .cases hl
     .cases hl
    refine ⟨v,?_,h2.rep,h2.tl,fun b=>by rw[dP bIX]; omega⟩;show (do loadVar t (<- asAddr (a.tmps.getD c undef)):Sem Value).run P w=_;have he:a.eval (.tmp c)=a.tmps.getD c undef:=rfl;rw[he] at h1;have hr:=(hI.rd _ _ hrd).1;rw[he] at hr;have bXP:∃ ad,a.tmps.getD c undef = .pointer (some ad):=by
     unfold oP at hl';split at hl'
     .rename_i e hq'; rw[hq'] at hr; obtain ⟨b,off,e1,_⟩:=Am.1 hr; simp_all
     .rename_i i off hq'; rw[hq'] at hr; obtain ⟨cc,_,e1⟩:=wO.1 hr; simp_all
     .cases hl'
    grind [Instr.loadAt,Instr.sureAddr,asAddr]
  .cases h
theorem aT7 (hI:Inv n M B out Z a.tmps w):∀ {rs:List ResultVar} {ps:bZZ},ji (rs.map (resV P Z))=some ps ->
 ∃ vs,(rs.mapM (a2Z a.tmps)).run P w = .ok vs w/\ay M B ps vs
 | [],ps,h=>by simp[ji] at h; subst h; exact ⟨[],by simp,dW.2 rfl⟩
 | x::rs,ps,h=>by
  have h':=Xt h;cases ps with
  | nil=>simp at h'
  | cons p ps =>
   simp only[sN,List.cons.injEq] at h';obtain ⟨v,h1,h2,_,_⟩:=aT5 hI h'.1;have hall:∀ ps:bZZ,ji (ps.map some)=some ps:=by
    intro ps; induction ps with
    | nil=>rfl
    | cons a l ih=>simp[ji,ih]
   obtain ⟨vs,h3,h4⟩:=aT7 hI (rs:=rs) (ps:=ps) (by rw[h'.2]; exact hall ps);refine ⟨v::vs,?_,cO.2 ⟨v,vs,rfl,h2,h4⟩⟩;rw[List.mapM_cons,mX,h1,wZ,mX,h3]; rfl
theorem aTB (hI:Inv n M B out Z a.tmps w) {fn:Func} {m0:Nat} {r:PV} {h':aG} (hr:Lh P fn.results.toList m0 r h' Z) :
 ∃ v,(results fn a.tmps).run P w = .ok v w/\Rep M B r v/\Tl M w r v/\∀ b,bT r v b<=ik Z.s a.tmps b:=by
 obtain ⟨_,_,_,_,hres⟩:=hr;have hst:∀ vs:List Value,(fn.results.toList.mapM (a2Z a.tmps)).run P w = .ok vs w->(results fn a.tmps).run P w = .ok (if h:vs.toArray.size=1 then vs.toArray[0] else .tuple vs.toArray) w:=fun vs h=>by rw[bR7,Array.mapM_eq_mapM_toList,mX,Sem.run_map,h]; rfl
 split at hres
 .rename_i x hx;obtain ⟨v,h1,h2,h3,h4⟩:=aT5 hI hres;simp_all
 .rename_i hx;obtain ⟨ps,hps,rfl⟩:=JQ.1 hres;obtain ⟨vs,h1,h2⟩:=aT7 hI hps;have hne:vs.length≠1:=by
   have e1:=oH h2;have e2:=congrArg List.length (Xt hps);simp only[bF] at e2;intro h;generalize fn.results.toList=L at *;match L with
   | []=>simp_all
   | [x]=>grind
   | x::y::l=>simp_all
  refine ⟨.tuple vs.toArray,?_,tq.2 ⟨_,rfl,by simpa using Iu h2⟩,fJ rfl,fun b=>by rw[dP rfl]; omega⟩;rw[hst vs h1,dif_neg (by omega)]
theorem aCT:∀ {args:bZZ} {k j:Nat} {p:PV},bZ j (mO k args)=some p->∃ i q,j=k+i/\args[i]? = some q/\p=q.un
 | [],_,_,_,h=>by simp[mO,bZ] at h
 | q::qs,k,j,p,h=>by
  rw[mO,bZ] at h;split at h
  simp_all
  .obtain ⟨i,q',h1,h2,h3⟩:=aCT h;exact ⟨i+1,q',by omega,by grind,h3⟩
theorem aCU:∀ {args:bZZ} {k:Nat},jM (mO k args)/\∀ x,x∈mO k args->k<=x.1
 | [],k=>⟨by simp[mO,jM],by simp[mO]⟩
 | q::qs,k=>by
  obtain ⟨h1,h2⟩:=aCU (args:=qs) (k:=k+1);rw[mO];refine ⟨Cc.2 ⟨fun x hx=>by have:=h2 x hx; show k<x.1; omega,h1⟩,fun x hx => ?_⟩;rcases kG.1 hx with rfl | hx
  .exact fK _
  .have:=h2 x hx; omega
theorem Vt {t:Array Value} {b:Nat}:∀ {args:bZZ} {k:Nat},ik (mO k args) t b=0
 | [],_=>rfl
 | q::qs,k=>by rw[mO,ik,QA,Vt]
def fin1 (p:PV) (z:List Nat×Bool):PV:=match z.2 with | true=>p.zo z.1 | false=>(p.zo z.1).un
def a6I:List (List Nat×Bool)->bZZ->bZZ
 | z::zs,p::ps=>fin1 p z::a6I zs ps
 | _,ps=>ps
def xJ (ro:List (List Nat×Bool)) (r:PV):PV:=match ro,r with
 | [],r=>r
 | _,.tuple ps => .tuple (a6I ro ps)
 | z::_,r=>fin1 r z
theorem aHS {p:PV} {z:List Nat×Bool} {v:Value} (h:Rep M B p v):Rep M B (fin1 p z) v:=by
 unfold fin1; split
 .exact Vf _ h
 .exact ou.2 (Vf _ h)
theorem aHT:∀ {zs:List (List Nat×Bool)} {ps:bZZ} {vs:List Value},ay M B ps vs->ay M B (a6I zs ps) vs
 | [],ps,vs,h=>by cases ps<;>exact h
 | z::zs,[],vs,h=>h
 | z::zs,p::ps,vs,h=>by obtain ⟨u,us,rfl,h1,h2⟩:=cO.1 h;exact cO.2 ⟨u,us,rfl,aHS h1,aHT h2⟩
theorem aHV {ro:List (List Nat×Bool)} {r:PV} {v:Value} (h:Rep M B r v):Rep M B (xJ ro r) v:=by
 unfold xJ; split
 .exact h
 .obtain ⟨vs,rfl,hr⟩:=tq.1 h;exact tq.2 ⟨vs,rfl,aHT hr⟩
 .exact aHS h
theorem a_V {p:PV} {z:List Nat×Bool} {v:Value} (hr:Rep M B p v) (h:Tl M w p v):Tl M w (fin1 p z) v:=by grind [fin1,aVF,fJ,qX]
theorem aHW {ro:List (List Nat×Bool)} {r:PV} {v:Value} (hr:Rep M B r v) (h:Tl M w r v):Tl M w (xJ ro r) v:=by
 unfold xJ; split
 .exact h
 .exact fJ rfl
 .exact a_V hr h
theorem aHU {ro:List (List Nat×Bool)} {r:PV} {v:Value} {b:Nat}:bT (xJ ro r) v b<=bT r v b:=by
 unfold xJ; split;omega
 .rw[dP rfl]; omega
 grind [fin1,aS6,QA]
theorem aO4 {n:Nat} {h:aG} {vals:Array Value} {out:Nat->Nat} {M:Mem} {B:aP} {w:World} (hlen:args.length<=n) (hmem:zf M w) (hheap:qf M B w h) (hcnt:∀ b,aT w h B b+out b<=1) (hnew:∀ b,w.heap.size<=b->aT w h B b+out b=0) 
 (hv:ay M B args vals.toList):Inv n M B out ⟨mO 0 args,h⟩ (vals ++ Array.replicate (n-vals.size) undef) w:=by
 have hvl:=oH hv;simp only[Array.length_toList] at hvl;have hfp:∀ t b,fp B ⟨mO 0 args,h⟩ t w b=aT w h B b:=fun t b=>by grind [fp,Vt]
 refine ⟨by simp; omega,hmem,aCU.1,fun k p hk => ?_,hheap,fun b=>by rw[hfp]; exact hcnt b,fun b hb=>by rw[hfp]; simp_all⟩;obtain ⟨i,q,rfl,hq,rfl⟩:=aCT hk;obtain ⟨v,hv1,hv2⟩:=vN hv hq;have hi:=(iO.1 hq).1;refine ⟨by omega,?_,fJ (qX _)⟩;have hvi:vals[i]? = some v:=by simp_all
 have:(vals ++ Array.replicate (n-vals.size) undef).getD (0+i) undef=v:=by rw[qK,aDV,a4B (by omega),hvi]; rfl
 rw[this]; exact ou.2 hv2
theorem aHX {n:Nat} {fn:Func} {h h':aG} {args:bZZ} {out:Nat->Nat} {M M':Mem} {B B':aP} {w w':World} {t:Array Value} {a':Act} {Z':ASt} {r0:PV} {ro:List (List Nat×Bool)} (hheap:qf M B w h)
 (hG:cu n out h.length M B ⟨mO 0 args,h⟩ t w M' B' Z' a'.tmps w') (hret:Lh P fn.results.toList h.length r0 h' Z'):∃ v,(results fn a'.tmps).run P w' = .ok v w'/\∃ M'' B'',Post h B out M w (xJ ro r0) h' v M'' B'' w':=by
 have hfp:∀ t b,fp B ⟨mO 0 args,h⟩ t w b=aT w h B b:=fun t b=>by grind [fp,Vt]
 obtain ⟨v,hrun,hrep,htl,hown⟩:=aTB hG.inv hret;obtain ⟨hm0,hht,hb1,hb2,_⟩:=hret;generalize hm':h'.length=m at *;subst hht;have hpost:Post h B out M w (xJ ro r0) (Z'.h.take m) v M' (B'.take m) w':=by
  have hBl:B.length=h.length:=hheap.1.symm;have htake:=fun b=>aAG (w:=w') m b Z'.h B'
  have hfin:∀ b,aT w' (Z'.h.take m) (B'.take m) b+bT (xJ ro r0) v b<=fp B' Z' a'.tmps w' b:=fun b=>by have:=htake b; have:=hown b; have:=aHU (ro:=ro) (r:=r0) (v:=v) (b:=b); simp only[fp]; omega
  refine ⟨hG.inv.mem,⟨hG.mem,fun i c hc => ?_⟩,hG.fr.mono fun b hb h0=>by rw[hfp]; exact h0,⟨by simp[hG.inv.heap.1],fun i cs hi => ?_⟩,aHV (hrep.blw hb1),aHW (hrep.blw hb1) htl,fun b hb => ?_,fun b => ?_,fun b hb => ?_⟩
  .have hlt:=(iO.1 hc).1;rw[mV,aX (by omega)];exact hG.pre i c (by omega) hc
  .have hi0:=hi;rw[mV] at hi;split at hi
   .rename_i hlt;obtain ⟨c,hc,vs,ty,o1,o2,o3,o4,o5⟩:=hG.inv.heap.2 i cs hi;refine ⟨c,by rw[mV,aX hlt]; exact hc,vs,ty,o1,o2,o3,fun j p hj => ?_,o5⟩;obtain ⟨u,a1,a2,a3,a4⟩:=o4 j p hj;refine ⟨u,a1,a2.blw ?_,a3,a4⟩;have:=jF.1 hb2 _ (nZ hi0);exact YA.1 this p (nZ hj)
   .cases hi
  .have h1:=hG.own b hb; rw[hfp] at h1; grind
  .have h1:=hG.inv.cnt b; have:=hfin b; omega
  .have h1:=hG.inv.new b hb; have:=hfin b; omega
 grind
theorem sQ.aAA {cp:CP} {g:FuncId} {fn:Func} {c:Code} (hcp:∀ {vals:Array Value} {w:World} {R:Ending->World->Prop},c.wp P (bodyPost P fn R) { tmps:=vals ++ Array.replicate (fn.ntmps-vals.size) undef,defers := [] } w->cp g vals w R) (hm:P.follows .mixedOrders=true) (hf:P.funcs[g]? = some fn) (hb:fn.body=some c) (hn:(fn.name != "runtime.NumGoroutine")=true) {args:bZZ} {h:aG} {r:PV} {h':aG} (vars mv mu:List Nat) (sz jt lt pt:List (Nat×List Nat)) (fz:List Nat) (ro:List (List Nat×Bool)) (ft:List (Nat×List Nat)) (sy ln:List Nat) (hlen:args.length<=fn.ntmps)
 (hA:dS ⟨P,fn.ntmps,vars,mv,mu,sz,jt,lt,pt,fz,ft,sy,ln⟩ h.length c (fun e Z'=>(match e with | .exit _=>False | _=>True)/\∃ r0,Lh P fn.results.toList h.length r0 h' Z'/\xJ ro r0=r) ⟨mO 0 args,h⟩):sQ P cp g args h r h':=by
 refine ⟨by grind [callable],fun out M B w vals hmem hheap hcnt hnew hv => ?_⟩;have hI:=aO4 (n:=fn.ntmps) hlen hmem hheap hcnt hnew hv;refine hcp (vZ (xH (E:=⟨P,fn.ntmps,vars,mv,mu,sz,jt,lt,pt,fz,ft,sy,ln⟩) (out:=out) (a := { tmps:=vals ++ Array.replicate (fn.ntmps-vals.size) undef,defers := [] }) hm c hI hA) fun e a' w' hl => ?_);obtain ⟨ax,Z',M',B',rfl,⟨hax,r0,hret,rfl⟩,hd,hG⟩:=hl;obtain ⟨v,hrun,M'',B'',hpost⟩:=aHX (ro:=ro) hheap hG hret;cases ax with
 | normal=>exact ⟨hd,v,hrun,v,M'',B'',rfl,hpost⟩
 | ret=>exact ⟨hd,v,hrun,v,M'',B'',rfl,hpost⟩
 | exit i=>grind
end
theorem Ev.frame {P:Program} {r:PV} (h:Ev P g args [] r []) (hr:r.flat=true) (ha:PV.flats args=true) (hh:aG):Ev P g args hh r hh:=h.frame' hr ha hh
theorem a5M {E:AE} {dst:Option Nat} {K:ASt->Prop} {Z:ASt} {r:PV} (h:Ev E.P g args [] r []) (hr:r.flat=true) (ha:PV.flats args=true) (hk:jE E dst r Z K):SV E g args dst K Z:=⟨r,Z.h,h.frame hr ha _,hk⟩
theorem wrap64 {n:Int} (h1 : -9223372036854775808<=n) (h2:n<=9223372036854775807):i64.wrap n=n:=IntWalk.i64_in n ⟨h1,h2⟩
theorem xk {E:AE} {dst:Option Nat} {p:PV} {Z:ASt} {K K':ASt->Prop} (hk:∀ Z,K Z->K' Z) (h:jE E dst p Z K):jE E dst p Z K':=by grind [jE]
theorem aUS {E:AE} {o:Oper} {Z:ASt} {K K':ASt->Prop} (hk:∀ Z,K Z->K' Z) (h:yY E o K Z):yY E o K' Z:=by grind [yY,xk]
theorem aUU {E:AE} {o:Oper} {Z:ASt} {K K':ASt->Prop} (hk:∀ Z,K Z->K' Z) (h:QY E o K Z):QY E o K' Z:=by
 rcases h with h | h
 .exact .inl (aUS hk h)
 .refine .inr ?_;unfold VE at *;split at h
  .exact fun b hb=>xk hk (h b hb)
  omega
theorem Y2 {E:AE} {o:Oper} {Z:ASt} {K K':ASt->Prop} (hk:∀ Z,K Z->K' Z) (h:xG E o K Z):xG E o K' Z:=by
 unfold xG at *;split
 .rename_i c hc;simp only[hc] at h;split
  .rename_i f hf;simp only[hf] at h;split at h
   .rename_i h1 h2;obtain ⟨r,h',a,b⟩:=h;exact ⟨r,h',a,xk hk b⟩
   omega
  grind [aUU]
 grind [aUU]
theorem DN {E:AE} {ops:Array Oper} {K K':ASt->Prop} (hk:∀ Z,K Z->K' Z):∀ (l:List Oper) {Z:ASt},lQ E ops l K Z->lQ E ops l K' Z
 | [],Z,h=>hk Z h
 | o::l,Z,h=>by
  rw[lQ] at h ⊢;split
  .rename_i hg;simp only[hg] at h;exact Y2 (fun Z hZ=>DN hk l hZ) h
  .rename_i j want hg;simp only[hg] at h;split
   .rename_i hv;rw[hv] at h;exact xk (fun Z hZ=>DN hk l hZ) h
   .rename_i b hv;rw[hv] at h;exact ⟨fun e=>Y2 (fun Z hZ=>DN hk l hZ) (h.1 e),fun e=>xk (fun Z hZ=>DN hk l hZ) (h.2 e)⟩
   .rename_i hv;rw[hv] at h;exact h.elim
theorem Y1 {E:AE} {o:Oper} {Z:ASt} {K K':ASt->Prop} (hk:∀ Z,K Z->K' Z) (h:BZ E o K Z):BZ E o K' Z:=by
 unfold BZ at *;split
 .rename_i f args hc;simp only[hc] at h;split at h
  .rename_i h1 h2;rcases h with ⟨r,a,b,c,d⟩ | ⟨hsy,r,h',a,ro,d⟩
   .exact .inl ⟨r,a,b,c,xk hk d⟩
   .exact .inr ⟨hsy,r,h',a,ro,xk hk d⟩
  omega
 grind [aUS]
theorem SC {E:AE} {ops:Array Oper} {K K':ASt->Prop} (hk:∀ Z,K Z->K' Z):∀ (l:List Oper) {Z:ASt},sV E ops l K Z->sV E ops l K' Z
 | [],Z,h=>hk Z h
 | o::l,Z,h=>by
  rw[sV] at h ⊢;split
  .rename_i hg;simp only[hg] at h;exact Y1 (fun Z hZ=>SC hk l hZ) h
  .rename_i j want hg;simp only[hg] at h;split
   .rename_i hv;rw[hv] at h;exact xk (fun Z hZ=>SC hk l hZ) h
   .rename_i b hv;rw[hv] at h;exact ⟨fun e=>Y1 (fun Z hZ=>SC hk l hZ) (h.1 e),fun e=>xk (fun Z hZ=>SC hk l hZ) (h.2 e)⟩
   .rename_i hv;rw[hv] at h;exact h.elim
theorem aY1 {E:AE} {ops:Array Oper} {Z:ASt} {K K':ASt->Prop} (hk:∀ Z,K Z->K' Z) (h:Y0 E ops K Z):Y0 E ops K' Z:=⟨h.1,SC hk _ h.2⟩
theorem aTD {m0:Nat} {b:(AX->ASt->Prop)->ASt->Prop} {Q Q':AX->ASt->Prop} (hb:∀ (Q Q':AX->ASt->Prop) (Z:ASt),(∀ e Z,Q e Z->Q' e Z)->b Q Z->b Q' Z) (hq:∀ e Z,Q e Z->Q' e Z):∀ (k:Nat) (Z:ASt),Ll m0 b Q k Z->Ll m0 b Q' k Z
 | 0,_,h=>h.elim
 | k+1,Z,⟨l,m,h1,h2,h3⟩=>⟨l,m,h1,h2,hb _ _ _ (fun e Z he=>by
  cases e with
  | normal=>exact aTD hb hq k Z he
  | ret=>exact hq _ _ he
  | exit i=>exact hq _ _ he) h3⟩
theorem yC {E:AE} {m0:Nat}:∀ (c:Code) {Q Q':AX->ASt->Prop} {Z:ASt},(∀ e Z,Q e Z->Q' e Z)->dS E m0 c Q Z->dS E m0 c Q' Z
 | .skip,_,_,_,hq,h=>hq _ _ h
 | .label _,_,_,_,hq,h=>hq _ _ h
 | .exit _,_,_,_,hq,h=>hq _ _ h
 | .ret,_,_,_,hq,h=>hq _ _ h
 | .region _ ops draw,_,_,_,hq,h=>by
  rw[dS] at h ⊢;cases draw with
  | false=>grind [DN]
  | true=>simp only[BD] at h ⊢; exact h.elim (fun h => .inl (aY1 (fun Z=>hq _ Z) h)) fun h => .inr (aEA (fun Z=>hq _ Z) _ h)
 | .seq x y,Q,Q',_,hq,h=>by
  rw[dS] at h ⊢;refine yC x (fun e Z he => ?_) h;cases e with
  | normal =>
   obtain ⟨ks,he⟩:=he;rcases he with he | ⟨l,m,a1,a2,he⟩
   .exact ⟨ks,.inl (yC y hq he)⟩
   .exact ⟨ks,.inr ⟨l,m,a1,a2,yC y hq he⟩⟩
  | ret=>exact hq _ _ he
  | exit i=>exact hq _ _ he
 | .cond c x y,_,_,_,hq,h=>by
  rw[dS] at h ⊢;split
  .rename_i b hb;rw[hb] at h;exact ⟨fun e=>yC x hq (h.1 e),fun e=>yC y hq (h.2 e)⟩
  .rename_i hb;split at h
   .rename_i b hb'; exact absurd hb' (hb b)
   .exact h
 | .block id x,_,_,_,hq,h=>by
  rw[dS] at h ⊢;refine yC x (fun e Z he => ?_) h;cases e with
  | normal=>exact hq _ _ he
  | ret=>exact hq _ _ he
  | exit i =>grind [O3]
 | .loop x,_,_,_,hq,h=>by rw[dS] at h ⊢;obtain ⟨k,hk⟩:=h;exact ⟨k,aTD (b:=dS E m0 x) (fun _ _ _ hq hb=>yC x hq hb) hq k _ hk⟩
 | .scope x,_,_,_,hq,h=>by rw[dS] at h ⊢; exact yC x hq h
 | .rangeFunc ..,_,_,_,_,h=>by rw[dS] at h; exact h.elim
 | .goto _,_,_,_,_,h=>by rw[dS] at h; exact h.elim
 | .refuse _,_,_,_,_,h=>by rw[dS] at h; exact h.elim
theorem aG9 {E:AE} {dst:Option Nat} {K:ASt->Prop} {Z:ASt} {r:PV} (h:Ev E.P g args [] r []) (hr:r.flat=true) (ha:PV.flats args=true) (hk:jE E dst r Z K):a5L E g args dst K Z := .inl ⟨r,h,hr,ha,hk⟩
section
variable {E:AE} {m0:Nat} {Q:AX->ASt->Prop} {Z:ASt}
end
section
variable {E:AE} {ops:Array Oper} {l:List Oper} {Q:ASt->Prop} {Z:ASt} {o:Oper}
@[simp] theorem bWN : lQ E ops [] Q Z = Q Z := rfl
@[simp] theorem bWM : sV E ops [] Q Z = Q Z := rfl
theorem aY3 (hc:AZ o=none):xG E o Q Z=QY E o Q Z:=by grind [xG]
end
@[simp] theorem bZI (k : IntKind) (n : Int) : PV.un (.int k n) = .int k n := rfl
@[simp] theorem size_int (k : IntKind) (n : Int) : PV.size (.int k n) = 1 := rfl
@[simp] theorem bXW (k : IntKind) (n : Int) : PV.isAgg (.int k n) = false := rfl
@[simp] theorem bYV (k : IntKind) (n : Int) : PV.one (.int k n) = true := rfl
@[simp] theorem bYJ (k : IntKind) (n : Int) : PV.okE (.int k n) = true := rfl
@[simp] theorem bY7 (k : IntKind) (n : Int) : PV.newCells (.int k n) = some [.int k n] := rfl
@[simp] theorem bWS (m : Nat) (k : IntKind) (n : Int) : PV.blw m (.int k n) = true := by rfl
@[simp] theorem bX7 (k : IntKind) (n : Int) : PV.flat (.int k n) = true := by rfl
@[simp] theorem bZF (b : Bool) : PV.un (.bool b) = .bool b := rfl
@[simp] theorem size_bool (b : Bool) : PV.size (.bool b) = 1 := rfl
@[simp] theorem bXT (b : Bool) : PV.isAgg (.bool b) = false := rfl
@[simp] theorem bYS (b : Bool) : PV.one (.bool b) = true := rfl
@[simp] theorem bYG (b : Bool) : PV.okE (.bool b) = true := rfl
@[simp] theorem bY4 (b : Bool) : PV.newCells (.bool b) = some [.bool b] := rfl
@[simp] theorem bWP (m : Nat) (b : Bool) : PV.blw m (.bool b) = true := by rfl
@[simp] theorem bX4 (b : Bool) : PV.flat (.bool b) = true := by rfl
@[simp] theorem bZO (s : ByteArray) : PV.un (.str s) = .str s := rfl
@[simp] theorem bZA (s : ByteArray) : PV.size (.str s) = 1 := rfl
@[simp] theorem bY1 (s : ByteArray) : PV.isAgg (.str s) = false := rfl
@[simp] theorem bZ0 (s : ByteArray) : PV.one (.str s) = true := rfl
@[simp] theorem bYP (s : ByteArray) : PV.okE (.str s) = true := rfl
@[simp] theorem bYD (s : ByteArray) : PV.newCells (.str s) = some [.str s] := rfl
@[simp] theorem bWY (m : Nat) (s : ByteArray) : PV.blw m (.str s) = true := by rfl
@[simp] theorem bXD (s : ByteArray) : PV.flat (.str s) = true := by rfl
@[simp] theorem bZJ : PV.un (.nilp) = .nilp := rfl
@[simp] theorem bZ5 : PV.size (.nilp) = 1 := rfl
@[simp] theorem bXX : PV.isAgg (.nilp) = false := rfl
@[simp] theorem bYW : PV.one (.nilp) = true := rfl
@[simp] theorem bYK : PV.okE (.nilp) = true := rfl
@[simp] theorem bY8 : PV.newCells (.nilp) = some [.nilp] := rfl
@[simp] theorem bWT (m : Nat) : PV.blw m (.nilp) = true := by rfl
@[simp] theorem bX8 : PV.flat (.nilp) = true := by rfl
@[simp] theorem bZL (v : Value) : PV.un (.raw v) = .raw v := rfl
@[simp] theorem bZ7 (v : Value) : PV.size (.raw v) = 1 := rfl
@[simp] theorem bXZ (v : Value) : PV.isAgg (.raw v) = false := rfl
@[simp] theorem bYY (v : Value) : PV.one (.raw v) = true := rfl
@[simp] theorem bYM (v : Value) : PV.okE (.raw v) = true := rfl
@[simp] theorem bYA (v : Value) : PV.newCells (.raw v) = some [.raw v] := rfl
@[simp] theorem bWV (m : Nat) (v : Value) : PV.blw m (.raw v) = true := by rfl
@[simp] theorem bXA (v : Value) : PV.flat (.raw v) = true := by rfl
@[simp] theorem bZK (i off : Nat) : PV.un (.ptr i off) = .ptr i off := rfl
@[simp] theorem bZ6 (i off : Nat) : PV.size (.ptr i off) = 1 := rfl
@[simp] theorem bXY (i off : Nat) : PV.isAgg (.ptr i off) = false := rfl
@[simp] theorem bYX (i off : Nat) : PV.one (.ptr i off) = true := rfl
@[simp] theorem bYL (i off : Nat) : PV.okE (.ptr i off) = false := rfl
@[simp] theorem bY9 (i off : Nat) : PV.newCells (.ptr i off) = some [.ptr i off] := rfl
@[simp] theorem bWU (m : Nat) (i off : Nat) : PV.blw m (.ptr i off) = decide (i < m) := by rfl
@[simp] theorem bX9 (i off : Nat) : PV.flat (.ptr i off) = false := by rfl
@[simp] theorem bZG (e : PV) : PV.un (.cst e) = .cst e := rfl
@[simp] theorem bZ3 (e : PV) : PV.size (.cst e) = 1 := rfl
@[simp] theorem bXU (e : PV) : PV.isAgg (.cst e) = false := rfl
@[simp] theorem bYT (e : PV) : PV.one (.cst e) = true := rfl
@[simp] theorem bYH (e : PV) : PV.okE (.cst e) = true := rfl
@[simp] theorem bY5 (e : PV) : PV.newCells (.cst e) = some [.cst e] := rfl
@[simp] theorem bWQ (m : Nat) (e : PV) : PV.blw m (.cst e) = true := by rfl
@[simp] theorem bX5 (e : PV) : PV.flat (.cst e) = true := by rfl
@[simp] theorem bZM (o : Bool) (z : Nat) (es : bZZ) : PV.un (.sl o z es) = .sl false z es := rfl
@[simp] theorem bZ8 (o : Bool) (z : Nat) (es : bZZ) : PV.size (.sl o z es) = 1 := rfl
@[simp] theorem bX' (o : Bool) (z : Nat) (es : bZZ) : PV.isAgg (.sl o z es) = false := rfl
@[simp] theorem bYZ (o : Bool) (z : Nat) (es : bZZ) : PV.one (.sl o z es) = true := rfl
@[simp] theorem bYN (o : Bool) (z : Nat) (es : bZZ) : PV.okE (.sl o z es) = true := rfl
@[simp] theorem bYB (o : Bool) (z : Nat) (es : bZZ) : PV.newCells (.sl o z es) = some [.sl false z es] := rfl
@[simp] theorem bWW (m : Nat) (o : Bool) (z : Nat) (es : bZZ) : PV.blw m (.sl o z es) = true := by rfl
@[simp] theorem bXB (o : Bool) (z : Nat) (es : bZZ) : PV.flat (.sl o z es) = true := by rfl
@[simp] theorem bZN (i off n z : Nat) : PV.un (.slh i off n z) = .slh i off n z := rfl
@[simp] theorem bZ9 (i off n z : Nat) : PV.size (.slh i off n z) = 1 := rfl
@[simp] theorem bY0 (i off n z : Nat) : PV.isAgg (.slh i off n z) = false := rfl
@[simp] theorem bY' (i off n z : Nat) : PV.one (.slh i off n z) = true := rfl
@[simp] theorem bYO (i off n z : Nat) : PV.okE (.slh i off n z) = false := rfl
@[simp] theorem bYC (i off n z : Nat) : PV.newCells (.slh i off n z) = some [.slh i off n z] := rfl
@[simp] theorem bWX (m : Nat) (i off n z : Nat) : PV.blw m (.slh i off n z) = decide (i < m) := by rfl
@[simp] theorem bXC (i off n z : Nat) : PV.flat (.slh i off n z) = false := by rfl
@[simp] theorem bZH (f : Fn) (a c : bZZ) : PV.un (.func f a c) = .func f a c := rfl
@[simp] theorem bZ4 (f : Fn) (a c : bZZ) : PV.size (.func f a c) = 1 := rfl
@[simp] theorem bXV (f : Fn) (a c : bZZ) : PV.isAgg (.func f a c) = false := rfl
@[simp] theorem bYU (f : Fn) (a c : bZZ) : PV.one (.func f a c) = true := rfl
@[simp] theorem bYI (f : Fn) (a c : bZZ) : PV.okE (.func f a c) = (PV.flats a && PV.flats c) := rfl
@[simp] theorem bY6 (f : Fn) (a c : bZZ) : PV.newCells (.func f a c) = some [.func f a c] := rfl
@[simp] theorem bWR (m : Nat) (f : Fn) (a c : bZZ) : PV.blw m (.func f a c) = (PV.blws m a && PV.blws m c) := by rfl
@[simp] theorem bX6 (f : Fn) (a c : bZZ) : PV.flat (.func f a c) = (PV.flats a && PV.flats c) := by rfl
@[simp] theorem bZE (cs : bZZ) : PV.un (.agg cs) = .agg cs := rfl
@[simp] theorem bZ2 (cs : bZZ) : PV.size (.agg cs) = cs.length := rfl
@[simp] theorem bXS (cs : bZZ) : PV.isAgg (.agg cs) = true := rfl
@[simp] theorem bYR (cs : bZZ) : PV.one (.agg cs) = false := rfl
@[simp] theorem bYF (cs : bZZ) : PV.okE (.agg cs) = (cs.all PV.one && PV.flats cs) := rfl
@[simp] theorem bY3 (cs : bZZ) : PV.newCells (.agg cs) = if cs.all PV.one then some (cs.map PV.un) else none := rfl
@[simp] theorem bWO (m : Nat) (cs : bZZ) : PV.blw m (.agg cs) = PV.blws m cs := by rfl
@[simp] theorem flat_agg (cs : bZZ) : PV.flat (.agg cs) = PV.flats cs := by rfl
@[simp] theorem bZP (cs : bZZ) : PV.un (.tuple cs) = .tuple cs := rfl
@[simp] theorem bZB (cs : bZZ) : PV.size (.tuple cs) = 1 := rfl
@[simp] theorem bY2 (cs : bZZ) : PV.isAgg (.tuple cs) = false := rfl
@[simp] theorem bZ1 (cs : bZZ) : PV.one (.tuple cs) = false := rfl
@[simp] theorem bYQ (cs : bZZ) : PV.okE (.tuple cs) = false := rfl
@[simp] theorem bYE (cs : bZZ) : PV.newCells (.tuple cs) = none := rfl
@[simp] theorem bWZ (m : Nat) (cs : bZZ) : PV.blw m (.tuple cs) = PV.blws m cs := by rfl
@[simp] theorem bXE (cs : bZZ) : PV.flat (.tuple cs) = PV.flats cs := by rfl
@[simp] theorem bX0 (m : Nat) : PV.blws m [] = true := rfl
@[simp] theorem bW' (m : Nat) (p : PV) (ps : bZZ) : PV.blws m (p :: ps) = (p.blw m && PV.blws m ps) := by rw [PV.blws]
@[simp] theorem bXG : PV.flats [] = true := rfl
@[simp] theorem bXF (p : PV) (ps : bZZ) : PV.flats (p :: ps) = (p.flat && PV.flats ps) := by rw [PV.flats]
attribute [simp] ASt.rdT DY O3 ASt.keep yY bY ASt.put jE iM mO jg uV pop Fg ASt.rd ASt.ev bZ F7 DZ a2D nH Value.oneCell' yZ ASt.clr dF Lh resV oP xh Vy P9 QR Vx aG5 FX DR a3Y Yn a1N Su a1X a1W wS ji Dt ASt.gc AL AZ AY eu
mutual
def jr (f:Nat->Nat):PV->PV
 | .ptr i o => .ptr (f i) o
 | .dA T i => .dA T (f i)
 | .slh i o n z => .slh (f i) o n z
 | .func fn a c => .func fn (kL f a) (kL f c)
 | .agg cs => .agg (kL f cs)
 | .tuple cs => .tuple (kL f cs)
 | .int k n => .int k n
 | .bool b => .bool b
 | .str s => .str s
 | .nilp => .nilp
 | .raw v => .raw v
 | .cst e => .cst e
 | .dC l => .dC l
 | .gX o n z cs => .gX o n z cs
 | .mp l => .mp l
 | .sl o z es => .sl o z es
def kL (f:Nat->Nat):bZZ->bZZ
 | [] => []
 | p::ps=>jr f p::kL f ps
end
mutual
def PV.allI (D:Nat->Bool):PV->Bool
 | .ptr i _=>D i
 | .dA _ i=>D i
 | .slh i _ _ _=>D i
 | .func _ a c=>PV.o6 D a&&PV.o6 D c
 | .agg cs=>PV.o6 D cs
 | .tuple cs=>PV.o6 D cs
 | _=>true
def PV.o6 (D:Nat->Bool):bZZ->Bool
 | []=>true
 | p::ps=>p.allI D&&PV.o6 D ps
end
def mM (f:Nat->Nat):Option (bZZ)->Option (bZZ)
 | some cs=>some (kL f cs)
 | none=>none
def uY:List Nat->Nat->Nat
 | [],_=>0
 | j::l,i=>bif Nat.beq j i then 0 else uY l i+1
def nR:List Nat->Nat->Bool
 | [],_=>false
 | j::l,i=>Nat.beq j i||nR l i
def rQ (ids:List Nat) (n m:Nat):Nat:=match ids[m]? with | some i=>i | none=>n+(m-ids.length)
def uA:List Nat->aG->aG->aG
 | i::is,o::os,H=>uA is os (H.set i o)
 | _,_,H=>H
def nodupB:List Nat->Bool
 | []=>true
 | i::l => !(nR l i)&&nodupB l
def qR (H:aG) (i:Nat):Option (bZZ):=match H[i]? with | some o=>o | none=>none
def yD (ids:List Nat) (H h':aG):aG:=uA ids ((h'.take ids.length).map (mM (rQ ids H.length))) H ++ (h'.drop ids.length).map (mM (rQ ids H.length))
theorem a0R {l:List Nat} {i:Nat}:nR l i=true↔i∈l:=by
 induction l with
 | nil=>simp[nR]
 | cons j l ih =>
  rw[nR,Gl,ih,kG];constructor;grind [Nat.eq_of_beq_eq_true]
  .rintro (h | h);simp_all;simp_all
theorem bPV {l:List Nat} {i:Nat} (h:i∈l):l[uY l i]? = some i:=by
 induction l with
 | nil=>simp at h
 | cons j l ih =>
  rw[uY];cases hb:Nat.beq j i with
  | true=>have:=oJ hb; simp_all
  | false =>
   have hne:j≠i:=fun e=>by simp_all
   grind
section
variable {M:Mem} {B B':aP} {w w':World}
mutual
theorem aS' {f:Nat->Nat} {D:Nat->Bool} (hf:∀ i c,D i=true->B[i]? = some c->B'[f i]? = some c):∀ p:PV,p.allI D=true->∀ v,(bC M B p).1 v->(bC M B' (jr f p)).1 v
 | .int _ _,_,v,h=>by simpa only[jr,bC] using h
 | .bool _,_,v,h=>by simpa only[jr,bC] using h
 | .str _,_,v,h=>by simpa only[jr,bC] using h
 | .nilp,_,v,h=>by simpa only[jr,bC] using h
 | .raw _,_,v,h=>by simpa only[jr,bC] using h
 | .cst _,_,v,h=>by simpa only[jr,bC] using h
 | .sl _ _ _,_,v,h=>by simpa only[jr,bC] using h
 | .dC _,_,v,h=>by simpa only[jr,bC] using h
 | .gX _ _ _ _,_,v,h=>by simpa only[jr,bC] using h
 | .mp _,_,v,h=>by simpa only[jr,bC] using h
 | .ptr i o,hd,v,h=>by simp only[bC,jQ] at h;simp only[jr,bC,jQ];obtain ⟨c,hc,e⟩:=h;exact ⟨c,⟨hf i c (by simpa only[PV.allI] using hd) hc.1,hc.2⟩,e⟩
 | .dA T i,hd,v,h=>by simp only[bC,jQ] at h;simp only[jr,bC,jQ];obtain ⟨c,hc,e⟩:=h;exact ⟨c,hf i c (by simpa only[PV.allI] using hd) hc,e⟩
 | .slh i o n z,hd,v,h=>by simp only[bC,jQ] at h;simp only[jr,bC,jQ];obtain ⟨c,cap,hc,e⟩:=h;exact ⟨c,cap,⟨hf i c (by simpa only[PV.allI] using hd) hc.1,hc.2⟩,e⟩
 | .func fn a c,hd,v,h=>by simp only[PV.allI,bI] at hd;simp only[bC,jQ] at h;simp only[jr,bC,jQ];obtain ⟨x,y,e,h1,h2⟩:=h;exact ⟨x,y,e,QI hf a hd.1 _ h1,QI hf c hd.2 _ h2⟩
 | .agg cs,hd,v,h=>by simp only[bC] at h;simp only[jr,bC];obtain ⟨vs,e,h1⟩:=h;exact ⟨vs,e,QI hf cs (by simpa only[PV.allI] using hd) _ h1⟩
 | .tuple cs,hd,v,h=>by simp only[bC] at h;simp only[jr,bC];obtain ⟨vs,e,h1⟩:=h;exact ⟨vs,e,QI hf cs (by simpa only[PV.allI] using hd) _ h1⟩
theorem QI {f:Nat->Nat} {D:Nat->Bool} (hf:∀ i c,D i=true->B[i]? = some c->B'[f i]? = some c):∀ ps:bZZ,PV.o6 D ps=true->∀ vs,oL (iI M B ps) vs->oL (iI M B' (kL f ps)) vs
 | [],_,vs,h=>by simpa only[kL,iI] using h
 | p::ps,hd,vs,h=>by
  simp only[PV.o6,bI] at hd;cases vs with
  | nil=>simp[iI,oL] at h
  | cons v vs =>simp only[iI,oL] at h;simp only[kL,iI,oL];exact ⟨aS' hf p hd.1 v h.1,QI hf ps hd.2 vs h.2⟩
end
theorem aC2 {f:Nat->Nat} {D:Nat->Bool} (hf:∀ i c,D i=true->B[i]? = some c->B'[f i]? = some c) {p:PV} (hd:p.allI D=true) {v:Value} (h:Rep M B p v):Rep M B' (jr f p) v:=aS' hf p hd v h
theorem bR4 {f:Nat->Nat} {D:Nat->Bool} (hf:∀ i c,D i=true->B[i]? = some c->B'[f i]? = some c) {ps:bZZ} (hd:PV.o6 D ps=true) {vs:List Value} (h:ay M B ps vs):ay M B' (kL f ps) vs:=QI hf ps hd vs h
mutual
theorem a5B:∀ p:PV,p.allI (fun _=>true)=true
 | .func _ a c=>by simp only[PV.allI,Ry a,Ry c,JG]
 | .agg cs=>by simp only[PV.allI,Ry cs]
 | .tuple cs=>by simp only[PV.allI,Ry cs]
 | .ptr _ _=>rfl
 | .dA _ _=>rfl
 | .slh _ _ _ _=>rfl
 | .int _ _=>rfl
 | .bool _=>rfl
 | .str _=>rfl
 | .nilp=>rfl
 | .raw _=>rfl
 | .cst _=>rfl
 | .sl _ _ _=>rfl
 | .dC _=>rfl
 | .gX _ _ _ _=>rfl
 | .mp _=>rfl
theorem Ry:∀ ps:bZZ,PV.o6 (fun _=>true) ps=true
 | []=>rfl
 | p::ps=>by simp only[PV.o6,a5B p,Ry ps,JG]
end
theorem bQU (f:Nat->Nat) (p:PV):(jr f p).own=p.own:=by cases p<;>rfl
theorem a2G (f:Nat->Nat) (p:PV) (v:Value) (b:Nat):bT (jr f p) v b=bT p v b:=by unfold bT; rw[bQU]
theorem aD2 {f:Nat->Nat} {p:PV} {v:Value} (h:Tl M w p v):Tl M w (jr f p) v:=by cases p<;>first | exact h | exact fJ rfl
theorem aBZ {f:Nat->Nat}:∀ {ps:bZZ} {j:Nat},(kL f ps)[j]? =(ps[j]?).map (jr f)
 | [],j=>by simp[kL]
 | p::ps,0=>by simp[kL]
 | p::ps,j+1=>by rw[kL,aE0,aE0]; exact aBZ
theorem aB' {f:Nat->Nat}:∀ ps:bZZ,(kL f ps).length=ps.length
 | []=>rfl
 | p::ps=>by simp[kL,aB' ps]
theorem aS2 {f:Nat->Nat} {b:Nat}:∀ (cs:bZZ) (vs:List Value),dn (kL f cs) vs b=dn cs vs b
 | [],_=>by rfl
 | p::ps,[]=>by rfl
 | p::ps,v::vs=>by rw[kL,dn,dn,a2G,aS2 ps vs]
theorem VP {f:Nat->Nat} {b:Nat}:∀ (h:aG) (B:aP),aT w (h.map (mM f)) B b=aT w h B b
 | [],_=>by simp[aT]
 | some cs::h,[]=>by rfl
 | none::h,[]=>by rfl
 | some cs::h,c::B=>by simp only[sN,mM,aT,aS2,VP h B]
 | none::h,c::B=>by simp only[sN,mM,aT,VP h B]
def o1 (w:World) (b:Nat) (o:Option (bZZ)) (c:Nat×Nat×TypeId):Nat:=match o with | some cs=>(if c.1=b then 1 else 0)+dn cs (gy w c.1) b | none=>0
theorem Ic (o:Option (bZZ)) (h:aG) (c:Nat×Nat×TypeId) (B:aP) (b:Nat):aT w (o::h) (c::B) b=o1 w b o c+aT w h B b:=by
 cases o with
 | none=>grind [aT,o1]
 | some cs=>rfl
theorem aS4 {b:Nat} {o:Option (bZZ)}:∀ {H:aG} {B:aP} {i:Nat} {old:Option (bZZ)} {c:Nat×Nat×TypeId},H[i]? = some old->B[i]? = some c->aT w (H.set i o) B b+o1 w b old c=aT w H B b+o1 w b o c
 | [],_,_,_,_,h,_=>by simp at h
 | _::_,[],_,_,_,_,h=>by simp at h
 | x::H,d::B,0,old,c,h1,h2=>by grind [Ic]
 | x::H,d::B,i+1,old,c,h1,h2=>by have:=aS4 (b:=b) (o:=o) (H:=H) (B:=B) (i:=i) (by simpa using h1) (by simpa using h2);rw[List.set_cons_succ,Ic,Ic]; omega
theorem aAE {b:Nat}:∀ {h k:aG} {B C:aP},h.length=B.length->aT w (h ++ k) (B ++ C) b=aT w h B b+aT w k C b
 | [],k,[],C,_=>by simp[aT]
 | o::h,k,c::B,C,e=>by rw[lI,lI,Ic,Ic,aAE (by grind)]; omega
 | [],_,_::_,_,e=>by simp at e
 | _::_,_,[],_,e=>by simp at e
theorem Lt:∀ (is:List Nat) (os H:aG),(uA is os H).length=H.length
 | [],os,H=>by cases os<;>rfl
 | i::is,[],H=>rfl
 | i::is,o::os,H=>by rw[uA,Lt]; simp
theorem Vl {i:Nat}:∀ {is:List Nat} {os H:aG},i∉is->(uA is os H)[i]? = H[i]?
 | [],os,H,_=>by cases os<;>rfl
 | j::is,[],H,_=>rfl
 | j::is,o::os,H,h=>by rw[uA,Vl (fun e=>h (by simp[e])),qY (fun e=>h (by simp[e]))]
theorem aU1:∀ {is:List Nat} {os H:aG} {j i:Nat} {o:Option (bZZ)},is.Nodup->is[j]? = some i->os[j]? = some o->i<H.length->(uA is os H)[i]? = some o
 | [],_,_,_,_,_,_,h,_,_=>by simp at h
 | _::_,[],_,_,_,_,_,_,h,_=>by simp at h
 | k::is,q::os,H,0,i,o,hn,h1,h2,hi=>by grind [uA,Vl]
 | k::is,q::os,H,j+1,i,o,hn,h1,h2,hi=>by rw[uA]; exact aU1 (a4F.1 hn).2 (by simpa using h1) (by simpa using h2) (by simpa using hi)
theorem a3D {b:Nat}:∀ {is:List Nat} {os H:aG},is.Nodup->os.length=is.length->(∀ i,i∈is->i<H.length/\i<B.length) ->
 aT w (uA is os H) B b+aT w (is.map (qR H)) (is.map fun i=>B.getD i (0,0,0)) b=aT w H B b+aT w os (is.map fun i=>B.getD i (0,0,0)) b
 | [],[],H,_,_,_=>by rfl
 | [],_::_,_,_,h,_=>by simp at h
 | _::_,[],_,_,h,_=>by simp at h
 | i::is,o::os,H,hn,hl,hb=>by
  obtain ⟨hn1,hn2⟩:=a4F.1 hn;obtain ⟨b1,b2⟩:=hb i (by simp);have ih:=a3D (b:=b) (is:=is) (os:=os) (H:=H.set i o) hn2 (by simpa using hl) fun j hj=>by simpa using hb j (by simp[hj])
  have e1:is.map (qR (H.set i o))=is.map (qR H):=List.map_congr_left fun j hj=>by unfold qR; rw[qY (fun e=>hn1 (by rw[e]; exact hj))]
  rw[e1] at ih;have hB:B[i]? = some (B.getD i (0,0,0)):=by rw[aD',jU b2]; rfl
  have hH:H[i]? = some (qR H i):=by unfold qR; rw[jU b1]
  have e2:=aS4 (w:=w) (b:=b) (o:=o) hH hB;rw[uA,sN,sN,Ic,Ic];omega
theorem bN5 {l:List Nat} (h:nodupB l=true):l.Nodup:=by
 induction l with
 | nil=>simp
 | cons i l ih =>simp only[nodupB,bI,BA] at h;refine a4F.2 ⟨fun hm => ?_,ih h.2⟩;rw[a0R.2 hm] at h; simp_all
theorem a7X {H:aG} {i:Nat}:qR H i=some cs↔H[i]? = some (some cs):=by grind [qR]
end
theorem sQ.sub {P:Program} {cp:CP} (hm:RI cp) {g:FuncId} {ids:List Nat} {H:aG} {big:bZZ} {r:PV} {h':aG}
 (k:sQ P cp g (kL (uY ids) big) ((ids.map (qR H)).map (mM (uY ids))) r h') (hnd:nodupB ids=true) (hlt:∀ i,i∈ids->i<H.length)
 (hbig:PV.o6 (nR ids) big=true) (hcs:∀ i cs,i∈ids->H[i]? = some (some cs)->PV.o6 (nR ids) cs=true):sQ P cp g big H (jr (rQ ids H.length) r) (yD ids H h'):=by
 have hnd:=bN5 hnd;refine ⟨k.1,fun out M B w vals hmem hheap hcnt hnew hv => ?_⟩;have hBH:H.length=B.length:=hheap.1;let Bs:aP:=ids.map fun i=>B.getD i (0,0,0)
 let Hc:aG:=uA ids (ids.map fun _=>none) H
 have hBi:∀ i,i∈ids->B[i]? = some (B.getD i (0,0,0)):=fun i hi=>by rw[aD',jU (by rw[<- hBH]; grind)]; rfl
 have hin:∀ i,i∈ids->i<H.length/\i<B.length:=fun i hi=>⟨hlt i hi,by rw[<- hBH]; grind⟩
 have hpos:∀ i c,nR ids i=true->B[i]? = some c->Bs[uY ids i]? = some c:=fun i c hi hc=>by have hm:=a0R.1 hi;grind [bPV]
 have hnone:∀ (l:List Nat) (C:aP) (w:World) b,aT w (l.map fun _=>(none:Option (bZZ))) C b=0:=by
  intro l;induction l with
  | nil=>grind [aT]
  | cons i l ih=>intro C w b; cases C with
   | nil=>simp[aT]
   | cons c C=>rw[sN,Ic,ih]; simp[o1]
 have hsum:∀ (w:World) (os:aG),os.length=ids.length->∀ b,aT w (uA ids os H) B b=aT w Hc B b+aT w os Bs b:=fun w os hl b=>by have e1:=a3D (w:=w) (b:=b) (is:=ids) (os:=os) hnd hl hin;have e2:=a3D (w:=w) (b:=b) (is:=ids) (os:=ids.map fun _=>none) hnd (by simp) hin;rw[hnone] at e2;grind
 have hs1:∀ b,aT w Hc B b+aT w ((ids.map (qR H)).map (mM (uY ids))) Bs b=aT w H B b:=fun b=>by have e2:=a3D (w:=w) (b:=b) (is:=ids) (os:=ids.map fun _=>none) hnd (by simp) hin;rw[hnone] at e2;rw[VP];omega
 have bIT:qf M Bs w ((ids.map (qR H)).map (mM (uY ids))):=by
  refine ⟨by simp[Bs],fun j cs' hj => ?_⟩;rw[lL,lL] at hj;cases hi:ids[j]? with
  | none=>simp_all
  | some i =>
   have hm:i∈ids:=nZ hi;cases ho:qR H i with
   | none=>grind [mM]
   | some cs =>
    simp[hi,ho,mM] at hj; subst hj;have hHi:=a7X.1 ho;obtain ⟨c,hc,vs,ty,h1,h2,h3,h4,h5⟩:=hheap.2 i cs hHi;refine ⟨c,by grind,vs,ty,h1,h2,by rw[aB']; exact h3,fun l p hp => ?_,h5⟩;rw[aBZ] at hp;cases hq:cs[l]? with
    | none=>simp_all
    | some q =>
     simp[hq] at hp; subst hp;obtain ⟨u,a1,a2,a3,a4⟩:=h4 l q hq;have hd:q.allI (nR ids)=true:=by
      have:=hcs i cs hm hHi;have key:∀ (cs:bZZ) (l:Nat),PV.o6 (nR ids) cs=true->cs[l]? = some q->q.allI (nR ids)=true:=by
       intro cs;induction cs with
       | nil=>simp
       | cons c cs ih =>grind [PV.o6]
      grind
     grind [aC2,aD2]
 refine hm (k.2 (fun b=>out b+aT w Hc B b) M Bs w vals hmem bIT (fun b=>by have:=hs1 b; have:=hcnt b; omega) (fun b hb=>by have:=hs1 b; have:=hnew b hb; omega) (bR4 hpos hbig hv)) fun e w' he => ?_
 obtain ⟨v,M',Eg,rfl,hP⟩:=he;have bXI:Bs.length=ids.length:=by simp[Bs]
 have bIJ:∀ (m:Nat) c,Bs[m]? = some c->Eg[m]? = some c:=hP.le.blk;have hl':h'.length=Eg.length:=hP.heap.1;have hk:ids.length<=Eg.length:=by
  rcases Nat.eq_zero_or_pos ids.length with h0 | h0
  .omega
  .have:Bs[ids.length-1]? = some Bs[ids.length-1]:=jU (by omega);have:=(iO.1 (bIJ _ _ this)).1;omega
 have htake:Eg.take ids.length=Bs:=by apply ND;grind
 let B':aP:=B ++ Eg.drop ids.length
 have hback:∀ m c,(fun _=>true) m=true->Eg[m]? = some c->B'[rQ ids H.length m]? = some c:=fun m c _ hc=>by unfold rQ;grind
 have hlt':∀ b,1<=aT w Hc B b->b<w.heap.size/\aT w ((ids.map (qR H)).map (mM (uY ids))) Bs b=0:=fun b hb=>by have h1:=hs1 b;have h2:=hcnt b;grind
 have hun:∀ b,1<=aT w Hc B b->w'.heap[b]? = w.heap[b]? /\ ∀ o,M' b o=M b o:=fun b hb=>hP.fr.blk b (hlt' b hb).1 (hlt' b hb).2
 have Dy:∀ (i:Nat) cs c,Hc[i]? = some (some cs)->B[i]? = some c->1<=aT w Hc B c.1:=fun i cs c h1 h2=>by have:=kX (w:=w) c.1 h1 h2;grind
 have bIL:∀ b,aT w' Hc B b=aT w Hc B b:=fun b=>Fe b fun i cs c h1 h2=>OB (hun c.1 (Dy i cs c h1 h2)).1
 have hle:dH M M' B B':=⟨hP.le.mem,fun i c hc=>by grind⟩;have hfin:∀ b,aT w' (yD ids H h') B' b=aT w Hc B b+aT w' h' Eg b:=fun b=>by show aT w' (uA ids ((h'.take ids.length).map (mM (rQ ids H.length))) H ++ (h'.drop ids.length).map (mM (rQ ids H.length))) (B ++ Eg.drop ids.length) b=_;rw[aAE (by rw[Lt]; exact hBH),hsum w' _ (by simp; omega),VP,VP,bIL];grind [List.take_append_drop,aAE]
 refine ⟨v,M',B',rfl,hP.mem,hle,hP.fr.mono fun b hb h0=>by have:=hs1 b; omega,⟨?_,fun i cs hi => ?_⟩,aC2 hback (a5B r) hP.rep,aD2 hP.tl,fun b hb => ?_,fun b => ?_,fun b hb => ?_⟩
 .show (uA ids _ H ++ (h'.drop ids.length).map _).length=(B ++ Eg.drop ids.length).length;grind [Lt]
 .have key:∀ (m:Nat) (cs0:bZZ),h'[m]? = some (some cs0)->cs=kL (rQ ids H.length) cs0->i=rQ ids H.length m->∃ c,B'[i]? = some c/\a4U M' B' w' cs c:=fun m cs0 hm e1 e2=>by
   obtain ⟨c,hc,vs,ty,h1,h2,h3,h4,h5⟩:=hP.heap.2 m cs0 hm;refine ⟨c,by rw[e2]; grind,vs,ty,h1,h2,by rw[e1,aB']; exact h3,fun l p hp => ?_,h5⟩;rw[e1,aBZ] at hp;cases hq:cs0[l]? with
   | none=>simp_all
   | some q =>simp[hq] at hp; subst hp;obtain ⟨u,a1,a2,a3,a4⟩:=h4 l q hq;exact ⟨u,a1,aC2 hback (a5B q) a2,aD2 a3,a4⟩
  have hi0:(uA ids ((h'.take ids.length).map (mM (rQ ids H.length))) H ++ (h'.drop ids.length).map (mM (rQ ids H.length)))[i]? = some (some cs):=hi;rcases zy i H.length with hlt1 | hge
  .rw[vW (by rw[Lt]; exact hlt1)] at hi0;by_cases hm:i∈ids
   .obtain ⟨j,hj⟩:=yu.1 hm;have hjl:=(iO.1 hj).1;have ho:((h'.take ids.length).map (mM (rQ ids H.length)))[j]? = some (mM (rQ ids H.length) h'[j]):=by rw[lL,mV,aX hjl,jU (by omega)]; rfl
    rw[aU1 hnd hj ho hlt1] at hi0;injection hi0 with hi0
    cases hx:h'[j] with
    | none=>rw[hx] at hi0; cases hi0
    | some cs0 =>rw[hx] at hi0;grind [mM,rQ]
   .rw[Vl hm] at hi0;obtain ⟨c,hc,vs,ty,h1,h2,h3,h4,h5⟩:=hheap.2 i cs hi0;have aNB:Hc[i]? = some (some cs):=by grind [Vl]
    have hcb:=hun c.1 (Dy i cs c aNB hc);refine ⟨c,hle.blk _ _ hc,vs,ty,by rw[Lm hcb.1,h1],h2,h3,fun j p hj => ?_,fun o=>by rw[hcb.2]; exact h5 o⟩;obtain ⟨u,a1,a2,a3,a4⟩:=h4 j p hj;refine ⟨u,a1,a2.mono hle,a3.kept fun b ho=>hun b ?_,a4⟩;have e1:=kX (w:=w) b aNB hc;have e2:=xU b hj (by rw[qj h1]; grind:(gy w c.1)[j]? = some u);omega
  .rw[Gm (by rw[Lt]; exact hge),Lt,lL,aE1] at hi0;cases hx:h'[ids.length+(i-H.length)]? with
   | none=>simp_all
   | some o =>
    cases o with
    | none=>simp[hx,mM] at hi0
    | some cs0 =>grind [mM,rQ]
 .have h1:=hP.own b hb; rw[a2G,hfin]; have:=hs1 b; omega
 .have h1:=hP.cnt b; rw[a2G,hfin]; omega
 .have h1:=hP.new b hb; rw[a2G,hfin]; omega
theorem Ev.sub {P:Program} {g:FuncId} {ids:List Nat} {H:aG} {big:bZZ} {r:PV} {h':aG}
 (k:Ev P g (kL (uY ids) big) ((ids.map (qR H)).map (mM (uY ids))) r h') (hnd:nodupB ids=true) (hlt:∀ i,i∈ids->i<H.length)
 (hbig:PV.o6 (nR ids) big=true) (hcs:∀ i cs,i∈ids->H[i]? = some (some cs)->PV.o6 (nR ids) cs=true):Ev P g big H (jr (rQ ids H.length) r) (yD ids H h') :=
 sQ.sub (a5N P) k hnd hlt hbig hcs
mutual
def PV.vG:PV->Bool
 | .int _ _=>true
 | .bool _=>true
 | .str _=>true
 | .nilp=>true
 | .raw _=>true
 | .agg cs=>VH cs
 | .tuple cs=>VH cs
 | _=>false
def VH:bZZ->Bool
 | []=>true
 | p::ps=>p.vG&&VH ps
end
mutual
theorem QH {M M':Mem} {B B':aP}:∀ (p:PV) {v:Value},p.vG=true->Rep M B p v->Rep M' B' p v
 | .int _ _,_,_,h=>dw.2 (dw.1 h)
 | .bool _,_,_,h=>kE.2 (kE.1 h)
 | .str _,_,_,h=>iq.2 (iq.1 h)
 | .nilp,_,_,h=>Ip.2 (Ip.1 h)
 | .raw _,_,_,h=>CU.2 (CU.1 h)
 | .agg cs,_,hn,h=>by obtain ⟨vs,hv,hr⟩:=pz.1 h;exact pz.2 ⟨vs,hv,aC3 cs hn hr⟩
 | .tuple cs,_,hn,h=>by obtain ⟨vs,hv,hr⟩:=tq.1 h;exact tq.2 ⟨vs,hv,aC3 cs hn hr⟩
 | .ptr _ _,_,hn,_=>by simp[PV.vG] at hn
 | .dA _ _,_,hn,_=>by simp[PV.vG] at hn
 | .cst _,_,hn,_=>by simp[PV.vG] at hn
 | .sl _ _ _,_,hn,_=>by simp[PV.vG] at hn
 | .slh _ _ _ _,_,hn,_=>by simp[PV.vG] at hn
 | .func _ _ _,_,hn,_=>by simp[PV.vG] at hn
theorem aC3 {M M':Mem} {B B':aP}:∀ (ps:bZZ) {vs:List Value},VH ps=true->ay M B ps vs->ay M' B' ps vs
 | [],_,_,h=>by rw[dW] at h ⊢; exact h
 | p::ps,_,hn,h=>by simp only[VH,bI] at hn;obtain ⟨u,us,rfl,h1,h2⟩:=cO.1 h;exact cO.2 ⟨u,us,rfl,QH p hn.1 h1,aC3 ps hn.2 h2⟩
end
theorem IY {p:PV} (h:p.vG=true):p.own=false:=by cases p<;>first | rfl | (simp[PV.vG] at h)
def uX (p:PV):Bool:=p.one&&p.vG
theorem QE {p:PV} (h:uX p=true):p.isAgg=false/\(∀ ds,p ≠ .tuple ds)/\p.vG=true/\p.size=1:=by unfold uX at h;simp only[bI] at h;obtain ⟨h1,h2⟩:=h;cases p<;>first | (simp[PV.one] at h1; done) | exact ⟨rfl,(fun ds h=>by cases h),h2,rfl⟩
def FQ (h:aG) (p:PV):PV:=match p with
 | .slh i 0 n 1=>(match h[i]? with | some (some cs) => .sl false 1 (cs.take n) | _=>p)
 | .slh i 0 n sz=>(match h[i]? with | some (some cs) => .sl false sz (lT sz cs n) | _=>p)
 | _=>p
def a9M (h:aG) (p:PV):Bool:=match p with
 | .slh i 0 n 1=>(match h[i]? with | some (some cs)=>decide (n<=cs.length)&&cs.all uX | _=>false)
 | .slh i 0 n sz=>(match h[i]? with | some (some cs)=>decide (n*sz<=cs.length)&&decide (0<sz)&&cs.all uX | _=>false)
 | p=>p.flat
def a1O (h:aG):bZZ->bZZ
 | [] => []
 | p::ps=>FQ h p::a1O h ps
def Ux (h:aG):bZZ->Bool
 | []=>true
 | p::ps=>a9M h p&&Ux h ps
section
variable {M:Mem} {B:aP} {w:World} {h:aG}
def PT (h:aG) (B:aP) (b:Nat):Prop:=∃ (i:Nat) (cs:bZZ) (c:Nat×Nat×TypeId),h[i]? = some (some cs)/\(B[i]? = some c/\c.2.2≠0)/\c.1=b/\cs.all uX=true
open Classical in
def Be (M:Mem) (h:aG) (B:aP) (w:World):Mem:=yQ M.m fun b o=>if ∃ (i:Nat) (cs:bZZ) (c:Nat×Nat×TypeId),h[i]? = some (some cs)/\(B[i]? = some c/\c.2.2≠0)/\c.1=b/\cs.all uX=true/\o<cs.length then w.cell? ⟨b,o,none⟩ else M b o
theorem a1P (hh:qf M B w h) {i:Nat} {c:Nat×Nat×TypeId} (hi:h[i]? = some (some cs)) (hc:B[i]? = some c/\c.2.2≠0) (o:Nat):M c.1 o=none:=by obtain ⟨c',hc',_,_,_,_,_,_,h5⟩:=hh.2 i cs hi;rw[hc.1] at hc'; simp_all
theorem a9N (hh:qf M B w h) {i:Nat} {c:Nat×Nat×TypeId} (hi:h[i]? = some (some cs)) (hc:B[i]? = some c/\c.2.2≠0) {o:Nat} {p:PV} (ho:cs[o]? = some p):∃ v,w.cell? ⟨c.1,o,none⟩=some v/\Rep M B p v/\v.oneCell'=true:=by obtain ⟨c',hc',vs,ty,r1,h2,h3,h4,h5⟩:=hh.2 i cs hi;rw[hc.1] at hc'; grind [EU,World.cell?]
open Classical in
theorem Uy (hh:qf M B w h) (b o:Nat):Be M h B w b o=if ∃ (i:Nat) (cs:bZZ) (c:Nat×Nat×TypeId),h[i]? = some (some cs)/\(B[i]? = some c/\c.2.2≠0)/\c.1=b/\cs.all uX=true/\o<cs.length then w.cell? ⟨b,o,none⟩ else M b o:=by
 unfold Be;refine EI (fun b o v e => ?_) b o;split
 .rename_i hx;obtain ⟨i,cs,c,h1,h2,rfl,_⟩:=hx;have:=M.g _ _ _ e;rw[a1P hh h1 h2] at this; cases this
 .exact M.g _ _ _ e
theorem bLB (hh:qf M B w h):dH M (Be M h B w) B B:=⟨fun b o v e=>by rw[Uy hh];grind [a1P],fun _ _ e=>e⟩
theorem bLC (hm:zf M w) (hh:qf M B w h):zf (Be M h B w) w:=fun b o v e=>by
 rw[Uy hh] at e;split at e
 .rename_i hx;obtain ⟨i,cs,c,h1,h2,rfl,_,ho⟩:=hx;obtain ⟨v',q1,_,q3⟩:=a9N hh h1 h2 (jU ho);rw[q1] at e; simp_all
 .exact hm b o v e
theorem bLA (hh:qf M B w h) {p:PV} {v:Value} (hr:Rep M B p v) (hc:a9M h p=true):Rep (Be M h B w) [] (FQ h p) v:=by
 have bXK:p.flat=true->FQ h p=p->Rep (Be M h B w) [] (FQ h p) v:=fun h1 h2=>by rw[h2]; exact Rep.flat [] h1 (hr.mono (bLB hh))
 unfold a9M at hc;split at hc
 .rename_i i n;split at hc
  .rename_i cs hi;simp only[bI,ny] at hc;obtain ⟨hn,hp⟩:=hc;have e:FQ h (.slh i 0 n 1) = .sl false 1 (cs.take n):=by simp only[FQ,hi]
   rw[e];obtain ⟨c,cap,hB,hv,hle,hcap⟩:=tZ.1 hr;have hpl:=fun p hp'=>QE (jF.1 hp p hp')
   refine jR.2 ⟨some ⟨c.1,0,none⟩,cap,by rw[hv,wY,Nat.min_eq_left hn],by rw[wY]; omega,fun e he=>(hpl e (Qu he)).2.2.2,(fun h=>by cases h),fun _=>⟨c.1,0,rfl,zY fun j p hj => ?_⟩⟩;rw[mV] at hj;split at hj
   .have hjl:=(iO.1 hj).1;obtain ⟨a1,a2,a3,a4⟩:=hpl p (nZ hj);obtain ⟨u,q1,q2,_⟩:=a9N hh hi hB hj;rw[zX a1 a2];refine ⟨u,?_,QH p a3 q2⟩;rw[Uy hh,aX ⟨i,cs,c,hi,hB,rfl,hp,by omega⟩,show 0+j*1=j by omega]; exact q1
   .cases hj
  .cases hc
 .rename_i i n sz hne1;split at hc
  .rename_i cs hi;simp only[bI,ny] at hc;obtain ⟨⟨hn,h0⟩,hp⟩:=hc;have e:FQ h (.slh i 0 n sz) = .sl false sz (lT sz cs n):=by grind [FQ]
   rw[e];obtain ⟨c,cap,hB,hv,hle,hcap⟩:=tZ.1 hr;have hpl:=fun p hp'=>QE (jF.1 hp p hp')
   obtain ⟨k1,k2,k3⟩:=YQ h0 hn fun p hp'=>by have:=jF.1 hp p hp';grind [uX]
   refine jR.2 ⟨some ⟨c.1,0,none⟩,cap,by rw[hv,k1],by rw[k1]; exact hle,k2,(fun h=>by omega),fun _=>⟨c.1,0,rfl,k3 _ c.1 fun j p hj hlt => ?_⟩⟩;have hjl:=(iO.1 hj).1;obtain ⟨a1,a2,a3,a4⟩:=hpl p (nZ hj);obtain ⟨u,q1,q2,_⟩:=a9N hh hi hB hj;rw[zX a1 a2];refine ⟨u,?_,QH p a3 q2⟩;rw[Uy hh,aX ⟨i,cs,c,hi,hB,rfl,hp,hjl⟩]; exact q1
  .cases hc
 grind [FQ]
theorem aP' (hh:qf M B w h):∀ {ps:bZZ} {vs:List Value},ay M B ps vs->Ux h ps=true->ay (Be M h B w) [] (a1O h ps) vs
 | [],_,hr,_=>by rw[dW] at hr; subst hr; exact dW.2 rfl
 | p::ps,_,hr,hc=>by obtain ⟨u,us,rfl,h1,h2⟩:=cO.1 hr;simp only[Ux,bI] at hc;exact cO.2 ⟨u,us,rfl,bLA hh h1 hc.1,aP' hh h2 hc.2⟩
end
theorem Ev.bL9 {P:Program} {r:PV} {h:aG} (h0:Ev P g (a1O h args) [] r []) (hr:r.vG=true) (hc:Ux h args=true):Ev P g args h r h:=by
 classical
 refine ⟨h0.1,fun out M B w vals hmem hheap hcnt hnew hv => ?_⟩;have hz:∀ w b,aT w [] [] b=0:=fun w b=>by simp[aT]
 refine (h0.2 (fun b=>out b+aT w h B b) (Be M h B w) [] w vals (bLC hmem hheap) ⟨rfl,fun i cs hi=>by simp at hi⟩ (fun b=>by rw[hz]; have:=hcnt b; omega) (fun b hb=>by rw[hz]; have:=hnew b hb; omega) (aP' hheap hv hc)).mono fun e w' he => ?_
 obtain ⟨v,M1,B1,rfl,hP⟩:=he;have hB1:B1 = []:=lJ (by have:=hP.heap.1; simp_all);subst hB1;have Dy:∀ (i:Nat) cs c,h[i]? = some (some cs)->B[i]? = some c->1<=aT w h B c.1:=fun i cs c h1 h2=>by have:=kX (w:=w) c.1 h1 h2;grind
 have hlt:∀ b,1<=aT w h B b->b<w.heap.size:=fun b hb=>by grind
 have hun:∀ b,b<w.heap.size->w'.heap[b]? = w.heap[b]? /\ ∀ o,M1 b o=Be M h B w b o:=fun b hb=>hP.fr.blk b hb (hz w b)
 obtain ⟨M',hM'⟩:∃ M':Mem,∀ b o,M' b o=if PT h B b then none else M1 b o:=⟨yQ _ _,EI fun b o v e=>by rw[aV (fun ⟨i,cs,c,h1,h2,h3,_⟩=>by subst h3; have:=M.g _ _ _ e; rw[a1P hheap h1 h2] at this; cases this)]; exact hP.le.mem _ _ _ ((Be M h B w).g _ _ _ e)⟩
 have hL:∀ b o,PT h B b->M' b o=none:=fun b o hl=>by rw[hM']; simp_all
 have hN:∀ b o,¬ PT h B b->M' b o=M1 b o:=fun b o hl=>by rw[hM']; simp_all
 have hLn:∀ b o,PT h B b->M b o=none:=fun b o ⟨i,cs,c,h1,h2,h3,_⟩=>by grind [a1P]
 have hNM:∀ b o,¬ PT h B b->Be M h B w b o=M b o:=fun b o hl=>by rw[Uy hheap,aV (fun ⟨i,cs,c,h1,h2,h3,h4,_⟩=>hl ⟨i,cs,c,h1,h2,h3,h4⟩)]
 have heq:∀ b o,b<w.heap.size->M' b o=M b o:=fun b o hb=>by simp_all
 have hle:dH M M' B B:=⟨fun b o v e=>by have:=yx _ _ (hmem b o v e).1;rw[heq b o this]; exact e,fun _ _ h=>h⟩;have hfp:∀ b,aT w' h B b=aT w h B b:=fun b=>Fe b fun i cs c h1 h2=>OB (hun c.1 (hlt _ (Dy i cs c h1 h2))).1
 refine ⟨v,M',B,rfl,fun b o u e => ?_,hle,⟨hP.fr.os,hP.fr.tape,hP.fr.output,hP.fr.size,fun b hb _=>⟨(hun b hb).1,fun o=>heq b o hb⟩⟩,⟨hheap.1,fun i cs hi => ?_⟩,QH r hr hP.rep,fJ (IY hr),fun b _ => ?_,fun b => ?_,fun b hb => ?_⟩
 .by_cases hl:PT h B b;simp_all
  .rw[hN b o hl] at e; exact hP.mem b o u e
 .obtain ⟨c,hc',vs,ty,h1,h2,h3,h4,h5⟩:=hheap.2 i cs hi;have hcl:=hlt _ (Dy i cs c hi hc');refine ⟨c,hc',vs,ty,by rw[Lm (hun c.1 hcl).1,h1],h2,h3,fun j p hj => ?_,fun o=>by rw[heq c.1 o hcl]; exact h5 o⟩;obtain ⟨u,hu,hur,hT,hone⟩:=h4 j p hj;refine ⟨u,hu,hur.mono hle,hT.kept fun b ho => ?_,hone⟩;have e1:=kX (w:=w) b hi hc';have e2:=xU b hj (by rw[qj h1]; grind:(gy w c.1)[j]? = some u);have hbl:=hlt b (by omega);simp_all
 grind [dP,IY]
 grind [dP,IY]
 grind [dP,IY]
theorem Ev.bTL {P:Program} (h0:Ev P g args [] (.sl true 1 es) []) (hpos:0<es.length) (hpl:es.all uX=true):Ev P g args [] (.slh 0 0 es.length 1) [some es]:=by
 refine ⟨h0.1,fun out M B w vals hmem hheap hcnt hnew hv => ?_⟩;have hz:∀ w b,aT w [] B b=0:=fun w b=>by simp[aT]
 refine (h0.2 out M B w vals hmem hheap hcnt hnew hv).mono fun e w' he => ?_
 obtain ⟨v,M1,B1,rfl,hP⟩:=he;have hB1:B1 = []:=lJ (by have:=hP.heap.1; simp_all);have hB0:B = []:=lJ (by have:=hheap.1; simp_all);subst hB1;subst hB0;have hz':∀ w b,aT w [] [] b=0:=fun w b=>by simp[aT]
 obtain ⟨A,cap,hv1,hle,hs,_,hA⟩:=jR.1 hP.rep;obtain ⟨b,off,rfl,hL⟩:=hA (fun e=>by rw[e] at hpos; simp at hpos);obtain ⟨_,_,ht⟩:=hP.tl.s 1 es _ _ _ rfl hv1;obtain ⟨cs,ty,t1,t2,t3,_,t4⟩:=ht _ rfl;simp only at t1 t2 t3 t4;subst t4;have hown:∀ b',bT (.sl true 1 es) v b'=if b=b' then 1 else 0:=fun b'=>by rw[hv1]; rfl
 have hnb:w.heap.size<=b:=by
  rcases zy b w.heap.size with h | h
  .have:=hP.own b h;rw[hz',hz',hown,aX rfl] at this;omega
  .exact h
 have hpl':=fun p hp=>QE (jF.1 hpl p hp)
 have hown0:∀ (vs:List Value) b',dn es vs b'=0:=by
  intro vs b';have:∀ (l:bZZ) (vs:List Value),(∀ p,p∈l->p.own=false)->dn l vs b'=0:=by
   intro l;induction l with
   | nil=>intro vs _; cases vs<;>rfl
   | cons p l ih =>
    intro vs hl;cases vs with
    | nil=>rfl
    | cons u vs=>rw[dn,dP (hl p (by simp)),ih vs fun q hq=>hl q (by simp[hq])]
  grind [IY]
 have hH:∀ b',aT w' [some es] [(b,cs.size,ty+1)] b'=if b=b' then 1 else 0:=fun b'=>by grind [aT]
 obtain ⟨M2,hM2⟩:∃ M2:Mem,∀ b' o,M2 b' o=if b'=b then none else M1 b' o:=⟨yQ _ _,EI fun b' o u e=>by have:=yx _ _ (hmem b' o u (M.g _ _ _ e)).1;simp only at this;rw[aV (by omega)]; exact hP.le.mem _ _ _ (M.g _ _ _ e)⟩
 refine ⟨v,M2,[(b,cs.size,ty+1)],rfl,fun b' o u e => ?_,⟨fun b' o u e => ?_,fun i c e=>by simp at e⟩,⟨hP.fr.os,hP.fr.tape,hP.fr.output,hP.fr.size,fun b' hb' _ => ?_⟩,⟨rfl,fun i cs' hi => ?_⟩,tZ.2 ⟨(b,cs.size,ty+1),cap,⟨rfl,by simp⟩,hv1,hle,by omega⟩,fJ rfl,fun b' hb' => ?_,fun b' => ?_,fun b' hb' => ?_⟩
 .rw[hM2] at e;split at e
  .cases e
  .exact hP.mem b' o u e
 .have:=yx _ _ (hmem b' o u e).1;simp only at this;rw[hM2,aV (by omega)]; exact hP.le.mem b' o u e
 .have h1:=hP.fr.blk b' hb' (hz' w b');grind
 .cases i with
  | succ i=>simp at hi
  | zero =>simp at hi;subst hi;refine ⟨(b,cs.size,ty+1),rfl,cs,ty+1,CW t1,⟨rfl,rfl⟩,by omega,fun j p hj => ?_,fun o=>by rw[hM2,aX rfl]⟩;obtain ⟨a1,a2,a3,a4⟩:=hpl' p (nZ hj);obtain ⟨u,hu,hr⟩:=(zX a1 a2).1 (EF hL hj);have hc:=(hP.mem _ _ _ hu);grind [QH,fJ,IY,World.cell?]
 .rw[hH,hz',aV (by omega),dP rfl]; omega
 .have:=hP.cnt b';rw[hz',hown] at this;rw[hH,dP rfl]; omega
 .have:=hP.new b' hb';rw[hz',hown] at this;rw[hH,dP rfl]; omega
def yV (sz:Nat) (e:PV):Bool:=match e with
 | .agg ds=>Nat.beq ds.length sz&&ds.all uX
 | _=>false
theorem aHZ {sz:Nat}:∀ {es:bZZ},es.all (yV sz)=true->(eu es).length=es.length*sz
 | [],_=>by simp[eu]
 | e::es,h=>by
  simp only[BC,bI] at h;cases e with
  | agg ds =>have:=oJ (by have:=h.1; simp only[yV,bI] at this; exact this.1);rw[eu,aU,aHZ h.2,bF,this,bM,JP]; omega
  | _=>simp[yV] at h
theorem a6K {sz:Nat}:∀ {es:bZZ},es.all (yV sz)=true->(eu es).all uX=true
 | [],_=>rfl
 | e::es,h=>by
  simp only[BC,bI] at h;cases e with
  | agg ds =>
   have h1:=h.1;simp only[yV,bI] at h1;rw[eu,List.all_append,a6K h.2,Bool.and_true,List.all_map];refine jF.2 fun p hp => ?_
   have:=jF.1 h1.2 p hp;obtain ⟨a1,a2,a3,a4⟩:=QE this;show uX p.un=true;cases p<;>first | exact this | (simp[PV.vG] at a3; done)
  | _=>simp[yV] at h
theorem aQD {M:Mem} {B:aP} {sz b:Nat}:∀ {es:bZZ} {o:Nat},kP M B sz es b o->es.all (yV sz)=true->∀ {q:Nat} {p:PV},(eu es)[q]? = some p->∃ u,M b (o+q)=some u/\Rep M B p u
 | [],_,_,_,q,p,h=>by simp_all
 | e::es,o,hl,ha,q,p,h=>by
  simp only[BC,bI] at ha;obtain ⟨h1,h2⟩:=Pg.1 hl;cases e with
  | agg ds =>
   have hp:=ha.1;simp only[yV,bI] at hp;have hd:=oJ hp.1;rw[eu] at h;rcases zy q ds.length with hq | hq
   .rw[vW (by simpa using hq),lL] at h;cases hx:ds[q]? with
    | none=>simp[hx] at h
    | some x =>
     rw[hx] at h; injection h with h; subst h
     obtain ⟨u,hu,hr⟩:=OC (yO.1 h1) hx;exact ⟨u,hu,ou.2 hr⟩
   .rw[Gm (by simpa using hq)] at h;simp only[bF] at h;obtain ⟨u,hu,hr⟩:=aQD h2 ha.2 h;exact ⟨u,by rw[<- hu]; congr 1; omega,hr⟩
  | _=>have:=ha.1; simp[yV] at this
theorem Ev.bTN {P:Program} {sz:Nat} (h0:Ev P g args [] (.sl true sz es) []) (hpos:0<es.length) (hpl:es.all (yV sz)=true):Ev P g args [] (.slh 0 0 es.length sz) [some (eu es)]:=by
 refine ⟨h0.1,fun out M B w vals hmem hheap hcnt hnew hv => ?_⟩;have hz:∀ w b,aT w [] B b=0:=fun w b=>by simp[aT]
 refine (h0.2 out M B w vals hmem hheap hcnt hnew hv).mono fun e w' he => ?_
 obtain ⟨v,M1,B1,rfl,hP⟩:=he;have hB1:B1 = []:=lJ (by have:=hP.heap.1; simp_all);have hB0:B = []:=lJ (by have:=hheap.1; simp_all);subst hB1;subst hB0;have hz':∀ w b,aT w [] [] b=0:=fun w b=>by simp[aT]
 obtain ⟨A,cap,hv1,hle,hs,_,hA⟩:=jR.1 hP.rep;obtain ⟨b,off,rfl,hL⟩:=hA (fun e=>by rw[e] at hpos; simp at hpos);obtain ⟨_,_,ht⟩:=hP.tl.s sz es _ _ _ rfl hv1;obtain ⟨cs,ty,t1,t2,t3,_,t4⟩:=ht _ rfl;simp only at t1 t2 t3 t4;subst t4;have hown:∀ b',bT (.sl true sz es) v b'=if b=b' then 1 else 0:=fun b'=>by rw[hv1]; rfl
 have hnb:w.heap.size<=b:=by
  rcases zy b w.heap.size with h | h
  .have:=hP.own b h;rw[hz',hz',hown,aX rfl] at this;omega
  .exact h
 have hfl:=aHZ hpl;have hpl':=fun p hp=>QE (jF.1 (a6K hpl) p hp)
 have hown0:∀ (vs:List Value) b',dn (eu es) vs b'=0:=by
  intro vs b';have:∀ (l:bZZ) (vs:List Value),(∀ p,p∈l->p.own=false)->dn l vs b'=0:=by
   intro l;induction l with
   | nil=>intro vs _; cases vs<;>rfl
   | cons p l ih =>
    intro vs hl;cases vs with
    | nil=>rfl
    | cons u vs=>rw[dn,dP (hl p (by simp)),ih vs fun q hq=>hl q (by simp[hq])]
  grind [IY]
 have hH:∀ b',aT w' [some (eu es)] [(b,cs.size,ty+1)] b'=if b=b' then 1 else 0:=fun b'=>by grind [aT]
 have hcap:es.length*sz<=cs.size:=ng (vY _ hle) (by omega);obtain ⟨M2,hM2⟩:∃ M2:Mem,∀ b' o,M2 b' o=if b'=b then none else M1 b' o:=⟨yQ _ _,EI fun b' o u e=>by have:=yx _ _ (hmem b' o u (M.g _ _ _ e)).1;simp only at this;rw[aV (by omega)]; exact hP.le.mem _ _ _ (M.g _ _ _ e)⟩
 refine ⟨v,M2,[(b,cs.size,ty+1)],rfl,fun b' o u e => ?_,⟨fun b' o u e => ?_,fun i c e=>by simp at e⟩,⟨hP.fr.os,hP.fr.tape,hP.fr.output,hP.fr.size,fun b' hb' _ => ?_⟩,⟨rfl,fun i cs' hi => ?_⟩,tZ.2 ⟨(b,cs.size,ty+1),cap,⟨rfl,by simp⟩,hv1,hle,by omega⟩,fJ rfl,fun b' hb' => ?_,fun b' => ?_,fun b' hb' => ?_⟩
 .rw[hM2] at e;split at e
  .cases e
  .exact hP.mem b' o u e
 .have:=yx _ _ (hmem b' o u e).1;simp only at this;rw[hM2,aV (by omega)]; exact hP.le.mem b' o u e
 .have h1:=hP.fr.blk b' hb' (hz' w b');grind
 .cases i with
  | succ i=>simp at hi
  | zero =>simp at hi;subst hi;refine ⟨(b,cs.size,ty+1),rfl,cs,ty+1,CW t1,⟨rfl,rfl⟩,by rw[hfl]; exact hcap,fun j p hj => ?_,fun o=>by rw[hM2,aX rfl]⟩;obtain ⟨a1,a2,a3,a4⟩:=hpl' p (nZ hj);obtain ⟨u,hu,hr⟩:=aQD hL hpl hj;rw[qK] at hu;have hc:=(hP.mem _ _ _ hu);grind [QH,fJ,IY,World.cell?]
 .rw[hH,hz',aV (by omega),dP rfl]; omega
 .have:=hP.cnt b';rw[hz',hown] at this;rw[hH,dP rfl]; omega
 .have:=hP.new b' hb';rw[hz',hown] at this;rw[hH,dP rfl]; omega
theorem bQT (f:Nat->Nat):∀ {p:PV},uX p=true->jr f p=p:=fun {p} h=>by obtain ⟨h1,h2,h3,_⟩:=QE h;cases p<;>first | rfl | (simp[PV.vG] at h3; done) | simp_all | simp_all
theorem aC0 (f:Nat->Nat):∀ {ps:bZZ},ps.all uX=true->kL f ps=ps
 | [],_=>rfl
 | p::ps,h=>by simp only[BC,bI] at h;rw[kL,bQT f h.1,aC0 f h.2]
mutual
theorem aSU (f:Nat->Nat):∀ p:PV,p.flat=true->jr f p=p
 | .func _ a c,h=>by simp only[PV.flat,bI] at h; simp only[jr,Lc f a h.1,Lc f c h.2]
 | .agg cs,h=>by simp only[PV.flat] at h; simp only[jr,Lc f cs h]
 | .tuple cs,h=>by simp only[PV.flat] at h; simp only[jr,Lc f cs h]
 | .ptr _ _,h=>by simp[PV.flat] at h
 | .dA _ _,h=>by simp[PV.flat] at h
 | .slh _ _ _ _,h=>by simp[PV.flat] at h
 | .int _ _,_=>rfl
 | .bool _,_=>rfl
 | .str _,_=>rfl
 | .nilp,_=>rfl
 | .raw _,_=>rfl
 | .cst _,_=>rfl
 | .sl _ _ _,_=>rfl
 | .dC _,_=>rfl
 | .gX _ _ _ _,_=>rfl
 | .mp _,_=>rfl
theorem Lc (f:Nat->Nat):∀ ps:bZZ,PV.flats ps=true->kL f ps=ps
 | [],_=>rfl
 | p::ps,h=>by simp only[PV.flats,bI] at h;rw[kL,aSU f p h.1,Lc f ps h.2]
end
mutual
theorem aFN {D:Nat->Bool}:∀ p:PV,p.flat=true->p.allI D=true
 | .func _ a c,h=>by simp only[PV.flat,bI] at h; simp only[PV.allI,Jc a h.1,Jc c h.2,JG]
 | .agg cs,h=>by simp only[PV.flat] at h; simp only[PV.allI,Jc cs h]
 | .tuple cs,h=>by simp only[PV.flat] at h; simp only[PV.allI,Jc cs h]
 | .ptr _ _,h=>by simp[PV.flat] at h
 | .dA _ _,h=>by simp[PV.flat] at h
 | .slh _ _ _ _,h=>by simp[PV.flat] at h
 | .int _ _,_=>rfl
 | .bool _,_=>rfl
 | .str _,_=>rfl
 | .nilp,_=>rfl
 | .raw _,_=>rfl
 | .cst _,_=>rfl
 | .sl _ _ _,_=>rfl
 | .dC _,_=>rfl
 | .gX _ _ _ _,_=>rfl
 | .mp _,_=>rfl
theorem Jc {D:Nat->Bool}:∀ ps:bZZ,PV.flats ps=true->PV.o6 D ps=true
 | [],_=>rfl
 | p::ps,h=>by simp only[PV.flats,bI] at h;simp only[PV.o6,aFN p h.1,Jc ps h.2,JG]
end
theorem Ev.thaw {P:Program} {H:aG} (h0:Ev P g args [] (.sl true 1 es) []) (ha:PV.flats args=true) (hpos:0<es.length) (hpl:es.all uX=true):Ev P g args H (.slh H.length 0 es.length 1) (H ++ [some es]):=by
 have h1:=Ev.bTL h0 hpos hpl;have e1:kL (uY []) args=args:=Lc _ _ ha;have h2:=Ev.sub (ids := []) (H:=H) (big:=args) (r := .slh 0 0 es.length 1) (h' := [some es]) (by rw[e1]; exact h1) rfl (fun i hi=>by simp at hi) (by
  have:∀ ps:bZZ,PV.flats ps=true->PV.o6 (nR []) ps=true:=fun ps h=>Jc ps h
  simp_all) (fun i cs hi=>by simp at hi)
 grind [yD,mM,uA,aC0,jr,rQ]
theorem Ev.bTM {P:Program} {sz:Nat} {H:aG} (h0:Ev P g args [] (.sl true sz es) []) (ha:PV.flats args=true) (hpos:0<es.length) (hpl:es.all (yV sz)=true):Ev P g args H (.slh H.length 0 es.length sz) (H ++ [some (eu es)]):=by
 have h1:=Ev.bTN h0 hpos hpl;have e1:kL (uY []) args=args:=Lc _ _ ha;have h2:=Ev.sub (ids := []) (H:=H) (big:=args) (r := .slh 0 0 es.length sz) (h' := [some (eu es)]) (by rw[e1]; exact h1) rfl (fun i hi=>by simp at hi) (by
  have:∀ ps:bZZ,PV.flats ps=true->PV.o6 (nR []) ps=true:=fun ps h=>Jc ps h
  simp_all) (fun i cs hi=>by simp at hi)
 grind [yD,mM,uA,aC0,a6K,jr,rQ]
end Go.Proofs.YtilpiopkekkbiaaGreatDoor
end

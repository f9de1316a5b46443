/- A part of the proof. -/
import Derived.Test.YtcdceiloganlnaaGreatDoorPl1
import Derived.LoopN
import Derived.Defers
import Derived.Scope
import Derived.Orders
import Derived.IntWalk
set_option linter.unusedVariables false
set_option linter.unusedSimpArgs false
set_option linter.unnecessarySimpa false
set_option linter.unusedSectionVars false
noncomputable section
open Go.IntKind (i64)
namespace Go.Proofs.YtcdceiloganlnaaGreatDoor
open Go.RowKit
mutual
def PV.blw (m:Nat):PV->Bool
 | .ptr i _=>decide (i<m)
 | .cZ _ i=>decide (i<m)
 | .slh i _ _ _=>decide (i<m)
 | .func _ f c=>PV.blws m f&&PV.blws m c
 | .agg cs=>PV.blws m cs
 | .tuple cs=>PV.blws m cs
 | _=>true
def PV.blws (m:Nat):bSH->Bool
 | []=>true
 | p::ps=>p.blw m&&PV.blws m ps
end
section
variable {M:Mem} {B:aV}
mutual
theorem aPK (m:Nat):∀ p:PV,p.blw m=true->aZ M B p=aZ M (B.take m) p
 | .int _ _,_=>by simp only[aZ]
 | .bool _,_=>by simp only[aZ]
 | .str _,_=>by simp only[aZ]
 | .nilp,_=>by simp only[aZ]
 | .raw _,_=>by simp only[aZ]
 | .ptr i _,h=>by
  have:(B.take m)[i]? = B[i]? := by rw[iO,aJ (by simpa[PV.blw] using h)]
  simp only[aZ,this]
 | .cZ _ i,h=>by
  have:(B.take m)[i]? = B[i]? := by rw[iO,aJ (by simpa[PV.blw] using h)]
  simp only[aZ,this]
 | .slh i _ _ _,h=>by
  have:(B.take m)[i]? = B[i]? := by rw[iO,aJ (by simpa[PV.blw] using h)]
  simp only[aZ,this]
 | .cst e,_=>by simp only[aZ]
 | .dB _,_=>by simp only[aZ]
 | .fJ _ _ _ _,_=>by simp only[aZ]
 | .mp _,_=>by simp only[aZ]
 | .sl _ _ es,_=>by simp only[aZ]
 | .func _ f c,h=>by simp only[PV.blw,au] at h;simp only[aZ,PK m f h.1,PK m c h.2]
 | .agg cs,h=>by simp only[aZ,PK m cs (by simpa[PV.blw] using h)]
 | .tuple cs,h=>by simp only[aZ,PK m cs (by simpa[PV.blw] using h)]
theorem PK (m:Nat):∀ ps:bSH,PV.blws m ps=true->gq M B ps=gq M (B.take m) ps
 | [],_=>by simp only[gq]
 | p::ps,h=>by simp only[PV.blws,au] at h;simp only[gq,aPK m p h.1,PK m ps h.2]
end
theorem Rep.blw {m:Nat} {p:PV} {v:Value} (hf:p.blw m=true) (h:Rep M B p v):Rep M (B.take m) p v:=by unfold Rep at *; rwa [<- aPK (B:=B) m p hf]
theorem bC.blw {m:Nat} {ps:bSH} {vs:List Value} (hf:PV.blws m ps=true) (h:bC M B ps vs):bC M (B.take m) ps vs:=by unfold bC at *; rwa [<- PK (B:=B) m ps hf]
theorem WN {m:Nat}:∀ {ps:bSH},PV.blws m ps=true↔∀ p,p∈ps->p.blw m=true
 | []=>by simp[PV.blws]
 | p::ps=>by simp[PV.blws,WN (ps:=ps)]
mutual
theorem aEP (m:Nat):∀ p:PV,p.flat=true->p.blw m=true
 | .int _ _,_=>rfl
 | .bool _,_=>rfl
 | .str _,_=>rfl
 | .nilp,_=>rfl
 | .raw _,_=>rfl
 | .ptr i _,h=>by simp[PV.flat] at h
 | .cZ _ i,h=>by simp[PV.flat] at h
 | .slh i _ _ _,h=>by simp[PV.flat] at h
 | .cst e,_=>by simp only[PV.blw]
 | .dB _,_=>by simp only[PV.blw]
 | .fJ _ _ _ _,_=>by simp only[PV.blw]
 | .mp _,_=>by simp only[PV.blw]
 | .sl _ _ es,_=>by simp only[PV.blw]
 | .func _ f c,h=>by simp only[PV.flat,au] at h;simp only[PV.blw,Rk m f h.1,Rk m c h.2,yw]
 | .agg cs,h=>by simp only[PV.blw]; exact Rk m cs (by simpa[PV.flat] using h)
 | .tuple cs,h=>by simp only[PV.blw]; exact Rk m cs (by simpa[PV.flat] using h)
theorem Rk (m:Nat):∀ ps:bSH,PV.flats ps=true->PV.blws m ps=true
 | [],_=>rfl
 | p::ps,h=>by simp only[PV.flats,au] at h;simp only[PV.blws,aEP m p h.1,Rk m ps h.2,yw]
end
end
def AP (m:Nat) (h:aI):Bool:=h.all fun o=>match o with | some cs=>PV.blws m cs | none=>true
def zX (M:Mem) (w:World):Prop:=∀ (b o:Nat) (v:Value),M b o=some v->w.cell? ⟨b,o,none⟩=some v/\v.oneCell'=true
structure Post (h:aI) (B:aV) (out:Nat->Nat) (M:Mem) (w:World) (r:PV) (h':aI) (v:Value) (M':Mem) (B':aV) (w':World):Prop where
 mem:zX M' w'
 le:dJ M M' B B'
 fr:Fr (aU w h B) M w M' w'
 heap:qO M' B' w' h'
 rep:Rep M' B' r v
 tl:Tl M' w' r v
 own:∀ b,b<w.heap.size->aU w' h' B' b+bI r v b<=aU w h B b
 cnt:∀ b,aU w' h' B' b+bI r v b+out b<=1
 new:∀ b,w'.heap.size<=b->aU w' h' B' b+bI r v b+out b=0
def callable (P:Program) (g:FuncId):Bool:=match P.funcs[g]? with | some fn=>fn.name != "runtime.NumGoroutine" && fn.body.isSome | none=>false
abbrev CP:=FuncId->Array Value->World->(Ending->World->Prop)->Prop
def sG (P:Program) (cp:CP) (g:FuncId) (args:bSH) (h:aI) (r:PV) (h':aI):Prop :=
 callable P g=true/\∀ (out:Nat->Nat) (M:Mem) (B:aV) (w:World) (vals:Array Value),zX M w->qO M B w h->(∀ b,aU w h B b+out b<=1)->(∀ b,w.heap.size<=b->aU w h B b+out b=0) ->
  bC M B args vals.toList->cp g vals w fun e w'=>∃ v M' B',e = .returned v/\Post h B out M w r h' v M' B' w'
def Ev (P:Program) (g:FuncId) (args:bSH) (h:aI) (r:PV) (h':aI):Prop:=sG P (Calls P) g args h r h'
def QT (cp:CP):Prop:=∀ ⦃g:FuncId⦄ ⦃vals:Array Value⦄ ⦃w:World⦄ ⦃R R':Ending->World->Prop⦄,cp g vals w R->(∀ e w',R e w'->R' e w')->cp g vals w R'
theorem a1C (P:Program):QT (Calls P):=fun _ _ _ _ _ h k=>h.mono k
def CD (P:Program):CP:=fun g vals w R=>CallsD P g vals .returning w fun e u' w'=>u' = .returning/\R e w'
theorem aD7 (P:Program):QT (CD P):=fun _ _ _ _ _ h k=>CallsD.mono h fun _ _ _ hh=>⟨hh.1,k _ _ hh.2⟩
theorem Ev.frame' {P:Program} {g:FuncId} {args:bSH} {r:PV} (h:Ev P g args [] r []) (hr:r.flat=true) (ha:PV.flats args=true) (hh:aI):Ev P g args hh r hh:=by
 refine ⟨h.1,fun out M B w vals hmem hheap hcnt hnew hv => ?_⟩;have h0:∀ w b,aU w [] [] b=0:=fun w b=>by simp[aU]
 refine (h.2 (fun b=>out b+aU w hh B b) M [] w vals hmem ⟨rfl,fun i cs hi=>by simp at hi⟩ (fun b=>by rw[h0]; have:=hcnt b; omega) (fun b hb=>by rw[h0]; have:=hnew b hb; omega) (bC.flat [] ha hv)).mono fun e w' he => ?_
 obtain ⟨v,M',B',rfl,hP⟩:=he;have hB':B' = []:=qK (by have:=hP.heap.1; simpa using this.symm);subst hB';have hun:∀ b,b<w.heap.size->w'.heap[b]? = w.heap[b]? /\ ∀ o,M' b o=M b o:=fun b hb=>hP.fr.blk b hb (h0 w b)
 have hlt:∀ b,1<=aU w hh B b->b<w.heap.size:=fun b hb=>by
  rcases lq b w.heap.size with h' | h'
  .exact h'
  .have:=hnew b h'; omega
 have Bh:∀ (i:Nat) cs c,hh[i]? = some (some cs)->B[i]? = some c->1<=aU w hh B c.1:=fun i cs c h1 h2=>by have:=kU (w:=w) c.1 h1 h2;simp only[gV] at this;omega
 have hle:dJ M M' B B:=⟨hP.le.mem,fun _ _ h=>h⟩;have hfp:∀ b,aU w' hh B b=aU w hh B b:=fun b=>FW b fun i cs c h1 h2=>NC (hun c.1 (hlt _ (Bh i cs c h1 h2))).1
 refine ⟨v,M',B,rfl,hP.mem,hle,hP.fr.mono fun b hb _=>h0 w b,⟨hheap.1,fun i cs hi => ?_⟩,hP.rep.flat B hr,hP.tl,fun b hb => ?_,fun b => ?_,fun b hb => ?_⟩
 .obtain ⟨c,hc,vs,ty,h1,h2,h3,h4,h5⟩:=hheap.2 i cs hi;have hcb:=hun c.1 (hlt _ (Bh i cs c hi hc));refine ⟨c,hc,vs,ty,by rw[L6 hcb.1,h1],h2,h3,fun j p hj => ?_,fun o=>by rw[hcb.2]; exact h5 o⟩;obtain ⟨v,hv,hr,hT,hone⟩:=h4 j p hj;refine ⟨v,hv,hr.mono hle,hT.kept fun b ho=>hun b (hlt b ?_),hone⟩;have e1:=kU (w:=w) b hi hc;have e2:=xh b hj (by rw[oW h1]; simpa using hv:(gZ w c.1)[j]? = some v);omega
 .have:=hP.own b hb; rw[h0,h0] at this; rw[hfp]; omega
 .have:=hP.cnt b; rw[h0] at this; rw[hfp]; omega
 .have:=hP.new b hb; rw[h0] at this; rw[hfp]; omega
def AZ (ops:Array Oper) (Z:ASt) (j:Nat):Option (Option Bool) :=
 match (ops[j]?).bind (·.dst) with
 | none=>some none
 | some d=>match bU d Z.s with
  | some (.bool b)=>some (some b)
  | some (.tuple [])=>some none
  | _=>none
def ig (E:AE) (dst:Option Nat) (p:PV) (Z:ASt) (K:ASt->Prop):Prop:=match ASt.put E dst p Z with | some Z'=>K Z' | none=>False
def yX (E:AE) (o:Oper) (K:ASt->Prop) (Z:ASt):Prop :=
 match bY E o Z with
 | some (p,Z1)=>jQ E o Z/\ig E o.dst p Z1 K
 | none=>False
def a6I (E:AE) (o:Oper) (Z:ASt):Option (bSH×Bool):=match o.op with
 | .binOp op t x (.const (.slice none 0 0)) _=>(match E.P.underlying t,Z.rd x,op with
  | some (.slice _),some (.sl _ _ es),.eql=>some (es,true)
  | some (.slice _),some (.sl _ _ es),.neq=>some (es,false)
  | _,_,_=>none)
 | _=>none
def UA (E:AE) (o:Oper) (K:ASt->Prop) (Z:ASt):Prop:=match a6I E o Z with
 | some (es,pos)=>∀ b:Bool,(b=true->es = [])->ig E o.dst (.bool (b==pos)) Z K
 | none=>False
def PT (E:AE) (o:Oper) (K:ASt->Prop) (Z:ASt):Prop:=yX E o K Z\/UA E o K Z
def N8 (E:AE) (g:FuncId) (args:bSH) (dst:Option Nat) (K:ASt->Prop) (Z:ASt):Prop:=∃ r h',Ev E.P g args Z.h r h'/\ig E dst r { Z with h:=h' } K
def xI (E:AE) (o:Oper) (K:ASt->Prop) (Z:ASt):Prop :=
 match o.op with
 | .call c=>match c.callee with
  | .value f=>(match Z.rd f,jL (c.args.toList.map Z.rd) with
   | some (.func (.func g) first caps),some az=>N8 E g (first ++ az ++ caps) o.dst K Z
   | _,_=>False)
  | _=>PT E o K Z
 | _=>PT E o K Z
def lG (E:AE) (ops:Array Oper):List Oper->(ASt->Prop)->ASt->Prop
 | [],Q,Z=>Q Z
 | o::l,Q,Z =>
  match o.guard with
  | none=>xI E o (lG E ops l Q) Z
  | some (j,want)=>match AZ ops Z j with
   | some none=>ig E o.dst (.tuple []) Z (lG E ops l Q)
   | some (some b)=>(b=want->xI E o (lG E ops l Q) Z)/\(b≠want->ig E o.dst (.tuple []) Z (lG E ops l Q))
   | none=>False
section
variable {out:Nat->Nat} {M:Mem} {B:aV} {Z:ASt} {a:Act} {w:World} {E:AE} {o:Oper}
theorem aQ9 (hI:Inv E.n M B out Z a.tmps w) {K:ASt->Prop} (h:yX E o K Z) {K':Act->World->Prop} {Q:Exit->Act->World->Prop}
 (hK:∀ v Z' M' B' w',K Z'->Good E.n out M B Z a.tmps w M' B' Z' (a.put o.dst v).tmps w'->K' (a.put o.dst v) w'):o.wp E.P a w K' Q:=by
 unfold yX at h;split at h
 .rename_i p Z1 hs;obtain ⟨hside,hp⟩:=h;unfold ig at hp;split at hp
  .rename_i Z' hput;obtain ⟨v,w',M',B',h1,h2⟩:=bMC hI hs hside;have hG:=h2.put hput;unfold Oper.wp;rcases h1 with h1 | ⟨h1,hd⟩
   .rw[h1,a0F]; exact hK v Z' M' B' w' hp hG
   .rw[h1,Oper.upon_skip];have:a.put o.dst undef=a.put o.dst v:=by rw[hd]; rfl
    rw[this]; exact hK v Z' M' B' w' hp hG
  .exact hp.elim
 .exact h.elim
theorem bH9 (hI:Inv E.n M B out Z a.tmps w) {K:ASt->Prop} (h:UA E o K Z) {K':Act->World->Prop} {Q:Exit->Act->World->Prop}
 (hK:∀ v Z' M' B' w',K Z'->Good E.n out M B Z a.tmps w M' B' Z' (a.put o.dst v).tmps w'->K' (a.put o.dst v) w'):o.wp E.P a w K' Q:=by
 obtain ⟨dst,op,type,pos,after,guard⟩:=o;unfold UA at h;split at h
 case h_2=>exact h.elim
 rename_i es ps hc;unfold a6I at hc;simp only at hc;split at hc
 case h_2=>cases hc
 rename_i WP t x yt;have key:∀ e,E.P.underlying t=some (.slice e)->∀ ow z,Z.rd x=some (.sl ow z es)->∃ b:Bool,(b=true->es = [])/\(Op.equal t (a.eval x) (.slice none 0 0)).run E.P w = .ok b w/\∃ A n c,a.eval x = .slice A n c:=by
  intro e hu ow z hx;obtain ⟨A,cap,hv,hle,hs,hz,hA⟩:=jW.1 (hI.rd x _ hx).1;refine ⟨A.isNone,fun hn => ?_,?_,A,_,cap,hv⟩
  .apply Classical.byContradiction;intro hne;obtain ⟨b,off,rfl,_⟩:=hA hne;cases hn
  .rw[hv];refine JO fun d => ?_
   rw[Op.equalIn,kX,ed hu w];cases A<;>rfl
 have fin:∀ (r:Bool),(execOp a.eval ⟨dst,.binOp WP t x (.const (.slice none 0 0)) yt,type,pos,after,guard⟩).run E.P w = .ok (.value (.bool r)) w->ig E dst (.bool r) Z K->Oper.wp E.P ⟨dst,.binOp WP t x (.const (.slice none 0 0)) yt,type,pos,after,guard⟩ a w K' Q:=by
  intro r hr hp;unfold ig at hp;split at hp
  .rename_i Z' hput;have hG:=(Pre.plain (v := .bool r) hI (jo.2 rfl) (fun b=>dO rfl _ _) (fG rfl)).put hput;unfold Oper.wp;rw[hr,a0F];exact hK (.bool r) Z' M B w hp hG
  .exact hp.elim
 split at hc
 .rename_i e ow z es' hu hx;cases hc;obtain ⟨b,hb,he,A,n,c,hv⟩:=key e hu ow z hx;refine fin b ?_ (by have:=h b hb; simpa using this);refine wJ (s:=do eqGuard .eql t x (.const (.slice none 0 0)) (a.eval x) (.slice none 0 0); binOp .eql t (a.eval x) (.slice none 0 0)) rfl ?_;rw[kX,hv,Dp ⟨by simp,by simp⟩ w];rw[hv] at he;show (binOp .eql t (.slice A n c) (.slice none 0 0)).run E.P w=_;have:binOp .eql t (.slice A n c) (.slice none 0 0)=(do pure (.bool (<- Op.equal t (.slice A n c) (.slice none 0 0)))):=rfl;rw[this]; simp[he]
 .rename_i e ow z es' hu hx;cases hc;obtain ⟨b,hb,he,A,n,c,hv⟩:=key e hu ow z hx;refine fin (!b) ?_ (by have:=h b hb; simpa using this);refine wJ (s:=do eqGuard .neq t x (.const (.slice none 0 0)) (a.eval x) (.slice none 0 0); binOp .neq t (a.eval x) (.slice none 0 0)) rfl ?_;rw[kX,hv,Dp ⟨by simp,by simp⟩ w];rw[hv] at he;show (binOp .neq t (.slice A n c) (.slice none 0 0)).run E.P w=_;have:binOp .neq t (.slice A n c) (.slice none 0 0)=(do pure (.bool (!(<- Op.equal t (.slice A n c) (.slice none 0 0))))):=rfl;rw[this]; simp[he]
 .cases hc
theorem aQB (hI:Inv E.n M B out Z a.tmps w) {K:ASt->Prop} (h:PT E o K Z) {K':Act->World->Prop} {Q:Exit->Act->World->Prop}
 (hK:∀ v Z' M' B' w',K Z'->Good E.n out M B Z a.tmps w M' B' Z' (a.put o.dst v).tmps w'->K' (a.put o.dst v) w'):o.wp E.P a w K' Q:=by
 rcases h with h | h
 .exact aQ9 hI h hK
 .exact bH9 hI h hK
theorem aD0 {cp:CP} (hm:QT cp) (hI:Inv E.n M B out Z a.tmps w) {g:FuncId} {args:bSH} {vals:Array Value} (hv:bC M B args vals.toList) {r:PV} {h':aI} (hE:sG E.P cp g args Z.h r h') {dst:Option Nat} {Z':ASt} (hp:ASt.put E dst r { Z with h:=h' }=some Z')
 {R:Ending->World->Prop} (hK:∀ v M' B' w',Good E.n out M B Z a.tmps w M' B' Z' (a.put dst v).tmps w'->R (.returned v) w'):cp g vals w R:=by
 obtain ⟨_,hE⟩:=hE;have hc:=hE (fun b=>out b+iD Z.s a.tmps b) M B w vals hI.mem hI.heap (fun b=>by have:=hI.cnt b; simp only[fp] at this; omega) (fun b hb=>by have:=hI.new b hb; simp only[fp] at this; omega) hv;refine hm hc fun e w' he => ?_
 obtain ⟨v,M',B',rfl,hP⟩:=he;refine hK v M' B' w' ?_;have hpre:Pre E.n out M B Z a.tmps w M' B' { Z with h:=h' } w' r v:=by
  refine ⟨⟨hI.size,hP.mem,hI.gu,fun k p hk => ?_,hP.heap,fun b => ?_,fun b hb => ?_⟩,hP.le,?_,fun b hb => ?_,hP.rep,hP.tl,fun b => ?_,fun b hb => ?_⟩
  .obtain ⟨s1,s2,s3⟩:=hI.slots k p hk;refine ⟨s1,s2.mono hP.le,s3.kept fun b hb => ?_⟩;have e1:=EN (s:=Z.s) (t:=a.tmps) (k:=k) (b:=b);simp only[mM,hk] at e1;have e2:=hI.cnt b;simp only[fp] at e2;exact hP.fr.blk b (Ov hI (by simp only[fp]; omega)) (by omega)
  .have:=hP.cnt b; simp only[fp]; omega
  .have:=hP.new b hb; simp only[fp]; omega
  .exact hP.fr.mono fun b hb h0=>by simp only[fp] at h0; omega
  .have:=hP.own b hb; simp only[fp]; omega
  .have:=hP.cnt b; simp only[fp]; omega
  .have:=hP.new b hb; omega
 exact hpre.put hp
theorem aU6 (hI:Inv E.n M B out Z a.tmps w) {g:FuncId} {args:bSH} {vals:Array Value} (hv:bC M B args vals.toList) {r:PV} {h':aI} (hE:Ev E.P g args Z.h r h') {dst:Option Nat} {Z':ASt} (hp:ASt.put E dst r { Z with h:=h' }=some Z')
 {R:Ending->World->Prop} (hK:∀ v M' B' w',Good E.n out M B Z a.tmps w M' B' Z' (a.put dst v).tmps w'->R (.returned v) w'):Calls E.P g vals w R:=aD0 (a1C E.P) hI hv hE hp hK
theorem WG (hI:Inv E.n M B out Z a.tmps w) {K:ASt->Prop} (h:xI E o K Z) {K':Act->World->Prop} {Q:Exit->Act->World->Prop}
 (hK:∀ v Z' M' B' w',K Z'->Good E.n out M B Z a.tmps w M' B' Z' (a.put o.dst v).tmps w'->K' (a.put o.dst v) w'):o.wp E.P a w K' Q:=by
 unfold xI at h;split at h
 .rename_i c hop;split at h
  .rename_i f hf;split at h
   .rename_i g first caps az hfun has
    obtain ⟨r,h',hE,hp⟩:=h;unfold ig at hp;split at hp
    .rename_i Z' hput;obtain ⟨f',c',e1,r1,r2⟩:=zk.1 (hI.rd _ _ hfun).1;obtain ⟨ra,_⟩:=Ku hI.rd has;have hcall:=hE.1;unfold callable at hcall;split at hcall
     .rename_i fn hfn;simp only[au,bne_iff_ne,ne_eq] at hcall;unfold Oper.wp;have hrun:(execOp a.eval o).run E.P w = .ok (.enter g (f' ++ c.args.map a.eval ++ c')) w:=by
       obtain ⟨callee,JJ,cts⟩:=c;simp only at hf;subst hf;unfold execOp;rw[hop];simp only[resolve,e1,Deferred.ofValue,kX,DN,qM,invoke,callFunc,run_program,hfn];have hnb:fn.body.isNone=false:=by cases hb:fn.body<;>simp[hb] at hcall ⊢
       have hnn:(fn.name == "runtime.NumGoroutine")=false:=by simpa using hcall.1
       simp only[hnn,hnb,uP,tX,DN]
      rw[hrun,Oper.upon_enter];refine aU6 hI (args:=first ++ az ++ caps) ?_ hE hput fun v M' B' w' hG=>hK v Z' M' B' w' hp hG
      simpa using zl (zl r1 ra) r2
     .cases hcall
    .exact hp.elim
   .exact h.elim
  .exact aQB hI h hK
 .exact aQB hI h hK
theorem E8 (hI:Inv E.n M B out Z a.tmps w) {ops:Array Oper} {j:Nat} {x:Option Bool} (h:AZ ops Z j=some x):yielded ops a.tmps j=x:=by
 unfold AZ at h;unfold yielded;split at h
 .rename_i hd; cases h; rw[hd]; rfl
 .rename_i d hd;rw[hd];split at h
  .rename_i b hb;cases h;obtain ⟨h1,h2,_⟩:=hI.slots _ _ hb;have:=jo.1 h2;have hlt:d<a.tmps.size:=by rw[hI.size]; exact h1
   have hg:a.tmps[d]? = some (.bool b):=by simpa[hlt] using this
   simp[hg]
  .rename_i hb;cases h;obtain ⟨h1,h2,_⟩:=hI.slots _ _ hb;obtain ⟨vs,h3,h4⟩:=tJ.1 h2;have hlt:d<a.tmps.size:=by rw[hI.size]; exact h1
   have hg:a.tmps[d]? = some (.tuple vs):=by simpa[hlt] using h3
   simp[hg]
  .cases h
theorem Act.Fg (a:Act) (d:Option Nat) (v:Value):(a.put d v).defers=a.defers:=by cases d<;>rfl
theorem Zi (hI:Inv E.n M B out Z a.tmps w) {dst:Option Nat} {Z':ASt} (h:ASt.put E dst (.tuple []) Z=some Z'):Good E.n out M B Z a.tmps w M B Z' (a.put dst undef).tmps w :=(Pre.plain hI (tJ.2 ⟨#[],rfl,eu.2 rfl⟩) (fun b=>dO rfl _ _) (fG rfl)).put h
theorem Qy {ops:Array Oper} {Q:Exit->Act->World->Prop}:∀ (l:List Oper) {M:Mem} {B:aV} {Z:ASt} {a:Act} {w:World} {K:ASt->Prop},Inv E.n M B out Z a.tmps w->lG E ops l K Z ->
 (∀ Z' M' B' a' w',K Z'->Good E.n out M B Z a.tmps w M' B' Z' a'.tmps w'->a'.defers=a.defers->Q .normal a' w')->wpList E.P ops Q l a w
 | [],M,B,Z,a,w,K,hI,h,hQ=>hQ Z M B a w h (Good.refl hI) rfl
 | o::l,M,B,Z,a,w,K,hI,h,hQ=>by
  have run:xI E o (lG E ops l K) Z->o.wp E.P a w (wpList E.P ops Q l) Q:=fun h =>WG hI h fun v Z' M' B' w' hK hG=>Qy l hG.inv hK fun Z2 M2 B2 a2 w2 hk hG2 hd=>hQ Z2 M2 B2 a2 w2 hk (hG.trans hG2) (by rw[hd,Act.Fg])
  have skip:ig E o.dst (.tuple []) Z (lG E ops l K)->wpList E.P ops Q l (a.put o.dst undef) w:=fun h=>by
   unfold ig at h;split at h
   .rename_i Z' hp;have hG:=Zi hI hp;exact Qy l hG.inv h fun Z2 M2 B2 a2 w2 hk hG2 hd=>hQ Z2 M2 B2 a2 w2 hk (hG.trans hG2) (by rw[hd,Act.Fg])
   .exact h.elim
  rw[lG] at h;unfold wpList;split at h
  .rename_i hg;rw[aJ (by simp[Region.wanted,hg])];exact .inl (run h)
  .rename_i j want hg;split at h
   .rename_i hv;rw[aK (by simp[Region.wanted,hg,E8 hI hv])];exact skip h
   .rename_i b hv;by_cases hb:b=want
    .rw[aJ (by simp[Region.wanted,hg,E8 hI hv,hb])];exact .inl (run (h.1 hb))
    .rw[aK (by simp[Region.wanted,hg,E8 hI hv,hb])];exact skip (h.2 hb)
   .exact h.elim
theorem a0U {ops:Array Oper} {Q:Exit->Act->World->Prop} {rest:List Oper}:∀ (l:List Oper) {M:Mem} {B:aV} {Z:ASt} {a:Act} {w:World} {K:ASt->Prop},Inv E.n M B out Z a.tmps w->lG E ops l K Z ->
 (∀ Z' M' B' a' w',K Z'->Good E.n out M B Z a.tmps w M' B' Z' a'.tmps w'->a'.defers=a.defers->wpList E.P ops Q rest a' w')->wpList E.P ops Q (l ++ rest) a w
 | [],M,B,Z,a,w,K,hI,h,hQ=>hQ Z M B a w h (Good.refl hI) rfl
 | o::l,M,B,Z,a,w,K,hI,h,hQ=>by
  have run:xI E o (lG E ops l K) Z->o.wp E.P a w (wpList E.P ops Q (l ++ rest)) Q:=fun h =>WG hI h fun v Z' M' B' w' hK hG=>a0U l hG.inv hK fun Z2 M2 B2 a2 w2 hk hG2 hd=>hQ Z2 M2 B2 a2 w2 hk (hG.trans hG2) (by rw[hd,Act.Fg])
  have skip:ig E o.dst (.tuple []) Z (lG E ops l K)->wpList E.P ops Q (l ++ rest) (a.put o.dst undef) w:=fun h=>by
   unfold ig at h;split at h
   .rename_i Z' hp;have hG:=Zi hI hp;exact a0U l hG.inv h fun Z2 M2 B2 a2 w2 hk hG2 hd=>hQ Z2 M2 B2 a2 w2 hk (hG.trans hG2) (by rw[hd,Act.Fg])
   .exact h.elim
  rw[lG] at h;rw[lM];unfold wpList;split at h
  .rename_i hg;rw[aJ (by simp[Region.wanted,hg])];exact .inl (run h)
  .rename_i j want hg;split at h
   .rename_i hv;rw[aK (by simp[Region.wanted,hg,E8 hI hv])];exact skip h
   .rename_i b hv;by_cases hb:b=want
    .rw[aJ (by simp[Region.wanted,hg,E8 hI hv,hb])];exact .inl (run (h.1 hb))
    .rw[aK (by simp[Region.wanted,hg,E8 hI hv,hb])];exact skip (h.2 hb)
   .exact h.elim
end
def yY:Operand->Option Nat
 | .tmp t=>some t
 | _=>none
def mY (E:AE) (o:Oper):Option Nat :=
 match o.op with
 | .move x=>if dC E.mv o.dst then yY x else none
 | .assign x=>yY x
 | .store _ _ x=>yY x
 | .call c=>match c.callee with
  | .builtin .append=>(match c.args.toList with | [x,_]=>yY x | _=>none)
  | _=>none
 | _=>none
def Ky (E:AE):Bool:=E.ln.any fun k=>Nat.ble 1000000 k
def EQ (E:AE) (H H':aI):Prop:=∀ i,dC E.ln (some (1000000+i))=true->H[i]? = H'[i]?
def hk (E:AE) (o:Oper):Nat :=
 match o.op with
 | .load _ _=>if dC E.ln o.dst then (if Ky E then 5 else 0) else if dC E.mv o.dst then 3 else 1
 | .alloc _=>if dC E.ln o.dst then (if Ky E then 6 else 2) else 2
 | .box _ _=>if dC E.fz o.dst then 0 else 2
 | .store _ a _=>if dC E.mu (zg a) then 6 else 2
 | .buildSlice _ _ _=>if dC E.mu o.dst then 2 else 0
 | .makeSlice _ _ _=>if dC E.mu o.dst then 2 else 0
 | .makeMap _ _=>if dC E.ln o.dst then (if Ky E then 6 else 2) else 2
 | .lookup _ _ _ _=>2
 | .mapUpdate _ _ _ _=>2
 | .insert _ m _ _=>if dC E.mu ((zg m).map (6000000 + ·)) then 6 else 2
 | .range _ _=>2
 | .next _ _=>2
 | .call c=>match c.callee with
  | .builtin .clear=>2
  | .builtin .copy=>2
  | .value _=>if dC E.sy o.dst then (if Ky E then 6 else 2) else 0
  | _=>0
 | _=>0
def wF (c:Option Nat) (s:fH):fH :=
 match c with
 | none=>s
 | some t=>match bU t s with | some p=>iF t p.un s | none=>s
theorem uh (Z:ASt) (x:Operand):(Z.clr x).s=wF (yY x) Z.s/\(Z.clr x).h=Z.h:=by
 cases x with
 | tmp t=>simp only[ASt.clr,wF,yY]; cases bU t Z.s<;>exact ⟨rfl,rfl⟩
 | _=>exact ⟨rfl,rfl⟩
def nD (h:aI):aI:=h.map fun o=>o.map fun cs=>cs.map PV.un
def agree (o:Oper) (s s':fH):Prop:=∀ t,Operand.tmp t∈o.op.operands->bU t s'=bU t s
section
variable {E:AE} {o:Oper} {Z Z':ASt}
theorem NJ (h:agree o Z.s Z'.s) {x:Operand} (hx:x∈o.op.operands):Z'.ev x=Z.ev x:=by
 cases x with
 | tmp t=>exact h t hx
 | _=>rfl
theorem lL (h:agree o Z.s Z'.s) {x:Operand} (hx:x∈o.op.operands):Z'.rd x=Z.rd x:=by unfold ASt.rd; rw[NJ h hx]
theorem Md {rd rd':Operand->Option PV} {xs:List Operand} (h:∀ x,x∈xs->rd' x=rd x):jL (xs.map rd')=jL (xs.map rd):=by rw[List.map_congr_left h]
theorem a7F {rd rd':Operand->Option PV}:∀ {xs:List (Nat×Operand)},(∀ x,x∈xs.map (·.2)->rd' x=rd x)->uG rd' xs=uG rd xs
 | [],_=>rfl
 | (i,x)::l,h=>by rw[uG,uG,h x (by simp),a7F (xs:=l) (fun y hy=>h y (by simp at hy ⊢; exact .inr hy))]
theorem aOA {P:Program} {rd rd':Operand->Option PV} {op:Op} (h:∀ x,x∈op.operands->rd' x=rd x):pop P rd' op=pop P rd op:=by
 cases op with
 | call c =>
  obtain ⟨callee,args,ts⟩:=c;have ha:∀ x,x∈args.toList->rd' x=rd x:=fun x hx=>h x (by simp only[Op.operands,Call.operands]; exact Ee.2 (.inr (by simpa using hx)))
  simp only[pop,Fb];split
  .split
   .rename_i x t h1 h2;rw[ha x (by rw[h1]; simp)]
   .rfl
  .rw[Md ha]
  .rw[Md ha]
  .rfl
 | makeFunc fn first caps =>
  have h1:∀ x,x∈first.toList->rd' x=rd x:=fun x hx=>h x (by simp only[Op.operands]; exact Ee.2 (.inl (by simpa using hx)))
  have h2:∀ x,x∈caps.toList->rd' x=rd x:=fun x hx=>h x (by simp only[Op.operands]; exact Ee.2 (.inr (by simpa using hx)))
  simp only[pop,Md h1,Md h2]
 | build t ps =>
  have:uG rd' ps.toList=uG rd ps.toList:=a7F fun x hx=>h x (by simpa[Op.operands] using hx)
  simp only[pop,this]
 | slice t x lo hi mx =>
  cases mx with
  | some m =>
   cases lo with
   | none=>simp[pop]
   | some a =>
    cases hi with
    | none=>simp[pop]
    | some b=>simp only[pop,h x (by simp[Op.operands]),h a (by simp[Op.operands]),h b (by simp[Op.operands]),h m (by simp[Op.operands])]
  | none =>
   have hx:rd' x=rd x:=h x (by simp[Op.operands]);cases lo with
   | none =>
    cases hi with
    | none=>simp only[pop,hx]
    | some b=>simp only[pop,hx,h b (by simp[Op.operands])]
   | some a =>
    cases hi with
    | none=>simp only[pop,hx,h a (by simp[Op.operands])]
    | some b=>simp only[pop,hx,h a (by simp[Op.operands]),h b (by simp[Op.operands])]
 | _=>simp_all[pop,Op.operands]
theorem bO2 {h h':aI} (e:nD h'=nD h) {i:Nat} {cs:bSH} (hi:h[i]? = some (some cs)):∃ cs',h'[i]? = some (some cs')/\cs'.map PV.un=cs.map PV.un:=by
 have h1:=congrArg (·[i]?) e;simp only[nD,iU,hi,sD] at h1;cases hh:h'[i]? with
 | none=>rw[hh] at h1; simp at h1
 | some x =>
  rw[hh] at h1;cases x with
  | none=>simp at h1
  | some cs'=>simp at h1; exact ⟨cs',rfl,h1⟩
theorem bG4 {I:TI} {q p:PV} {Z1:ASt} (h:nM false I q Z=some (p,Z1)) (hh:nD Z'.h=nD Z.h):Z1=Z/\nM false I q Z'=some (p,Z'):=by
 unfold nM at *;cases q with
 | cst e =>
  simp only at h ⊢;split at h
  .rename_i hc; cases h; exact ⟨rfl,by rw[aJ hc]⟩
  .cases h
 | ptr i off =>
  simp only at h ⊢;cases hi:Z.h[i]? with
  | none=>simp[hi] at h
  | some x =>
   cases x with
   | none=>simp[hi] at h
   | some cs =>
    obtain ⟨cs',h1,h2⟩:=bO2 hh hi;have hl:cs'.length=cs.length:=by have:=congrArg List.length h2; simpa using this
    simp only[hi] at h;simp only[h1,hl];split at h
    .rename_i hg;rw[aJ hg];split at h
     .rename_i hf;cases h;refine ⟨rfl,?_⟩;rw[aJ hf];congr 3
      rw[VN,List.map_drop,h2,VN,List.map_drop]
     .cases h
    .rename_i hg;rw[aK hg];cases hp:cs[off]? with
     | none=>simp[hp] at h
     | some p0 =>
      simp[hp] at h;obtain ⟨rfl,rfl⟩:=h;have h3:=congrArg (·[off]?) h2;simp only[iU,hp,sD] at h3;cases hp':cs'[off]? with
      | none=>rw[hp'] at h3; simp at h3
      | some p1=>rw[hp'] at h3; simp at h3; exact ⟨rfl,by simp[h3]⟩
 | _=>simp at h
theorem bO3 {h:aI} {i off:Nat} {cs:bSH} {p0:PV} (hi:h[i]? = some (some cs)) (hp:cs[off]? = some p0):nD (h.set i (some (cs.set off p0.un)))=nD h:=by
 simp only[nD];apply Ll;intro j;rw[iU,iU];by_cases hj:i=j
 .subst hj;rw[ql (eP.1 hi).1,hi];simp only[sD,zA];apply Ll;intro k;rw[iU,iU];by_cases hkk:off=k
  .subst hkk;rw[ql (eP.1 hp).1,hp]; simp[bO6]
  .rw[lN hkk]
 .rw[lN hj]
theorem bG3 {I:TI} {q p:PV} {Z1:ASt} (h:nM true I q Z=some (p,Z1)):Z1.s=Z.s/\(∀ Z':ASt,Z'.h=Z.h->nM true I q Z'=some (p,⟨Z'.s,Z1.h⟩))/\nD Z1.h=nD Z.h:=by
 have same:∀ Z':ASt,Z'.h=Z.h->(⟨Z'.s,Z.h⟩:ASt)=Z':=fun Z' e=>by cases Z'; simp only at e; rw[e]
 unfold nM at *;cases q with
 | cst e =>
  simp only at h ⊢;split at h
  .rename_i hc; cases h; exact ⟨rfl,fun Z' e=>by rw[aJ hc,same Z' e],rfl⟩
  .cases h
 | ptr i off =>
  simp only at h ⊢;cases hi:Z.h[i]? with
  | none=>simp[hi] at h
  | some x =>
   cases x with
   | none=>simp[hi] at h
   | some cs =>
    simp only[hi] at h;split at h
    .rename_i hg;split at h
     .rename_i hf;cases h;exact ⟨rfl,fun Z' e=>by simp only[e,hi]; rw[aJ hg,aJ hf,same Z' e],rfl⟩
     .cases h
    .rename_i hg;cases hp:cs[off]? with
     | none=>simp[hp] at h
     | some p0 =>simp[hp] at h;obtain ⟨rfl,rfl⟩:=h;exact ⟨rfl,fun Z' e=>by simp only[e,hi]; rw[aK hg]; simp[hp],bO3 hi hp⟩
 | _=>simp at h
theorem bL1 {E:AE} {i:Nat} (h:dC E.ln (some (1000000+i))=true):Ky E=true:=by unfold Ky;rw[aB4];exact ⟨1000000+i,by simpa[dC] using h,by rw[QG]; omega⟩
theorem aM1 {I:TI} {q:PV} {Z Z1:ASt} {p:PV} (h:nM false I q Z=some (p,Z1)):Z1=Z/\∀ τ:ASt,(∀ i off,q = .ptr i off->τ.h[i]? = Z.h[i]?)->nM false I q τ=some (p,τ):=by
 unfold nM at h ⊢;cases q with
 | cst e =>
  simp only at h ⊢;split at h
  .rename_i hc;cases h;exact ⟨rfl,fun τ _=>by rw[aJ hc]⟩
  .cases h
 | ptr i off =>
  simp only at h ⊢;cases hc:Z.h[i]? with
  | none=>rw[hc] at h; cases h
  | some o =>
   rw[hc] at h;cases o with
   | none=>cases h
   | some cs =>
    simp only at h;split at h
    .rename_i hg;split at h
     .rename_i hl;cases h;exact ⟨rfl,fun τ ht=>by rw[ht i off rfl,hc]; simp only; rw[aJ hg,aJ hl]⟩
     .cases h
    .rename_i hg;cases hp:cs[off]? with
     | none=>rw[hp] at h; cases h
     | some p0 =>rw[hp] at h;simp only[uP,tX] at h;cases h;exact ⟨rfl,fun τ ht=>by rw[ht i off rfl,hc]; simp only; rw[aK hg,hp]; simp only[uP,tX]⟩
 | _=>cases h
theorem aQD {p:PV} {Z1:ASt} (h:bY E o Z=some (p,Z1)) (ha:agree o Z.s Z'.s) (hh:hk E o=0\/Z'.h=Z.h\/(hk E o=1/\nD Z'.h=nD Z.h)) :
 ∃ Z1',bY E o Z'=some (p,Z1')/\Z1.s=wF (mY E o) Z.s/\Z1'.s=wF (mY E o) Z'.s/\((hk E o=0\/hk E o=1)->Z1.h=Z.h/\Z1'.h=Z'.h)/\(Z'.h=Z.h->Z1'.h=Z1.h)/\(hk E o=3->nD Z1.h=nD Z.h):=by
 obtain ⟨dst,op,type,pos,after,guard⟩:=o;cases op with
 | move x =>
  have hx:Z'.ev x=Z.ev x:=NJ ha (by simp[Op.operands]);simp only[bY] at h ⊢;split at h
  .rename_i hm;cases he:Z.ev x with
   | none=>simp[he] at h
   | some q =>
    simp[he] at h; obtain ⟨rfl,rfl⟩:=h;have c1:=uh Z x;have c2:=uh Z' x;have ht:mY E ⟨dst,.move x,type,pos,after,guard⟩=yY x:=by simp[mY,hm]
    rw[aJ hm,hx,he,ht];exact ⟨_,rfl,c1.1,c2.1,fun _=>⟨c1.2,c2.2⟩,fun e=>by rw[c1.2,c2.2,e],fun e=>by simp[hk] at e⟩
  .rename_i hm;cases he:Z.rd x with
   | none=>simp[he] at h
   | some q =>
    simp[he] at h; obtain ⟨rfl,rfl⟩:=h;have hr:Z'.rd x=Z.rd x:=lL ha (by simp[Op.operands]);have ht:mY E ⟨dst,.move x,type,pos,after,guard⟩=none:=by simp[mY,hm]
    rw[aK hm,hr,he,ht];exact ⟨_,rfl,rfl,rfl,fun _=>⟨rfl,rfl⟩,fun e=>e,fun _=>rfl⟩
 | assign x =>
  have hx:Z'.ev x=Z.ev x:=NJ ha (by simp[Op.operands]);simp only[bY] at h ⊢;cases he:Z.ev x with
  | none=>simp[he] at h
  | some q =>simp[he] at h; obtain ⟨rfl,rfl⟩:=h;have c1:=uh Z x;have c2:=uh Z' x;have ht:mY E ⟨dst,.assign x,type,pos,after,guard⟩=yY x:=rfl;rw[hx,he,ht];exact ⟨_,rfl,c1.1,c2.1,fun _=>⟨c1.2,c2.2⟩,fun e=>by rw[c1.2,c2.2,e],fun e=>by simp[hk] at e⟩
 | alloc t =>
  simp only[bY] at h ⊢;have hkn:hk E ⟨dst,.alloc t,type,pos,after,guard⟩≠0/\hk E ⟨dst,.alloc t,type,pos,after,guard⟩≠1/\hk E ⟨dst,.alloc t,type,pos,after,guard⟩≠3:=by
   simp only[hk]; split
   .split<;>simp
   .simp
  have hh':Z'.h=Z.h:=by rcases hh with h | h | h<;>first | exact h | exact absurd h hkn.1 | exact absurd h.1 hkn.2.1
  rw[hh'];split at h
  .cases h
  rename_i hro;cases ht:ti E.P t with
  | none=>simp[ht] at h
  | some I =>simp[ht] at h; obtain ⟨rfl,rfl⟩:=h;exact ⟨⟨Z'.s,Z.h ++ [some (JH (dC E.mu dst) t Z.h.length I.zero)]⟩,by simp[hro,hh'],rfl,rfl,fun e=>e.elim (fun e=>absurd e hkn.1) (fun e=>absurd e hkn.2.1),fun e=>rfl,fun e=>absurd e hkn.2.2⟩
 | box t x =>
  simp only[bY] at h ⊢;have hr:Z'.rd x=Z.rd x:=lL ha (by simp[Op.operands]);split at h
  .rename_i hm;rw[aJ hm];cases hb:(Z.rd x).bind NU with
   | none=>simp[hb] at h
   | some e =>simp[hb] at h; obtain ⟨rfl,rfl⟩:=h;exact ⟨Z',by simp[hr,hb],rfl,rfl,fun _=>⟨rfl,rfl⟩,fun e=>e,fun _=>rfl⟩
  .rename_i hm;rw[aK hm];have hh':Z'.h=Z.h:=by rcases hh with h | h | h<;>first | exact h | (simp[hk,hm] at h)
   cases hb:(Z.rd x).bind PV.newCells with
   | none=>simp[hb] at h
   | some cs =>simp[hb] at h; obtain ⟨rfl,rfl⟩:=h;exact ⟨⟨Z'.s,Z'.h ++ [some cs]⟩,by simp[hr,hb,hh'],rfl,rfl,fun e=>by simp[hk,hm] at e,fun e=>by simp[e],fun e=>by simp[hk,hm] at e⟩
 | load t x =>
  simp only[bY] at h ⊢;have hr:Z'.rd x=Z.rd x:=lL ha (by simp[Op.operands]);rw[hr];cases hI:ti E.P t with
  | none=>simp[hI] at h
  | some I =>
   cases hq:Z.rd x with
   | none=>simp[hI,hq] at h
   | some q =>
    simp only[hI,hq] at h ⊢;cases hln:dC E.ln dst with
    | true =>
     rw[hln] at h;simp only at h ⊢;split at h
     .rename_i hok;have hp:=aM1 h;refine ⟨Z',?_,by rw[hp.1]; rfl,rfl,fun _=>⟨by rw[hp.1],rfl⟩,fun e=>by rw[hp.1]; exact e,fun e=>by simp only[hk,hln,gV] at e; split at e<;>omega⟩;refine hp.2 Z' ?_;cases q with
      | ptr i off =>
       have hm:dC E.ln (some (1000000+i))=true:=hok;have hro:Ky E=true:=bL1 hm;have hne:hk E ⟨dst,.load t x,type,pos,after,guard⟩=5:=by simp only[hk,hln,gV,hro]
       rcases hh with h' | h' | h'
       .rw[hne] at h'; omega
       .intro j o' e; cases e; rw[h']
       .rw[hne] at h'; omega
      | _=>intro j o' e; cases e
     .cases h
    | false =>
    rw[hln] at h;simp only at h ⊢;cases hm:dC E.mv dst with
    | false =>
     rw[hm] at h;have hun:nD Z'.h=nD Z.h:=by
      rcases hh with h | h | h
      .simp[hk,hln,hm] at h
      .rw[h]
      .exact h.2
     obtain ⟨rfl,h2⟩:=bG4 h hun;exact ⟨Z',h2,rfl,rfl,fun _=>⟨rfl,rfl⟩,fun e=>e,fun e=>by simp[hk,hln,hm] at e⟩
    | true =>
     rw[hm] at h;have hh':Z'.h=Z.h:=by rcases hh with h | h | h<;>first | exact h | (simp[hk,hln,hm] at h)
     obtain ⟨k1,k2,k3⟩:=bG3 h;exact ⟨⟨Z'.s,Z1.h⟩,k2 Z' hh',k1,rfl,fun e=>by simp[hk,hln,hm] at e,fun _=>rfl,fun _=>k3⟩
 | store t x y =>
  simp only[bY] at h ⊢;have bQ4:hk E ⟨dst,.store t x y,type,pos,after,guard⟩=2\/hk E ⟨dst,.store t x y,type,pos,after,guard⟩=6:=by
   simp only[hk];split
   .exact .inr rfl
   .exact .inl rfl
  have hh':Z'.h=Z.h:=by rcases hh with h | h | h<;>first | exact h | (exfalso; omega) | (exfalso; have:=h.1; omega)
  have hr:Z'.rd x=Z.rd x:=lL ha (by simp[Op.operands]);have hy:Z'.ev y=Z.ev y:=NJ ha (by simp[Op.operands]);have c1:=uh Z y;have c2:=uh Z' y;have ht:mY E ⟨dst,.store t x y,type,pos,after,guard⟩=yY y:=rfl;rw[hr,hy];cases hso:PS E.mu E.ln (zg x) (Z.rd x) with
  | false=>rw[hso] at h; cases h
  | true =>
  rw[hso] at h;simp only at h ⊢;cases hI:ti E.P t with
  | none=>simp[hI] at h
  | some I =>
   cases hq:Z.rd x with
   | none=>simp[hI,hq] at h
   | some q =>
    cases hp:Z.ev y with
    | none=>simp[hI,hq,hp] at h
    | some p' =>
     cases dst with
     | some d=>simp[hI,hq,hp] at h
     | none =>
      simp only[hI,hq,hp] at h ⊢;have key:∀ τ:ASt,τ.h=Z.h->∀ τ1,vG I q p' τ=some τ1->τ1.s=τ.s/\∀ τ':ASt,τ'.h=Z.h->vG I q p' τ'=some ⟨τ'.s,τ1.h⟩:=by
       intro τ hτ τ1 h1;unfold vG at h1 ⊢;cases q with
       | ptr i off =>
        simp only[hτ] at h1;split at h1
        .rename_i cs hcs;split at h1
         .split at h1
          .rename_i hc; cases h1; exact ⟨rfl,fun τ' e=>by simp only[e,hcs]; rw[aJ hc]⟩
          .cases h1
         .rename_i hna;split at h1
          .rename_i hc; cases h1;refine ⟨rfl,fun τ' e => ?_⟩;simp only[e,hcs];cases p' with
           | agg ds=>exact absurd rfl (hna ds)
           | _=>rw[aJ hc]
          .cases h1
        .cases h1
       | _=>simp at h1
      cases hst:vG I q p' (Z.clr y) with
      | none=>simp[hst] at h
      | some τ1 =>simp[hst] at h; obtain ⟨rfl,rfl⟩:=h;obtain ⟨k1,k2⟩:=key (Z.clr y) c1.2 τ1 hst;have k3:=k2 (Z'.clr y) (by rw[c2.2,hh']);refine ⟨⟨(Z'.clr y).s,τ1.h⟩,by rw[k3]; rfl,by rw[k1,ht]; exact c1.1,by rw[ht]; exact c2.1,fun e=>by exfalso; omega,fun _=>rfl,fun e=>by exfalso; omega⟩
 | buildSlice t len ps =>
  have hp:∀ zs,uG (Z'.rdT zs) ps.toList=uG (Z.rdT zs) ps.toList:=fun zs=>a7F fun x hx=>by unfold ASt.rdT; rw[lL ha (by simpa[Op.operands] using hx)]
  simp only[bY,hp] at h ⊢;cases hT:jh E.P t with
  | none=>simp[hT] at h
  | some I =>
   cases hq:uG (Z.rdT (elT E.P t)) ps.toList with
   | none=>simp[hT,hq] at h
   | some qs =>
    simp only[hT,hq] at h ⊢;cases he:Dn I.size 0 qs with
    | none=>simp[he] at h
    | some es =>
     simp only[he] at h ⊢;split at h
     .rename_i hc;rw[aJ hc];split at h
      .rename_i hm;have hh':Z'.h=Z.h:=by rcases hh with h | h | h<;>first | exact h | (simp[hk,hm] at h)
       cases h;rw[aJ hm];exact ⟨⟨Z'.s,Z'.h ++ [some (dW es)]⟩,by simp[hh'],rfl,rfl,fun e=>by simp[hk,hm] at e,fun e=>by simp[e],fun e=>by simp[hk,hm] at e⟩
      .rename_i hm;rw[aK hm];split at h
       .split at h
        .cases h;exact ⟨Z',by simp_all,rfl,rfl,fun _=>⟨rfl,rfl⟩,fun e=>e,fun _=>rfl⟩
        .cases h
       .cases h;exact ⟨Z',by simp_all,rfl,rfl,fun _=>⟨rfl,rfl⟩,fun e=>e,fun _=>rfl⟩
     .cases h
 | makeSlice t l c =>
  have hl:Z'.rd l=Z.rd l:=lL ha (by simp[Op.operands]);have hc:Z'.rd c=Z.rd c:=lL ha (by simp[Op.operands]);simp only[bY] at h ⊢;rw[hl,hc];split at h
  .split at h
   .rename_i hcond;rw[aJ hcond];split at h
    .rename_i hm;cases h;have hh':Z'.h=Z.h:=by rcases hh with h | h | h<;>first | exact h | (simp[hk,hm] at h)
     rw[aJ hm];exact ⟨⟨Z'.s,Z'.h ++ [some (wo _ _)]⟩,by rw[hh'],rfl,rfl,fun e=>by simp[hk,hm] at e,fun e=>by rw[e],fun e=>by simp[hk,hm] at e⟩
    .rename_i hm;rw[aK hm];split at h
     .rename_i hz;cases h;rw[aJ hz];exact ⟨Z',rfl,rfl,rfl,fun _=>⟨rfl,rfl⟩,fun e=>e,fun _=>rfl⟩
     .cases h
   .cases h
  .cases h
 | call c =>
  obtain ⟨callee,args,ts⟩:=c;have hargs:∀ x,x∈args.toList->x∈(Op.call ⟨callee,args,ts⟩).operands:=fun x hx=>by simp only[Op.operands,Call.operands]; exact Ee.2 (.inr (by simpa using hx))
  simp only[bY] at h ⊢;split at h
  .have hh':Z'.h=Z.h:=by rcases hh with h | h | h<;>first | exact h | (simp[hk] at h)
   split at h
   .rename_i x y t u h1 h2;have hx:Z'.rd x=Z.rd x:=lL ha (hargs x (by rw[h1]; simp));have hy:Z'.rd y=Z.rd y:=lL ha (hargs y (by rw[h1]; simp));have hcs:∀ sz q,Dl Z' sz q=Dl Z sz q:=fun sz q=>by unfold Dl; simp only[hh']
    rw[hx,hy];simp only[hcs,hh'];split at h
    .rename_i I i off m sz q _ _ _;split at h
     .rename_i cs m2 cells _ _;split at h
      .rename_i hc;cases h;exact ⟨⟨Z'.s,Z.h.set i (some (cs.take off ++ cells.take (Nat.min m2 m*sz) ++ cs.drop (off+Nat.min m2 m*sz)))⟩,by rw[aJ hc,<- hh'],rfl,rfl,fun e=>by simp[hk] at e,fun e=>rfl,fun e=>by simp[hk] at e⟩
      .cases h
     .cases h
    .cases h
   .cases h
  .have hh':Z'.h=Z.h:=by rcases hh with h | h | h<;>first | exact h | (simp[hk] at h)
   split at h
   .rename_i x t h1 h2;have hx:Z'.rd x=Z.rd x:=lL ha (hargs x (by rw[h1]; simp));split at h
    .rename_i I j off m sz hT hx1;split at h
     .rename_i cs hcs;split at h
      .rename_i hc;cases h;exact ⟨⟨Z'.s,Z'.h.set j (some (cs.take off ++ (wo m I).map PV.un ++ cs.drop (off+m*sz)))⟩,by rw[hx,hx1,hh',hT]; simp only[hcs]; rw[aJ hc],rfl,rfl,fun e=>by simp[hk] at e,fun e=>by rw[e],fun e=>by simp[hk] at e⟩
      .cases h
     .cases h
    .rename_i I o' z' hT hx1;cases h;exact ⟨Z',by rw[hx,hx1,hT],rfl,rfl,fun e=>by simp[hk] at e,fun e=>e,fun e=>by simp[hk] at e⟩
    .cases h
   .cases h
  .split at h
   .rename_i s x t u h1 h2;have hs:Z'.ev s=Z.ev s:=NJ ha (hargs s (by rw[h1]; simp));have hx:Z'.rd x=Z.rd x:=lL ha (hargs x (by rw[h1]; simp));rw[hs,hx];split at h
    .rename_i I sz es o' sz' es' hT hs' hx';split at h
     .rename_i hc;cases h;have c1:=uh Z s;have c2:=uh Z' s;have ht:mY E ⟨dst,.call ⟨.builtin .append,args,ts⟩,type,pos,after,guard⟩=yY s:=by simp only[mY,h1]
      rw[ht];refine ⟨Z'.clr s,?_,c1.1,c2.1,fun _=>⟨c1.2,c2.2⟩,fun e=>by rw[c1.2,c2.2,e],fun e=>by simp[hk] at e⟩;rw[aJ hc]
     .cases h
    .rename_i I sz es b hT hs' hx';split at h
     .rename_i hc;cases h;have c1:=uh Z s;have c2:=uh Z' s;have ht:mY E ⟨dst,.call ⟨.builtin .append,args,ts⟩,type,pos,after,guard⟩=yY s:=by simp only[mY,h1]
      rw[ht];refine ⟨Z'.clr s,?_,c1.1,c2.1,fun _=>⟨c1.2,c2.2⟩,fun e=>by rw[c1.2,c2.2,e],fun e=>by simp[hk] at e⟩;rw[aJ hc]
     .cases h
    .rename_i I k sz cs o' sz' es' hT hs' hx';split at h
     .rename_i hc;cases h;have c1:=uh Z s;have c2:=uh Z' s;have ht:mY E ⟨dst,.call ⟨.builtin .append,args,ts⟩,type,pos,after,guard⟩=yY s:=by simp only[mY,h1]
      rw[ht];refine ⟨Z'.clr s,?_,c1.1,c2.1,fun _=>⟨c1.2,c2.2⟩,fun e=>by rw[c1.2,c2.2,e],fun e=>by simp[hk] at e⟩;rw[aJ hc]
     .cases h
    .rename_i I l b hT hs' hx';split at h
     .rename_i hc;cases h;have c1:=uh Z s;have c2:=uh Z' s;have ht:mY E ⟨dst,.call ⟨.builtin .append,args,ts⟩,type,pos,after,guard⟩=yY s:=by simp only[mY,h1]
      rw[ht];refine ⟨Z'.clr s,?_,c1.1,c2.1,fun _=>⟨c1.2,c2.2⟩,fun e=>by rw[c1.2,c2.2,e],fun e=>by simp[hk] at e⟩;rw[aJ hc]
     .cases h
    .rename_i I l o' sz' es' hT hs' hx';split at h
     .rename_i c hob;split at h
      .rename_i hc;cases h;have c1:=uh Z s;have c2:=uh Z' s;have ht:mY E ⟨dst,.call ⟨.builtin .append,args,ts⟩,type,pos,after,guard⟩=yY s:=by simp only[mY,h1]
       rw[ht];refine ⟨Z'.clr s,?_,c1.1,c2.1,fun _=>⟨c1.2,c2.2⟩,fun e=>by rw[c1.2,c2.2,e],fun e=>by simp[hk] at e⟩;first | rw[aJ hc] | (rw[hob]; rw[aJ hc]) | (simp only[hob]; exact aJ hc)
      .cases h
     .cases h
    .cases h
   .cases h
  .rename_i hne;have hpc:Fb E.P Z'.rd ⟨callee,args,ts⟩=Fb E.P Z.rd ⟨callee,args,ts⟩:=by
    have:=aOA (P:=E.P) (rd:=Z.rd) (rd':=Z'.rd) (op := .call ⟨callee,args,ts⟩) fun x hx=>lL ha hx
    simpa only[pop] using this
   rw[hpc];cases hp:Fb E.P Z.rd ⟨callee,args,ts⟩ with
   | none=>simp[hp] at h
   | some q =>
    simp[hp] at h; obtain ⟨rfl,rfl⟩:=h;have ht:mY E ⟨dst,.call ⟨callee,args,ts⟩,type,pos,after,guard⟩=none:=by simp only[mY]
    rw[ht];exact ⟨Z',rfl,rfl,rfl,fun _=>⟨rfl,rfl⟩,fun e=>e,fun _=>rfl⟩
 | makeMap t r =>
  simp only[bY] at h ⊢;have hkn:hk E ⟨dst,.makeMap t r,type,pos,after,guard⟩≠0/\hk E ⟨dst,.makeMap t r,type,pos,after,guard⟩≠1/\hk E ⟨dst,.makeMap t r,type,pos,after,guard⟩≠3:=by
   simp only[hk]; split
   .split<;>simp
   .simp
  have hh':Z'.h=Z.h:=by rcases hh with h | h | h<;>first | exact h | exact absurd h hkn.1 | exact absurd h.1 hkn.2.1
  rw[hh'];split at h
  .cases h
  rename_i hro;split at h
  .rename_i ht;cases h;exact ⟨⟨Z'.s,Z.h ++ [some [nP (dC E.mu dst) []]]⟩,by simp[hro,hh'],rfl,rfl,fun e=>e.elim (fun e=>absurd e hkn.1) (fun e=>absurd e hkn.2.1),fun e=>rfl,fun e=>absurd e hkn.2.2⟩
  .cases h
 | lookup t m k ok =>
  have hh':Z'.h=Z.h:=by rcases hh with h | h | h<;>first | exact h | (simp[hk] at h)
  have hm:Z'.rd m=Z.rd m:=lL ha (by simp[Op.operands]);have hkk:Z'.rd k=Z.rd k:=lL ha (by simp[Op.operands]);simp only[bY] at h ⊢;rw[hh',hm,hkk];split at h
  .rename_i s z i q ht h1 h2;split at h
   .rename_i cs hcs;split at h
    .rename_i b L hin;split at h
     .rename_i r hik hg;cases h;exact ⟨Z',by simp only[hcs,hin,hik,hg],rfl,rfl,fun e=>by simp[hk] at e,fun _=>hh',fun e=>by simp[hk] at e⟩
     .cases h
    .cases h
   .cases h
  .cases h
 | mapUpdate t m k x =>
  have hh':Z'.h=Z.h:=by rcases hh with h | h | h<;>first | exact h | (simp[hk] at h)
  have hm:Z'.rd m=Z.rd m:=lL ha (by simp[Op.operands]);have hkk:Z'.rd k=Z.rd k:=lL ha (by simp[Op.operands]);have hx:Z'.rd x=Z.rd x:=lL ha (by simp[Op.operands]);simp only[bY] at h ⊢;rw[hh',hm,hkk,hx];split at h
  .rename_i s z i q y ht h1 h2 h3;split at h
   .rename_i cs hcs;split at h
    .rename_i b L hin;split at h
     .rename_i hik;cases h;exact ⟨⟨Z'.s,Z.h.set i (some [nP b (jO s L q y)])⟩,by simp only[hcs,hin,hik],rfl,rfl,fun e=>by simp[hk] at e,fun _=>rfl,fun e=>by simp[hk] at e⟩
     .cases h
    .cases h
   .cases h
  .cases h
 | insert t m k x =>
  have hkn:hk E ⟨dst,.insert t m k x,type,pos,after,guard⟩≠0/\hk E ⟨dst,.insert t m k x,type,pos,after,guard⟩≠1/\hk E ⟨dst,.insert t m k x,type,pos,after,guard⟩≠3:=by simp only[hk]; split<;>simp
  have hh':Z'.h=Z.h:=by rcases hh with h | h | h<;>first | exact h | exact absurd h hkn.1 | exact absurd h.1 hkn.2.1
  have hm:Z'.rd m=Z.rd m:=lL ha (by simp[Op.operands]);have hkk:Z'.rd k=Z.rd k:=lL ha (by simp[Op.operands]);have hx:Z'.rd x=Z.rd x:=lL ha (by simp[Op.operands]);simp only[bY] at h ⊢;rw[hh',hm,hkk,hx];split at h
  .cases h
  rename_i hso;split at h
  .rename_i s z i q y ht h1 h2 h3;split at h
   .rename_i cs hcs;split at h
    .rename_i b L hin;split at h
     .rename_i hik;cases h;exact ⟨⟨Z'.s,Z.h.set i (some [nP b (jO s L q y)])⟩,by simp only[hso,hcs,hin,hik],rfl,rfl,fun e=>e.elim (fun e=>absurd e hkn.1) (fun e=>absurd e hkn.2.1),fun _=>rfl,fun e=>absurd e hkn.2.2⟩
     .cases h
    .cases h
   .cases h
  .cases h
 | range t x =>
  have hh':Z'.h=Z.h:=by rcases hh with h | h | h<;>first | exact h | (simp[hk] at h)
  have hx:Z'.rd x=Z.rd x:=lL ha (by simp[Op.operands]);simp only[bY] at h ⊢;rw[hh',hx];split at h
  .rename_i s ht hs;cases h;exact ⟨⟨Z'.s,Z.h ++ [some [zO s 0]]⟩,by simp only[ht,hs],rfl,rfl,fun e=>by simp[hk] at e,fun _=>rfl,fun e=>by simp[hk] at e⟩
  .cases h
 | next x b =>
  have hh':Z'.h=Z.h:=by rcases hh with h | h | h<;>first | exact h | (simp[hk] at h)
  have hx:Z'.rd x=Z.rd x:=lL ha (by simp[Op.operands]);simp only[bY] at h ⊢;rw[hh',hx];split at h
  .rename_i T i hx2;split at h
   .rename_i cs hcs;split at h
    .rename_i s p hin;split at h
     .rename_i hT;split at h
      .rename_i hp;cases h;exact ⟨⟨Z'.s,Z.h.set i (some [zO s (OJ s p)])⟩,by simp only[hx2,hcs,hin,hT,hp],rfl,rfl,fun e=>by simp[hk] at e,fun _=>rfl,fun e=>by simp[hk] at e⟩
      .rename_i hp;cases h;exact ⟨Z',by simp only[hx2,hcs,hin,hT,hp],rfl,rfl,fun e=>by simp[hk] at e,fun _=>hh',fun e=>by simp[hk] at e⟩
     .cases h
    .cases h
   .cases h
  .cases h
 | _ =>
  simp only[bY] at h ⊢;rw[aOA (P:=E.P) (rd:=Z.rd) (rd':=Z'.rd) fun x hx=>lL ha hx];generalize pop E.P Z.rd _=r at h ⊢;cases r with
  | none=>simp at h
  | some q =>simp at h; obtain ⟨rfl,rfl⟩:=h;exact ⟨Z',rfl,rfl,rfl,fun _=>⟨rfl,rfl⟩,fun e=>e,fun _=>rfl⟩
end
theorem aQ5:∀ {s s':fH},jE s->jE s'->(∀ k,bU k s=bU k s')->s=s'
 | [],[],_,_,_=>rfl
 | [],(j,q)::l,_,_,h=>by have:=h j; simp[bU] at this
 | (j,q)::l,[],_,_,h=>by have:=h j; simp[bU] at this
 | (j,q)::l,(j',q')::l',h1,h2,h=>by
  obtain ⟨a1,a2⟩:=Cj.1 h1;obtain ⟨b1,b2⟩:=Cj.1 h2;have hj:j=j':=by
   rcases Nat.lt_trichotomy j j' with hlt | he | hgt
   .have:=h j;rw[bU,aJ rfl,bU,aK (by omega),PM (fun a ha=>by have:=b1 a ha; simp at this; omega)] at this;cases this
   .exact he
   .have:=h j';rw[bU,aK (by omega),PM (fun a ha=>by have:=a1 a ha; simp at this; omega),bU,aJ rfl] at this;cases this
  subst hj;have hq:q=q':=by have:=h j; simpa[bU] using this
  subst hq;congr 1
  refine aQ5 a2 b2 fun k => ?_
  by_cases e:j=k
  .subst e;rw[PM (fun a ha=>by have:=a1 a ha; simpa using this),PM (fun a ha=>by have:=b1 a ha; simpa using this)]
  .have:=h k;rwa [bU,aK e,bU,aK e] at this
def uI (d:Option Nat) (p:PV) (s:fH):fH:=match d with | some k=>iF k p s | none=>s
theorem Ff {d:Option Nat} {p:PV} {s:fH} (h:jE s):jE (uI d p s):=by cases d<;>first | exact h | exact Ci h
theorem H8 {c:Option Nat} {s:fH} (h:jE s):jE (wF c s):=by
 unfold wF; split
 .exact h
 .split
  .exact Ci h
  .exact h
theorem Uj {d:Option Nat} {p:PV} {s:fH} (h:jE s) (k:Nat):bU k (uI d p s)=if d=some k then some p else bU k s:=by
 cases d with
 | none=>simp[uI]
 | some j=>simp only[uI,Cf k h,zA]
theorem Ui {c:Option Nat} {s:fH} (h:jE s) (k:Nat):bU k (wF c s)=if c=some k then (bU k s).map PV.un else bU k s:=by
 cases c with
 | none=>simp[wF]
 | some j =>
  simp only[wF,zA];cases hj:bU j s with
  | none =>
   simp only;split
   .rename_i e; subst e; rw[hj]; rfl
   .rfl
  | some q =>
   simp only[Cf k h];split
   .rename_i e; subst e; rw[hj]; rfl
   .rfl
theorem aV5 {d1 d2 c1 c2:Option Nat} {p1 p2:PV} {s:fH} (h:jE s) (e1:∀ k,d1=some k->d2≠some k/\c2≠some k) (e2:∀ k,c1=some k->d2≠some k/\c2≠some k) :
 uI d1 p1 (wF c1 (uI d2 p2 (wF c2 s)))=uI d2 p2 (wF c2 (uI d1 p1 (wF c1 s))):=by
 have s1:=H8 (c:=c1) h;have s2:=H8 (c:=c2) h;refine aQ5 (Ff (H8 (Ff s2))) (Ff (H8 (Ff s1))) fun k => ?_
 rw[Uj (H8 (Ff s2)),Ui (Ff s2),Uj s2,Ui h,Uj (H8 (Ff s1)),Ui (Ff s1),Uj s1,Ui h];by_cases a1:d1=some k
 .obtain ⟨x1,x2⟩:=e1 k a1;rw[aJ a1,aK x1,aK x2,aJ a1]
 .rw[aK a1,aK a1];by_cases a2:c1=some k
  .obtain ⟨x1,x2⟩:=e2 k a2;rw[aJ a2,aK x1,aK x2,aK x1,aK x2,aJ a2]
  .rw[aK a2,aK a2]
def rJ (ops:Array Oper) (Z:ASt) (o:Oper):Option Bool :=
 match o.guard with
 | none=>some true
 | some (j,want)=>(AZ ops Z j).map fun x=>x==some want
theorem hk5 {E:AE} {o:Oper} (h:hk E o=5):∃ t x,o.op = .load t x/\dC E.ln o.dst=true:=by
 unfold hk at h;split at h
 .rename_i t x hop;split at h
  .rename_i hl; exact ⟨t,x,hop,hl⟩
  .split at h<;>omega
 all_goals first | omega | (split at h<;>omega) | skip
 all_goals (split at h<;>first | omega | (split at h<;>first | omega | (split at h<;>omega)))
theorem aQC {E:AE} {o:Oper} {Z Z' Z1:ASt} {p:PV} (h:bY E o Z=some (p,Z1)) (h5:hk E o=5) (ha:agree o Z.s Z'.s) (hr:EQ E Z'.h Z.h):Z1=Z/\bY E o Z'=some (p,Z')/\mY E o=none:=by
 obtain ⟨t,x,hop,hl⟩:=hk5 h5;obtain ⟨dst,op,type,pos,after,guard⟩:=o;simp only at hop hl;subst hop;simp only[bY] at h ⊢;have hrd:Z'.rd x=Z.rd x:=lL ha (by simp[Op.operands]);rw[hrd];cases hI:ti E.P t with
 | none=>simp[hI] at h
 | some I =>
  cases hq:Z.rd x with
  | none=>simp[hI,hq] at h
  | some q =>
   simp only[hI,hq,hl] at h ⊢;split at h
   .rename_i hok;have hp:=aM1 h;refine ⟨hp.1,?_,rfl⟩;refine hp.2 Z' fun i off e => ?_
    subst e;exact hr i hok
   .cases h
def stepD (E:AE) (o:Oper) (Z Z':ASt):Prop:=∃ p Z1,bY E o Z=some (p,Z1)/\jQ E o Z/\ASt.put E o.dst p Z1=some Z'
def aU4 (E:AE) (o:Oper) (f:Operand) (args:List Operand) (Z Z':ASt):Prop :=
 ∃ g first caps az r,Z.rd f=some (.func (.func g) first caps)/\jL (args.map Z.rd)=some az /\
  ((Ev E.P g (first ++ az ++ caps) [] r []/\r.flat=true/\PV.flats (first ++ az ++ caps)=true/\ASt.put E o.dst r Z=some Z') \/
   (dC E.sy o.dst=true/\∃ h',Ev E.P g (first ++ az ++ caps) Z.h r h'/\EQ E h' Z.h/\ASt.put E o.dst r { Z with h:=h' }=some Z'))
abbrev ul (o:Oper):Option (Operand×List Operand) :=
 match o.op with
 | .call c=>match c.callee with
  | .value f=>some (f,c.args.toList)
  | _=>none
 | _=>none
theorem hk6 {E:AE} {o:Oper} (h:hk E o=6):ul o≠none\/(∃ t a x,o.op = .store t a x/\dC E.mu (zg a)=true)\/(∃ t,o.op = .alloc t/\dC E.ln o.dst=true)\/(∃ t r,o.op = .makeMap t r/\dC E.ln o.dst=true)\/∃ t m k x,o.op = .insert t m k x/\dC E.mu ((zg m).map (6000000 + ·))=true:=by
 obtain ⟨dst,op,type,pos,after,guard⟩:=o;cases op with
 | call c =>
  left;obtain ⟨callee,JJ,ts⟩:=c;cases callee with
  | value f=>simp[ul]
  | builtin b =>cases b<;>simp[hk] at h
  | _=>simp[hk] at h
 | store t a x =>
  right; left;simp only[hk] at h;split at h
  .rename_i hm; exact ⟨t,a,x,rfl,hm⟩
  .omega
 | alloc t =>
  right; right; left;simp only[hk] at h;split at h
  .rename_i hm; exact ⟨t,rfl,hm⟩
  .omega
 | makeMap t r =>
  right; right; right; left;simp only[hk] at h;split at h
  .rename_i hm; exact ⟨t,r,rfl,hm⟩
  .omega
 | insert t m k x =>
  right; right; right; right;simp only[hk] at h;split at h
  .rename_i hm; exact ⟨t,m,k,x,rfl,hm⟩
  .omega
 | load t x =>
  exfalso;simp only[hk] at h;split at h
  .split at h<;>omega
  .split at h<;>omega
 | _=>exfalso; simp only[hk] at h<;>first | omega | (split at h<;>omega)
theorem bMA {E:AE} {o:Oper} {Z Z1:ASt} {p:PV} (h:bY E o Z=some (p,Z1)) (h6:hk E o=6) (hc:ul o=none):EQ E Z1.h Z.h:=by
 have far:∀ {n:Nat},Za E.ln n=true->∀ i,dC E.ln (some (1000000+i))=true->i<n:=fun {n} hro i hi=>by
  have hmi:1000000+i∈E.ln:=by simpa[dC] using hi
  have:=iC.1 hro _ hmi;rw[show Nat.ble 1000000 (1000000+i)=true by rw[QG]; omega,QF] at this;simpa[wz] using this
 rcases hk6 h6 with h' | ⟨t,a,x,hop,hm⟩ | ⟨t,hop,hm⟩ | ⟨t,r,hop,hm⟩ | ⟨t,m,k,x,hop,hm⟩
 .exact absurd hc h'
 case inr.inr.inr.inl =>
  obtain ⟨dst,op,type,pos,after,guard⟩:=o;simp only at hop hm;subst hop;simp only[bY,hm,DC] at h;split at h
  .cases h
  .rename_i hro;split at h
   .cases h;intro i hi;exact lF (far (by simpa using hro) i hi)
   .cases h
 case inr.inr.inr.inr =>
  obtain ⟨dst,op,type,pos,after,guard⟩:=o;simp only at hop hm;subst hop;simp only[bY] at h;split at h
  .cases h
  rename_i hso;unfold Ul at hso;rw[hm] at hso;split at h
  .rename_i s z i q y ht h1 h2 h3;rw[h1] at hso;simp only[y8] at hso;split at h
   .split at h
    .split at h
     .cases h;intro j hj;have hne:i≠j:=fun e=>by subst e; rw[hj] at hso; cases hso
      exact lN hne
     .cases h
    .cases h
   .cases h
  .cases h
 case inr.inr.inl =>
  obtain ⟨dst,op,type,pos,after,guard⟩:=o;simp only at hop hm;subst hop;simp only[bY,hm,DC] at h;split at h
  .cases h
  .rename_i hro;cases ht:ti E.P t with
   | none=>simp[ht] at h
   | some I =>
    simp[ht] at h; obtain ⟨_,rfl⟩:=h;intro i hi;have hmi:1000000+i∈E.ln:=by simpa[dC] using hi
    have hro:Za E.ln Z.h.length=true:=by simpa using hro
    have:=iC.1 hro _ hmi;rw[show Nat.ble 1000000 (1000000+i)=true by rw[QG]; omega,QF] at this;have hlt:i<Z.h.length:=by simpa[wz] using this
    exact lF hlt
 obtain ⟨dst,op,type,pos,after,guard⟩:=o;simp only at hop;subst hop;simp only[bY] at h;split at h
 .cases h
 rename_i hso;cases hI:ti E.P t with
 | none=>simp[hI] at h
 | some I =>
  cases hq:Z.rd a with
  | none=>simp[hI,hq] at h
  | some q =>
   cases hp:Z.ev x with
   | none=>simp[hI,hq,hp] at h
   | some p' =>
    cases dst with
    | some d=>simp[hI,hq,hp] at h
    | none =>
     simp only[hI,hq,hp] at h;cases hst:vG I q p' (Z.clr x) with
     | none=>simp[hst] at h
     | some τ =>
      simp[hst] at h;obtain ⟨_,rfl⟩:=h;have hcl:=(uh Z x).2;unfold PS at hso;rw[hm,hq] at hso;cases q with
      | ptr i off =>
       simp only[y8] at hso;have key:∃ cs,τ.h=(Z.clr x).h.set i cs:=by
        unfold vG at hst;simp only at hst;split at hst
        .split at hst
         .split at hst
          .cases hst; exact ⟨_,rfl⟩
          .cases hst
         .split at hst
          .cases hst; exact ⟨_,rfl⟩
          .cases hst
        .cases hst
       obtain ⟨cs,hk⟩:=key;intro j hj;have hne:i≠j:=fun e=>by subst e; rw[hj] at hso; cases hso
       rw[hk,lN hne,hcl]
      | _=>simp at hso
def Cb (E:AE) (o:Oper) (Z Z':ASt):Prop :=
 match ul o with
 | some (f,args)=>aU4 E o f args Z Z'
 | none=>stepD E o Z Z'
def lQ (E:AE) (ops:Array Oper) (o:Oper) (Z Z':ASt):Prop :=(rJ ops Z o=some true/\Cb E o Z Z')\/(rJ ops Z o=some false/\ASt.put E o.dst (.tuple []) Z=some Z')
section
variable {E:AE} {ops:Array Oper} {o:Oper} {Z Z' τ:ASt}
theorem ZL {d:Option Nat} {p:PV} (h:ASt.put E d p Z=some Z'):Z'.s=uI d p Z.s/\Z'.h=Z.h/\∀ k,d=some k->k<E.n:=by
 cases d with
 | none=>simp[ASt.put] at h; subst h; exact ⟨rfl,rfl,by simp⟩
 | some k =>
  simp only[ASt.put] at h;split at h
  .rename_i hk; cases h; exact ⟨rfl,rfl,fun j e=>by cases e; exact hk⟩
  .cases h
theorem UU {d:Option Nat} {p:PV} (h:∀ k,d=some k->k<E.n):ASt.put E d p Z=some ⟨uI d p Z.s,Z.h⟩:=by
 cases d with
 | none=>rfl
 | some k=>simp only[ASt.put,aJ (h k rfl)]; rfl
theorem a6B {t:Nat} (h:Operand.tmp t∈o.op.operands):t∈o.looksAt ops:=a0A _ (List.mem_filterMap.2 ⟨.tmp t,by simpa using h,rfl⟩)
theorem TC (h:∀ t,t∈o.looksAt ops->bU t τ.s=bU t Z.s):rJ ops τ o=rJ ops Z o:=by
 unfold rJ;cases hg:o.guard with
 | none=>rfl
 | some jw =>
  obtain ⟨j,want⟩:=jw;have:AZ ops τ j=AZ ops Z j:=by
   unfold AZ;cases hd:(ops[j]?).bind (·.dst) with
   | none=>rfl
   | some d=>simp only[h d (aB7 _ (by simp[hg,hd]))]
  simp only[this]
theorem aPU (h:agree o Z.s τ.s) (hs:jQ E o Z):jQ E o τ:=by
 obtain ⟨dst,op,type,pos,after,guard⟩:=o;cases op with
 | call c =>
  obtain ⟨callee,args,ts⟩:=c;have hargs:∀ x,x∈args.toList->x∈(Op.call ⟨callee,args,ts⟩).operands:=fun x hx=>by simp only[Op.operands,Call.operands]; exact Ee.2 (.inr (by simpa using hx))
  simp only[jQ] at hs ⊢;split
  .split
   .rename_i s x h1;rw[NJ h (hargs s (by rw[h1]; simp)),lL h (hargs x (by rw[h1]; simp))];simpa only[h1] using hs
   .trivial
  .trivial
 | _=>trivial
theorem WA (h:lQ E ops o Z Z'):∃ c p,(c=none\/c=mY E o)/\Z'.s=uI o.dst p (wF c Z.s)/\((hk E o=0\/hk E o=1\/hk E o=5)->Z'.h=Z.h)/\(hk E o=3->nD Z'.h=nD Z.h)/\(hk E o=6->EQ E Z'.h Z.h) /\
 ∀ τ:ASt,(∀ t,t∈o.looksAt ops->bU t τ.s=bU t Z.s)->(hk E o=0\/τ.h=Z.h\/(hk E o=1/\nD τ.h=nD Z.h)\/(hk E o=5/\EQ E τ.h Z.h))->∃ τ',lQ E ops o τ τ'/\τ'.s=uI o.dst p (wF c τ.s)/\((hk E o=0\/hk E o=1\/hk E o=5)->τ'.h=τ.h)/\(τ.h=Z.h->τ'.h=Z'.h):=by
 rcases h with ⟨hg,hr⟩ | ⟨hg,hp⟩
 .unfold Cb at hr;cases hc:ul o with
  | some fa =>
   obtain ⟨f,args⟩:=fa;rw[hc] at hr;obtain ⟨g,first,caps,az,r,h1,h2,h3⟩:=hr;have hop:f∈o.op.operands/\∀ x,x∈args->x∈o.op.operands:=by
    obtain ⟨dst,op,type,pos,after,guard⟩:=o;cases op<;>simp[ul] at hc
    rename_i c;obtain ⟨callee,JJ,ts⟩:=c;cases callee<;>simp at hc
    obtain ⟨rfl,rfl⟩:=hc;simp only[Op.operands,Call.operands];exact ⟨Ee.2 (.inl (by simp)),fun x hx=>Ee.2 (.inr (by simpa using hx))⟩
   rcases h3 with ⟨h3,h4,h5,h6⟩ | ⟨hsy,h',h3,hro,h6⟩
   .obtain ⟨p1,p2,p3⟩:=ZL h6;refine ⟨none,r,.inl rfl,p1,fun _=>p2,fun _=>by rw[p2],fun _ i _=>by rw[p2],fun τ ht _=>⟨⟨uI o.dst r τ.s,τ.h⟩,.inl ⟨by rw[TC ht]; exact hg,?_⟩,rfl,fun _=>rfl,fun e=>by rw[p2]; exact e⟩⟩;unfold Cb;rw[hc];have hag:agree o Z.s τ.s:=fun t h=>ht t (a6B h)
    exact ⟨g,first,caps,az,r,by rw[lL hag hop.1]; exact h1,by rw[Md fun x hx=>lL hag (hop.2 x hx)]; exact h2,.inl ⟨h3,h4,h5,UU p3⟩⟩
   .obtain ⟨p1,p2,p3⟩:=ZL h6;have hk2:hk E o=2\/hk E o=6:=by
     obtain ⟨dst,op,type,pos,after,guard⟩:=o;cases op<;>simp[ul] at hc
     rename_i c;obtain ⟨callee,JJ,ts⟩:=c;cases callee<;>simp at hc
     simp only at hsy;simp only[hk,hsy,gV];split
     .exact .inr rfl
     .exact .inl rfl
    refine ⟨none,r,.inl rfl,p1,fun e=>by omega,fun e=>by omega,fun _=>by rw[p2]; exact hro,fun τ ht hh => ?_⟩;have hh':τ.h=Z.h:=by
     rcases hh with h | h | h | h
     .omega
     .exact h
     .omega
     .omega
    refine ⟨⟨uI o.dst r τ.s,h'⟩,.inl ⟨by rw[TC ht]; exact hg,?_⟩,rfl,fun e=>by omega,fun _=>by rw[p2]⟩;unfold Cb;rw[hc];have hag:agree o Z.s τ.s:=fun t h=>ht t (a6B h)
    exact ⟨g,first,caps,az,r,by rw[lL hag hop.1]; exact h1,by rw[Md fun x hx=>lL hag (hop.2 x hx)]; exact h2,.inr ⟨hsy,h',by rw[hh']; exact h3,by rw[hh']; exact hro,UU (Z := { τ with h:=h' }) p3⟩⟩
  | none =>
   rw[hc] at hr;obtain ⟨p,Z1,h1,h2,h3⟩:=hr;obtain ⟨p1,p2,p3⟩:=ZL h3;have hself:=aQD (Z':=Z) h1 (fun _ _=>rfl) (.inr (.inl rfl));obtain ⟨_,_,s1,_,s3,_,s5⟩:=hself;have e5:hk E o=5->Z1.h=Z.h:=fun e=>by rw[(aQC h1 e (Z':=Z) (fun _ _=>rfl) (fun _ _=>rfl)).1]
   refine ⟨mY E o,p,.inr rfl,by rw[p1,s1],fun e=>by
    rw[p2];rcases e with e | e | e
    .exact (s3 (.inl e)).1
    .exact (s3 (.inr e)).1
    .exact e5 e,fun e=>by rw[p2]; exact s5 e,fun e=>by rw[p2]; exact bMA h1 e hc,fun τ ht hh => ?_⟩
   have hag:agree o Z.s τ.s:=fun t h=>ht t (a6B h)
   by_cases h5:hk E o=5
   .have hro:EQ E τ.h Z.h:=by
     rcases hh with h | h | h | h
     .omega
     .intro i _; rw[h]
     .omega
     .exact h.2
    obtain ⟨l0,l1,l2⟩:=aQC h1 h5 hag hro;refine ⟨⟨uI o.dst p τ.s,τ.h⟩,.inl ⟨by rw[TC ht]; exact hg,?_⟩,by rw[l2]; rfl,fun _=>rfl,fun e=>by rw[p2,e5 h5]; exact e⟩;unfold Cb;rw[hc];exact ⟨p,τ,l1,aPU hag h2,UU p3⟩
   have hh3:hk E o=0\/τ.h=Z.h\/(hk E o=1/\nD τ.h=nD Z.h):=by
    rcases hh with h | h | h | h
    .exact .inl h
    .exact .inr (.inl h)
    .exact .inr (.inr h)
    .exact absurd h.1 h5
   obtain ⟨τ1,l1,l2,l3,l4,l5,_⟩:=aQD h1 hag hh3;refine ⟨⟨uI o.dst p τ1.s,τ1.h⟩,.inl ⟨by rw[TC ht]; exact hg,?_⟩,by simp only[l3],fun e=>by
    rcases e with e | e | e
    .exact (l4 (.inl e)).2
    .exact (l4 (.inr e)).2
    .exact absurd e h5,fun e=>by rw[p2]; exact l5 e⟩
   unfold Cb;rw[hc];exact ⟨p,τ1,l1,aPU hag h2,UU p3⟩
 .obtain ⟨p1,p2,p3⟩:=ZL hp;exact ⟨none,.tuple [],.inl rfl,p1,fun _=>p2,fun _=>by rw[p2],fun _ i _=>by rw[p2],fun τ ht _=>⟨⟨uI o.dst (.tuple []) τ.s,τ.h⟩,.inr ⟨by rw[TC ht]; exact hg,UU p3⟩,rfl,fun _=>rfl,fun e=>by rw[p2]; exact e⟩⟩
theorem lQ.gu (h:lQ E ops o Z Z') (hs:jE Z.s):jE Z'.s:=by obtain ⟨c,p,_,e,_⟩:=WA h;rw[e]; exact Ff (H8 hs)
def writes (E:AE) (o:Oper):List Nat:=o.dst.toList ++ (mY E o).toList
def aJI (a b:Nat):Bool:=a==0||b==0||(a==1&&b==1)||(a==1&&b==3)||(a==3&&b==1)||(a==5&&(b==1||b==5||b==6))||(b==5&&(a==1||a==6))
def TP (o:Oper):Option ByteArray:=match o.op,o.dst,o.guard with
 | .insert _ _ (.const (.string k)) _,none,none=>some k
 | _,_,_=>none
def a4P (x y:Oper):Bool:=match TP x,TP y with
 | some a,some b => !(a.data.toList==b.data.toList)
 | _,_=>false
def a1J (E:AE) (ops:Array Oper) (x y:Oper):Bool :=(writes E x).all (fun d => !(y.looksAt ops).contains d && !(writes E y).contains d)&&(writes E y).all (fun d => !(x.looksAt ops).contains d)&&aJI (hk E x) (hk E y)
def JK (E:AE) (ops:Array Oper) (x y:Oper):Bool:=a1J E ops x y||a4P x y
theorem aCW:∀ {a b c:bSI},Df a b=true->Df b c=true->Df a c=true
 | [],[],_,h,_=>by cases h
 | [],_::_,[],_,h=>by cases h
 | [],_::_,_::_,_,_=>rfl
 | _::_,[],_,h,_=>by cases h
 | _::_,_::_,[],_,h=>by cases h
 | a::az,b::bs,c::cs,h1,h2=>by
  simp only[Df,y9,au,wz,Iz] at h1 h2 ⊢;rcases h1 with h1 | ⟨h1,h1'⟩<;>rcases h2 with h2 | ⟨h2,h2'⟩
  .left; omega
  .left; omega
  .left; omega
  .right; exact ⟨by omega,aCW h1' h2'⟩
theorem a0X:∀ {a b:bSI},a≠b->Df b a = !Df a b
 | [],[],h=>absurd rfl h
 | [],_::_,_=>rfl
 | _::_,[],_=>rfl
 | a::az,b::bs,h=>by
  simp only[Df];rcases Nat.lt_trichotomy a.toNat b.toNat with hl | he | hg
  .rw[show Nat.blt a.toNat b.toNat=true by rw[wz]; exact hl,show Nat.blt b.toNat a.toNat=false by rw[<- a05,wz]; omega,show Nat.beq b.toNat a.toNat=false by rw[<- a05,Iz]; omega]; rfl
  .have hab:a=b:=UInt8.toNat_inj.1 he;subst hab;have hn:az≠bs:=fun e=>h (by rw[e])
   rw[show Nat.blt a.toNat a.toNat=false by rw[<- a05,wz]; omega,show Nat.beq a.toNat a.toNat=true by rw[Iz],a0X hn]; rfl
  .rw[show Nat.blt a.toNat b.toNat=false by rw[<- a05,wz]; omega,show Nat.blt b.toNat a.toNat=true by rw[wz]; exact hg,show Nat.beq a.toNat b.toNat=false by rw[<- a05,Iz]; omega]; rfl
section
variable {a b:ByteArray} {x y:PV}
def vg:bSH->Prop
 | k::_::L=>(∃ c,k = .str c)/\vg L
 | []=>True
 | [_]=>False
theorem a0R:∀ {L:bSH},qB none L (.str a)=true↔vg L
 | []=>⟨fun _=>trivial,fun _=>rfl⟩
 | [_]=>⟨fun h=>(by simp[qB] at h),fun h=>h.elim⟩
 | k::v::L=>by rw[qB,au,vg,a0R (L:=L)];refine and_congr ⟨fun h => ?_,fun ⟨c,hc⟩=>by subst hc; rfl⟩ Iff.rfl;cases k<;>first | exact ⟨_,rfl⟩ | (simp[eqK] at h)
theorem a4K (hab:a.data.toList≠b.data.toList):∀ {L:bSH},vg L->qX none (mg none L (.str a) x) (.str b)=qX none L (.str b)
 | [],_=>rfl
 | [_],h=>h.elim
 | k::v::L,⟨⟨c,hc⟩,h⟩=>by
  subst hc;simp only[mg,eqK];by_cases hac:a.data.toList=c.data.toList
  .rw[show (a.data.toList==c.data.toList)=true by rw[oN]; exact hac];simp only[qX,eqK];rw[hac]
  .rw[show (a.data.toList==c.data.toList)=false from vU.2 hac];simp only[qX,eqK];rw[a4K hab h]
theorem a4J (hab:a.data.toList≠b.data.toList):∀ {L:bSH},vg L->qX none (o8 L (.str a) x) (.str b)=qX none L (.str b)
 | [],_=>by simp only[o8,qX,eqK];rw[show (b.data.toList==a.data.toList)=false from vU.2 (Ne.symm hab)]
 | [_],h=>h.elim
 | k::v::L,⟨⟨c,hc⟩,h⟩=>by
  subst hc;simp only[o8];cases nO (.str a) (.str c) with
  | true =>simp only[qX,eqK];rw[show (b.data.toList==a.data.toList)=false from vU.2 (Ne.symm hab)]
  | false =>simp only[qX];rw[a4J hab h]
theorem aMR (hab:a.data.toList≠b.data.toList):∀ {L:bSH},vg L->mg none (mg none L (.str a) x) (.str b) y=mg none (mg none L (.str b) y) (.str a) x
 | [],_=>rfl
 | [_],h=>h.elim
 | k::v::L,⟨⟨c,hc⟩,h⟩=>by
  subst hc;by_cases hac:a.data.toList=c.data.toList
  .have hbc:(b.data.toList==c.data.toList)=false:=vU.2 fun e=>hab (hac.trans e.symm)
   have hba:(b.data.toList==a.data.toList)=false:=vU.2 (Ne.symm hab);simp only[mg,eqK,show (a.data.toList==c.data.toList)=true by rw[oN]; exact hac,hbc,hba]
  .have Jk:(a.data.toList==c.data.toList)=false:=vU.2 hac;by_cases hbc:b.data.toList=c.data.toList
   .have hab':(a.data.toList==b.data.toList)=false:=vU.2 hab;simp only[mg,eqK,Jk,show (b.data.toList==c.data.toList)=true by rw[oN]; exact hbc,hab']
   .have bCE:(b.data.toList==c.data.toList)=false:=vU.2 hbc;simp only[mg,eqK,Jk,bCE,aMR hab h]
theorem a6H (hab:a.data.toList≠b.data.toList):∀ {L:bSH},vg L->qX none L (.str a)=true->o8 (mg none L (.str a) x) (.str b) y=mg none (o8 L (.str b) y) (.str a) x
 | [],_,h=>by cases h
 | [_],h,_=>h.elim
 | k::v::L,⟨⟨c,hc⟩,h⟩,hh=>by
  subst hc;have hab':(a.data.toList==b.data.toList)=false:=vU.2 hab;by_cases hac:a.data.toList=c.data.toList
  .have hl:nO (.str b) (.str a)=nO (.str b) (.str c):=by simp only[nO,hac]
   simp only[mg,eqK,show (a.data.toList==c.data.toList)=true by rw[oN]; exact hac,o8,hl];cases nO (.str b) (.str c) with
   | true=>simp only[mg,eqK,hab',show (a.data.toList==c.data.toList)=true by rw[oN]; exact hac]
   | false=>simp only[mg,eqK,show (a.data.toList==c.data.toList)=true by rw[oN]; exact hac]
  .have Jk:(a.data.toList==c.data.toList)=false:=vU.2 hac;simp only[qX,eqK,Jk] at hh;simp only[mg,eqK,Jk,o8];cases nO (.str b) (.str c) with
   | true=>simp only[mg,eqK,hab',Jk]
   | false=>simp only[mg,eqK,Jk,a6H hab h hh]
theorem aJX (hab:a.data.toList≠b.data.toList):∀ {L:bSH},vg L->o8 (o8 L (.str a) x) (.str b) y=o8 (o8 L (.str b) y) (.str a) x
 | [],_=>by have ht:nO (.str b) (.str a) = !nO (.str a) (.str b):=a0X hab;simp only[o8,ht];cases nO (.str a) (.str b)<;>rfl
 | [_],h=>h.elim
 | k::v::L,⟨⟨c,hc⟩,h⟩=>by
  subst hc;have ht:nO (.str b) (.str a) = !nO (.str a) (.str b):=a0X hab;have tr:∀ {p q r:ByteArray},nO (.str p) (.str q)=true->nO (.str q) (.str r)=true->nO (.str p) (.str r)=true:=fun h1 h2=>aCW h1 h2
  cases ha:nO (.str a) (.str c) with
  | true =>
   cases hb:nO (.str b) (.str c) with
   | true =>simp only[o8,ha,hb,ht];cases nO (.str a) (.str b)<;>simp
   | false =>
    have hn:nO (.str b) (.str a)=false:=by
     cases hh:nO (.str b) (.str a) with
     | false=>rfl
     | true=>rw[tr hh ha] at hb; cases hb
    simp only[o8,ha,hb,hn]
  | false =>
   cases hb:nO (.str b) (.str c) with
   | true =>
    have hn:nO (.str a) (.str b)=false:=by
     cases hh:nO (.str a) (.str b) with
     | false=>rfl
     | true=>rw[tr hh hb] at ha; cases ha
    simp only[o8,ha,hb,hn]
   | false=>simp only[o8,ha,hb,aJX hab h]
theorem bK9 (hab:a.data.toList≠b.data.toList) {L:bSH} (h:vg L):jO none (jO none L (.str a) x) (.str b) y=jO none (jO none L (.str b) y) (.str a) x:=by
 unfold jO;cases ha:qX none L (.str a)<;>cases hb:qX none L (.str b)<;>simp only[a4K hab h,a4J hab h,a4K (Ne.symm hab) h,a4J (Ne.symm hab) h,ha,hb]
 .exact aJX hab h
 .exact (a6H (Ne.symm hab) h hb).symm
 .exact a6H hab h ha
 .exact aMR hab h
theorem aMP:∀ {L:bSH},vg L->vg (mg none L (.str a) x)
 | [],_=>trivial
 | [_],h=>h.elim
 | k::v::L,⟨⟨c,hc⟩,h⟩=>by
  subst hc;simp only[mg,eqK];split
  .exact ⟨⟨_,rfl⟩,h⟩
  .exact ⟨⟨_,rfl⟩,aMP h⟩
theorem aJW:∀ {L:bSH},vg L->vg (o8 L (.str a) x)
 | [],_=>⟨⟨_,rfl⟩,trivial⟩
 | [_],h=>h.elim
 | k::v::L,⟨⟨c,hc⟩,h⟩=>by
  subst hc;simp only[o8];cases nO (.str a) (.str c) with
  | true=>exact ⟨⟨_,rfl⟩,⟨_,rfl⟩,h⟩
  | false=>exact ⟨⟨_,rfl⟩,aJW h⟩
theorem bK7 {L:bSH} (h:vg L):vg (jO none L (.str a) x):=by
 unfold jO;split
 .exact aMP h
 .exact aJW h
end
theorem bD4 {o:Oper} {k:ByteArray} (h:TP o=some k):∃ t m v,o.op = .insert t m (.const (.string k)) v/\o.dst=none/\o.guard=none:=by
 unfold TP at h;split at h
 .rename_i t m k' v h1 h2 h3; cases h; exact ⟨t,m,v,h1,h2,h3⟩
 .cases h
theorem OD {o:Oper} {k:ByteArray} (hk:TP o=some k):lQ E ops o Z Z'↔∃ t m v,o.op = .insert t m (.const (.string k)) v/\∃ i q cs b L z,Ul E.mu E.ln (zg m) (Z.rd m)=true/\CB E.P t=some (none,z)/\Z.rd m=some (.cZ 0 i)/\Z.rd v=some q/\Z.h[i]? = some (some cs)/\Af cs=some (b,L)/\vg L/\(!b||q.flat)=true /\
 Z' = { Z with h:=Z.h.set i (some [nP b (jO none L (.str k) q)]) }:=by
 obtain ⟨t,m,v,h1,h2,h3⟩:=bD4 hk;obtain ⟨dst,op,type,pos,after,guard⟩:=o;simp only at h1 h2 h3;subst h1; subst h2; subst h3;have hc:ul ⟨none,Op.insert t m (.const (.string k)) v,type,pos,after,none⟩=none:=rfl;have hr:Z.rd (.const (.string k))=some (.str k):=rfl;constructor
 .rintro (⟨_,h⟩ | ⟨h,_⟩)
  .unfold Cb at h;rw[hc] at h;obtain ⟨p,Z1,hs,_,hp⟩:=h;simp only[ASt.put,zA] at hp;subst hp;simp only[bY] at hs;split at hs
   .cases hs
   rename_i hso;split at hs
   .rename_i s z i q y ht g1 gk g3 gd;rw[hr] at gk;cases gk;split at hs
    .rename_i cs hcs;split at hs
     .rename_i b L hin;split at hs
      .rename_i hik;cases hs;simp only[au] at hik;have hsn:s=none:=by
        cases s with
        | none=>rfl
        | some kd=>have:=hik.1; simp[yM] at this
       subst hsn;exact ⟨t,m,v,rfl,i,y,cs,b,L,z,hso,ht,g1,g3,hcs,hin,a0R.1 hik.2.1,hik.2.2,rfl⟩
      .cases hs
     .cases hs
    .cases hs
   .cases hs
  .simp[rJ] at h
 .rintro ⟨t',m',v',e,i,q,cs,b,L,z,hso,ht,g1,g3,hcs,hin,hal,hfl,rfl⟩;cases e;refine .inl ⟨rfl,?_⟩;unfold Cb;rw[hc];refine ⟨.tuple [],{ Z with h:=Z.h.set i (some [nP b (jO none L (.str k) q)]) },?_,trivial,rfl⟩;rw[g1] at hso;simp only[bY,hso,ht,g1,hr,g3,hcs,hin,yM,(a0R (a:=k)).2 hal,hfl,yw]
theorem aMD {b:Bool} {L:bSH}:Af [nP b L]=some (b,L):=by cases b<;>rfl
theorem aUY {x y:Oper} {Z1 Z2:ASt} (h1:lQ E ops x Z Z1) (h2:lQ E ops y Z1 Z2) (hc:a4P x y=true):∃ τ,lQ E ops y Z τ/\lQ E ops x τ Z2:=by
 unfold a4P at hc;split at hc
 .rename_i a b hx hy;have hab:a.data.toList≠b.data.toList:=by simpa using hc
  obtain ⟨t,m,v,e1,i,q,cs,b1,L,z,s1,s2,s3,s4,s5,s6,s7,s8,rfl⟩:=(OD hx).1 h1;obtain ⟨t',m',v',e2,j,q',cs',b2,L',z',u1,u2,u3,u4,u5,u6,u7,u8,rfl⟩:=(OD hy).1 h2;have u1:Ul E.mu E.ln (zg m') (Z.rd m')=true:=u1;have u3:Z.rd m'=some (.cZ 0 j):=u3;have u4:Z.rd v'=some q':=u4;have u5:(Z.h.set i (some [nP b1 (jO none L (.str a) q)]))[j]? = some (some cs'):=u5;by_cases hij:i=j
  .subst hij;have hlt:i<Z.h.length:=(eP.1 s5).1;rw[ql hlt] at u5;injection u5 with u5; injection u5 with u5; subst u5
   rw[aMD] at u6;injection u6 with u6; injection u6 with u6a u6b
   subst u6a; subst u6b;refine ⟨{ Z with h:=Z.h.set i (some [nP b1 (jO none L (.str b) q')]) },(OD hy).2 ⟨t',m',v',e2,i,q',cs,b1,L,z',u1,u2,u3,u4,s5,s6,s7,u8,rfl⟩,(OD hx).2 ⟨t,m,v,e1,i,q,[nP b1 (jO none L (.str b) q')],b1,jO none L (.str b) q',z,s1,s2,s3,s4,?_,aMD,bK7 s7,s8,?_⟩⟩
   .exact ql hlt
   .show ASt.mk Z.s ((Z.h.set i _).set i _)=ASt.mk Z.s ((Z.h.set i _).set i _);rw[List.set_set,List.set_set,bK9 hab s7]
  .rw[lN hij] at u5;refine ⟨{ Z with h:=Z.h.set j (some [nP b2 (jO none L' (.str b) q')]) },(OD hy).2 ⟨t',m',v',e2,j,q',cs',b2,L',z',u1,u2,u3,u4,u5,u6,u7,u8,rfl⟩,(OD hx).2 ⟨t,m,v,e1,i,q,cs,b1,L,z,s1,s2,s3,s4,?_,s6,s7,s8,?_⟩⟩
   .show (Z.h.set j _)[i]? = _;rw[lN (Ne.symm hij)]; exact s5
   .show ASt.mk Z.s ((Z.h.set i _).set j _)=ASt.mk Z.s ((Z.h.set j _).set i _);rw[List.set_comm _ _ hij]
 .cases hc
theorem aUX {x y:Oper} {Z1 Z2:ASt} (hs:jE Z.s) (h1:lQ E ops x Z Z1) (h2:lQ E ops y Z1 Z2) (hc:a1J E ops x y=true):∃ τ,lQ E ops y Z τ/\lQ E ops x τ Z2:=by
 unfold a1J at hc;simp only[au,iC,y8,List.contains_eq_mem,QL] at hc;obtain ⟨⟨hw1,hw2⟩,hh⟩:=hc;obtain ⟨c1,p1,k1,e1,a1,b1,r1,t1⟩:=WA h1;obtain ⟨c2,p2,k2,e2,a2,b2,r2,t2⟩:=WA h2;have wr:∀ {o:Oper} {c:Option Nat} {k:Nat},(c=none\/c=mY E o)->c=some k->k∈writes E o:=fun hk e=>by
  rcases hk with h | h
  .rw[h] at e; cases e
  .exact aB7 _ (by rw[<- h,e]; simp)
 have wd:∀ {o:Oper} {k:Nat},o.dst=some k->k∈writes E o:=fun e=>a0A _ (by rw[e]; simp)
 have hsame:∀ {o:Oper} {c:Option Nat} {p:PV} {s:fH} {t:Nat},jE s->(c=none\/c=mY E o)->t∉writes E o->bU t (uI o.dst p (wF c s))=bU t s:=fun hs hk ht=>by rw[Uj (H8 hs),aK (fun e=>ht (wd e)),Ui hs,aK (fun e=>ht (wr hk e))]
 unfold aJI at hh;simp only[y9,au,oN] at hh;have hheap:hk E y=0\/Z.h=Z1.h\/(hk E y=1/\nD Z.h=nD Z1.h)\/(hk E y=5/\EQ E Z.h Z1.h):=by
  rcases hh with (((((h | h) | h) | h) | h) | h) | h
  .exact .inr (.inl (a1 (.inl h)).symm)
  .exact .inl h
  .exact .inr (.inl (a1 (.inr (.inl h.1))).symm)
  .exact .inr (.inl (a1 (.inr (.inl h.1))).symm)
  .exact .inr (.inr (.inl ⟨h.2,(b1 h.1).symm⟩))
  .exact .inr (.inl (a1 (.inr (.inr h.1))).symm)
  .rcases h.2 with h2 | h2
   .exact .inr (.inl (a1 (.inr (.inl h2))).symm)
   .exact .inr (.inr (.inr ⟨h.1,fun i hi=>(r1 h2 i hi).symm⟩))
 obtain ⟨τ,y1,y2,y3,y4⟩:=t2 Z (fun t ht=>by rw[e1,hsame hs k1 fun hw=>(hw1 t hw).1 ht]) hheap;have hy:=WA y1;obtain ⟨_,_,_,_,ya,yb,yr,_⟩:=hy;have bCL:hk E x=0\/τ.h=Z.h\/(hk E x=1/\nD τ.h=nD Z.h)\/(hk E x=5/\EQ E τ.h Z.h):=by
  rcases hh with (((((h | h) | h) | h) | h) | h) | h
  .exact .inl h
  .exact .inr (.inl (ya (.inl h)))
  .exact .inr (.inl (ya (.inr (.inl h.2))))
  .exact .inr (.inr (.inl ⟨h.1,yb h.2⟩))
  .exact .inr (.inl (ya (.inr (.inl h.2))))
  .rcases h.2 with (h2 | h2) | h2
   .exact .inr (.inl (ya (.inr (.inl h2))))
   .exact .inr (.inl (ya (.inr (.inr h2))))
   .exact .inr (.inr (.inr ⟨h.1,yr h2⟩))
  .exact .inr (.inl (ya (.inr (.inr h.1))))
 obtain ⟨τ',x1,x2,x3,x4⟩:=t1 τ (fun t ht=>by rw[y2,hsame hs k2 fun hw=>hw2 t hw ht]) bCL;refine ⟨τ,y1,?_⟩;have aJN:τ'.s=Z2.s:=by rw[x2,y2,e2,e1];exact aV5 hs (fun k e=>⟨fun e'=>(hw1 k (wd e)).2 (wd e'),fun e'=>(hw1 k (wd e)).2 (wr k2 e')⟩) (fun k e=>⟨fun e'=>(hw1 k (wr k1 e)).2 (wd e'),fun e'=>(hw1 k (wr k1 e)).2 (wr k2 e')⟩)
 have aJH:τ'.h=Z2.h:=by
  rcases hh with (((((h | h) | h) | h) | h) | h) | h
  .rw[x3 (.inl h)]; exact y4 (a1 (.inl h)).symm
  .rw[x4 (ya (.inl h)),a2 (.inl h)]
  .rw[x4 (ya (.inr (.inl h.2))),a2 (.inr (.inl h.2))]
  .rw[x3 (.inr (.inl h.1))]; exact y4 (a1 (.inr (.inl h.1))).symm
  .rw[x4 (ya (.inr (.inl h.2))),a2 (.inr (.inl h.2))]
  .rw[x3 (.inr (.inr h.1))]; exact y4 (a1 (.inr (.inr h.1))).symm
  .rw[x4 (ya (.inr (.inr h.1))),a2 (.inr (.inr h.1))]
 have:τ'=Z2:=by cases τ'; cases Z2; simp only at aJN aJH; rw[aJN,aJH]
 rw[<- this]; exact x1
theorem aDI {x y:Oper} {Z1 Z2:ASt} (hs:jE Z.s) (h1:lQ E ops x Z Z1) (h2:lQ E ops y Z1 Z2) (hc:JK E ops x y=true):∃ τ,lQ E ops y Z τ/\lQ E ops x τ Z2:=by
 unfold JK at hc;rcases Bool.or_eq_true_iff.1 hc with hc | hc
 .exact aUX hs h1 h2 hc
 .exact aUY h1 h2 hc
def Chain (E:AE) (ops:Array Oper):List Nat->ASt->ASt->Prop
 | [],Z,Z'=>Z=Z'
 | i::l,Z,Z'=>∃ o,ops[i]? = some o/\∃ Z1,lQ E ops o Z Z1/\Chain E ops l Z1 Z'
theorem aD9 {i:Nat} {oi:Oper} (hi:ops[i]? = some oi):∀ (p q:List Nat) {Z Z':ASt},jE Z.s->Chain E ops (p ++ i::q) Z Z'->(∀ k,k∈p->∀ ok,ops[k]? = some ok->JK E ops ok oi=true)->∃ Z1,lQ E ops oi Z Z1/\Chain E ops (p ++ q) Z1 Z'
 | [],q,Z,Z',hs,h,_=>by obtain ⟨o,ho,Z1,h1,h2⟩:=h;rw[hi] at ho; cases ho;exact ⟨Z1,h1,h2⟩
 | k::p,q,Z,Z',hs,h,hc=>by
  obtain ⟨o,ho,Z1,h1,h2⟩:=h;obtain ⟨Z2,h3,h4⟩:=aD9 hi p q (h1.gu hs) h2 fun k hk=>hc k (by simp[hk])
  obtain ⟨τ,d1,d2⟩:=aDI hs h1 h3 (hc k (by simp) o ho);exact ⟨τ,d1,o,ho,Z2,d2,h4⟩
def aCG (acc:List Nat) (o:Oper):Nat:=o.after.toList.foldl (fun s e=>if Region.binds .any e then s ||| (2 ^ e.on ||| acc.getD e.on 0) else s) 0
def Gv:List Nat->List Oper->List Nat
 | acc,[]=>acc
 | acc,o::l=>Gv (acc ++ [aCG acc o]) l
def Closed (ops:Array Oper) (L:Nat->Prop):Prop:=∀ (j:Nat) o,ops[j]? = some o->L j->∀ e,e∈o.after->Region.binds .any e=true->L e.on
theorem aSM {acc:List Nat} {o:Oper} {k:Nat} (h:(aCG acc o).testBit k=true):∃ e,e∈o.after/\Region.binds .any e=true/\(k=e.on\/(acc.getD e.on 0).testBit k=true):=by
 have key:∀ (l:List Edge) (s:Nat),(l.foldl (fun s e=>if Region.binds .any e then s ||| (2 ^ e.on ||| acc.getD e.on 0) else s) s).testBit k=true->s.testBit k=true\/∃ e,e∈l/\Region.binds .any e=true/\(k=e.on\/(acc.getD e.on 0).testBit k=true):=by
  intro l;induction l with
  | nil=>intro s h; exact .inl h
  | cons e l ih =>
   intro s h;rw[List.foldl_cons] at h;rcases ih _ h with h1 | ⟨e',h1,h2⟩
   .split at h1
    .rename_i hb;rw[Nat.testBit_or,Nat.testBit_or] at h1;simp only[y9] at h1;rcases h1 with h1 | h1 | h1
     .exact .inl h1
     .refine .inr ⟨e,by simp,hb,.inl ?_⟩;rw[Nat.testBit_two_pow] at h1; exact (qo h1).symm
     .exact .inr ⟨e,by simp,hb,.inr h1⟩
    .exact .inl h1
   .exact .inr ⟨e',by simp[h1],h2⟩
 rcases key o.after.toList 0 h with h1 | ⟨e,h1,h2⟩
 .simp at h1
 .exact ⟨e,by simpa using h1,h2⟩
def a0G (ops:Array Oper) (acc:List Nat):Prop:=∀ (j:Nat) o,j<acc.length->ops[j]? = some o->∀ L,Closed ops L->(∀ e,e∈o.after->Region.binds .any e=true->L e.on)->∀ k,(acc.getD j 0).testBit k=true->L k
theorem aCH {ops:Array Oper}:∀ (l:List Oper) (acc:List Nat),a0G ops acc->(∀ j,l[j]? = ops[acc.length+j]?)->a0G ops (Gv acc l)
 | [],acc,h,_=>h
 | o::l,acc,h,hl=>by
  rw[Gv];have ho:ops[acc.length]? = some o:=by have:=hl 0; simpa using this.symm
  refine aCH l _ (fun j o' hj ho' L hL hd k hk => ?_) (fun j=>by have:=hl (j+1); simpa[a0D,VR 1 j] using this);rcases lq j acc.length with hlt | hge
  .refine h j o' hlt ho' L hL hd k ?_;rwa [QB,lF hlt,<- QB] at hk
  .have hje:j=acc.length:=by simp at hj; omega
   subst hje;rw[ho] at ho'; cases ho';rw[QB,vO (bW _)] at hk;simp at hk;obtain ⟨e,he,hb,hkk⟩:=aSM hk;rcases hkk with rfl | hkk
   .exact hd e he hb
   .have hle:=hd e he hb;rcases lq e.on acc.length with h1 | h1
    .cases hoe:ops[e.on]? with
     | none =>have h2:=(wu.1 ho).1;rw[Array.getElem?_eq_none_iff] at hoe; omega
     | some oe=>exact h e.on oe h1 hoe L hL (hL e.on oe hoe hle) k (by simpa using hkk)
    .rw[QB,ww h1] at hkk; simp at hkk
def okD (E:AE) (ops:Array Oper):Bool :=
 let A:=Gv [] ops.toList
 (List.range ops.size).all fun j=>match ops[j]? with
  | some oj=>oj.after.toList.all (fun e => !Region.binds .any e||decide (e.on<j))&&(List.range j).all fun i=>match ops[i]? with
   | some oi=>(A.getD j 0).testBit i||JK E ops oi oj
   | none=>true
  | none=>true
theorem bHK (h:okD E ops=true):(∀ (j:Nat) o,ops[j]? = some o->∀ e,e∈o.after->Region.binds .any e=true->e.on<j) /\
 ∀ (i j:Nat) oi oj,i<j->ops[i]? = some oi->ops[j]? = some oj->∀ L,Closed ops L->(∀ e,e∈oj.after->Region.binds .any e=true->L e.on)->¬ L i->JK E ops oi oj=true:=by
 unfold okD at h;simp only[iC,DJ] at h;have hA:a0G ops (Gv [] ops.toList):=aCH ops.toList [] (fun j o hj=>by simp at hj) (fun j=>by simp);have hlen:∀ (l:List Oper) (acc:List Nat),(Gv acc l).length=acc.length+l.length:=by
  intro l;induction l with
  | nil=>intro acc; simp[Gv]
  | cons o l ih=>intro acc; rw[Gv,ih]; simp; omega
 constructor
 .intro j o ho e he hb;have:=h j (wu.1 ho).1;simp only[ho,au,iC] at this;have:=this.1 e (by simpa using he);simpa[hb] using this
 .intro i j oi oj hij hi hj L hL hd hn;have hjs:=(wu.1 hj).1;have:=h j hjs;simp only[hj,au,iC,DJ] at this;have:=this.2 i hij;simp only[hi,y9] at this;rcases this with h1 | h1
  .exact absurd (hA j oj (by rw[hlen]; simpa using hjs) hj L hL hd i h1) hn
  .exact h1
theorem aIX {out:Nat->Nat} {M:Mem} {B:aV} {a:Act} {w:World} (hI:Inv E.n M B out Z a.tmps w) {b:Bool} (h:rJ ops Z o=some b):Region.wanted o (yielded ops a.tmps)=b:=by
 unfold rJ at h;unfold Region.wanted;cases hg:o.guard with
 | none=>rw[hg] at h; simpa using h
 | some jw =>
  obtain ⟨j,want⟩:=jw;rw[hg] at h;cases hv:AZ ops Z j with
  | none=>simp[hv] at h
  | some x=>simp[hv] at h; simp only; rw[E8 hI hv]; exact h
theorem aR8 {out:Nat->Nat} {M:Mem} {B:aV} {a:Act} {w:World} (hI:Inv E.n M B out Z a.tmps w) {i:Nat} (hi:ops[i]? = some o) (h:lQ E ops o Z Z') {K:Act->World->Prop} {Q:Exit->Act->World->Prop}
 (hK:∀ v M' B' w',Good E.n out M B Z a.tmps w M' B' Z' (a.put o.dst v).tmps w'->K (a.put o.dst v) w'):wpOp E.P ops Q i K a w:=by
 unfold wpOp;simp only[hi];rcases h with ⟨hg,hr⟩ | ⟨hg,hp⟩
 .rw[aJ (aIX hI hg)];refine .inl ?_;unfold Cb at hr;cases hc:ul o with
  | some fa =>
   obtain ⟨f,args⟩:=fa;rw[hc] at hr;obtain ⟨g,first,caps,az,r,h1,h2,h3⟩:=hr;refine WG (K:=fun τ=>τ=Z') hI ?_ fun v τ M' B' w' e hG=>by subst e; exact hK v M' B' w' hG
   unfold xI;obtain ⟨dst,op,type,pos,after,guard⟩:=o;cases op<;>simp[ul] at hc
   rename_i c;obtain ⟨callee,JJ,ts⟩:=c;cases callee<;>simp at hc
   obtain ⟨rfl,rfl⟩:=hc;simp only[h1,h2];rcases h3 with ⟨h3,h4,h5,h6⟩ | ⟨_,h',h3,_,h6⟩
   .refine ⟨r,Z.h,h3.frame' h4 h5 _,?_⟩;unfold ig;simp only at h6;simp only[h6]
   .refine ⟨r,h',h3,?_⟩;unfold ig;simp only at h6;simp only[h6]
  | none =>
   rw[hc] at hr;obtain ⟨p,Z1,h1,h2,h3⟩:=hr;refine aQ9 (K:=fun τ=>τ=Z') hI ?_ fun v τ M' B' w' e hG=>by subst e; exact hK v M' B' w' hG
   unfold yX;rw[h1];refine ⟨h2,?_⟩;unfold ig;rw[h3]
 .rw[aK (by rw[aIX hI hg]; simp)];exact hK undef M B w (Zi hI hp)
def oH (n:Nat) (L:Array Bool):List Nat:=(List.range n).filter fun i => !L.getD i true
theorem KJ {n:Nat} {L:Array Bool} {i:Nat}:i∈oH n L↔i<n/\L.getD i true=false:=by unfold oH; rw[List.mem_filter,DJ]; simp
theorem bO8 {n:Nat} {L:Array Bool} {i:Nat} (hL:L.size=n) (hi:i<n) (hu:L.getD i true=false):∃ p q,oH n L=p ++ i::q/\oH n (L.setIfInBounds i true)=p ++ q/\∀ k,k∈p->k<i:=by
 have hr:List.range n=List.range i ++ i::(List.range' (i+1) (n-i-1)):=by
  have:n=i+(n-i-1+1):=by omega
  rw[aB9,aB9,this,<- List.range'_append_1,a0B];simp
 have hne:∀ j,j≠i->(L.setIfInBounds i true).getD j true=L.getD j true:=fun j h=>by simp[aRC (Ne.symm h)]
 have heq:(L.setIfInBounds i true).getD i true=true:=by simp[hL,hi]
 refine ⟨(List.range i).filter fun i => !L.getD i true,(List.range' (i+1) (n-i-1)).filter fun i => !L.getD i true,?_,?_,fun k hk => ?_⟩
 .unfold oH; rw[hr,List.filter_append,aB5,hu]; simp
 .unfold oH; rw[hr,List.filter_append,aB5,heq];simp only[nG,uP,tX];congr 1
  .exact List.filter_congr fun j hj=>by rw[hne j (by have:=DJ.1 hj; omega)]
  .exact List.filter_congr fun j hj=>by rw[hne j (by have:=(List.mem_range'_1.1 hj).1; omega)]
 .rw[List.mem_filter,DJ] at hk; exact hk.1
theorem aCJ (hok:okD E ops=true) {out:Nat->Nat} {Q:Exit->Act->World->Prop}:∀ (fuel:Nat) (L:Array Bool) {M:Mem} {B:aV} {Z:ASt} {a:Act} {w:World} {K:ASt->Prop} {Z':ASt},L.size=ops.size->(oH ops.size L).length=fuel->Closed ops (fun i=>L.getD i false=true) ->
 Inv E.n M B out Z a.tmps w->Chain E ops (oH ops.size L) Z Z'->K Z' ->
 (∀ M' B' a' w',K Z'->Good E.n out M B Z a.tmps w M' B' Z' a'.tmps w'->a'.defers=a.defers->Q .normal a' w')->wpAny E.P .any ops Q fuel L a w:=by
 obtain ⟨hback,hcomm⟩:=bHK hok;have bCS:∀ (L:Array Bool),L.size=ops.size->Region.ready .any ops L = []->oH ops.size L = []:=by
  intro L hL h;cases hu:oH ops.size L with
  | nil=>rfl
  | cons i l =>
   exfalso;have him:i∈oH ops.size L:=by rw[hu]; simp
   obtain ⟨h1,h2⟩:=KJ.1 him;have ho:ops[i]? = some ops[i]:=Array.getElem?_eq_getElem h1;have hmin:∀ k,k<i->L.getD k true=true:=fun k hk=>by
    cases hv:L.getD k true with
    | true=>rfl
    | false =>
     have YT:k∈oH ops.size L:=KJ.2 ⟨by omega,hv⟩;have hsrt:(oH ops.size L).Pairwise (· < ·):=List.Pairwise.sublist List.filter_sublist List.pairwise_lt_range;rw[hu] at YT hsrt;rcases iQ.1 YT with e | hk2
     .omega
     .have:=(List.pairwise_cons.1 hsrt).1 k hk2; omega
   have:i∈Region.ready .any ops L:=QN.2 ⟨h2,_,ho,fun e he hb=>by
    have hlt:=hback i _ ho e he hb;have:=hmin _ hlt;have hsz:e.on<L.size:=by omega
    simpa[hsz] using this⟩
   rw[h] at this; cases this
 intro fuel;induction fuel with
 | zero =>
  intro L M B Z a w K Z' hL hlen _ hI hc hk hQ;have hnil:oH ops.size L = []:=qK hlen;rw[hnil] at hc;have:Z=Z':=hc;subst this;refine ⟨?_,hQ M B a w hk (Good.refl hI) rfl⟩;cases hr:Region.ready .any ops L with
  | nil=>rfl
  | cons i l =>
   exfalso;have hi:i∈Region.ready .any ops L:=by rw[hr]; simp
   obtain ⟨h1,o,ho,_⟩:=QN.1 hi;have:i∈oH ops.size L:=KJ.2 ⟨(wu.1 ho).1,h1⟩;rw[hnil] at this; cases this
 | succ fuel ih =>
  intro L M B Z a w K Z' hL hlen hcl hI hc hk hQ;refine ⟨fun h=>by rw[bCS L hL h] at hlen; simp at hlen,fun i hi => ?_⟩;obtain ⟨h1,o,ho,hd⟩:=QN.1 hi;have his:=(wu.1 ho).1;obtain ⟨p,q,u1,u2,u3⟩:=bO8 hL his h1;rw[u1] at hc;obtain ⟨Z1,s1,s2⟩:=aD9 ho p q hI.gu hc fun k hkp ok hok'=>by
   have YT:k∈oH ops.size L:=by rw[u1]; exact a0A _ hkp
   obtain ⟨k1,k2⟩:=KJ.1 YT;refine hcomm k i ok o (u3 k hkp) hok' ho _ hcl (fun e he hb=>hd e he hb) fun hl => ?_
   have:k<L.size:=by omega
   simp[this] at k2 hl;rw[k2] at hl; cases hl
  refine aR8 hI ho s1 fun v M' B' w' hG => ?_
  refine ih (L.setIfInBounds i true) (by simpa using hL) (by rw[u2]; rw[u1] at hlen; simp at hlen ⊢; omega) (fun j oj hj hlj e he hb => ?_) hG.inv (by rw[u2]; exact s2) hk fun M2 B2 a2 w2 hk2 hG2 hd2=>hQ M2 B2 a2 w2 hk2 (hG.trans hG2) (by rw[hd2,Act.Fg])
  by_cases hij:i=j
  .subst hij;rw[ho] at hj; cases hj;exact getD_set_true (hd e he hb)
  .have aJJ:(L.setIfInBounds i true).getD j false=true:=hlj;rw[getD_set_ne false hij] at aJJ;exact getD_set_true (hcl j oj hj aJJ e he hb)
def WX (E:AE) (g:FuncId) (args:bSH) (dst:Option Nat) (K:ASt->Prop) (Z:ASt):Prop:=(∃ r,Ev E.P g args [] r []/\r.flat=true/\PV.flats args=true/\ig E dst r Z K)\/(dC E.sy dst=true/\∃ r h',Ev E.P g args Z.h r h'/\EQ E h' Z.h/\ig E dst r { Z with h:=h' } K)
def BV (E:AE) (o:Oper) (K:ASt->Prop) (Z:ASt):Prop :=
 match ul o with
 | some (f,args)=>(match Z.rd f,jL (args.map Z.rd) with
  | some (.func (.func g) first caps),some az=>WX E g (first ++ az ++ caps) o.dst K Z
  | _,_=>False)
 | none=>yX E o K Z
def sN (E:AE) (ops:Array Oper):List Oper->(ASt->Prop)->ASt->Prop
 | [],Q,Z=>Q Z
 | o::l,Q,Z =>
  match o.guard with
  | none=>BV E o (sN E ops l Q) Z
  | some (j,want)=>match AZ ops Z j with
   | some none=>ig E o.dst (.tuple []) Z (sN E ops l Q)
   | some (some b)=>(b=want->BV E o (sN E ops l Q) Z)/\(b≠want->ig E o.dst (.tuple []) Z (sN E ops l Q))
   | none=>False
def WC (E:AE) (ops:Array Oper) (K:ASt->Prop) (Z:ASt):Prop:=okD E ops=true/\sN E ops ops.toList K Z
theorem Ut {d:Option Nat} {p:PV} {K:ASt->Prop} (h:ig E d p Z K):∃ Z',ASt.put E d p Z=some Z'/\K Z':=by
 unfold ig at h; split at h
 .rename_i Z' hs; exact ⟨Z',hs,h⟩
 .exact h.elim
theorem aCT {K:ASt->Prop} (h:BV E o K Z):∃ Z',Cb E o Z Z'/\K Z':=by
 unfold BV at h;unfold Cb;split at h
 .rename_i f args hc;split at h
  .rename_i g first caps az h1 h2
   rcases h with ⟨r,a1,a2,a3,a4⟩ | ⟨hsy,r,h',a1,aro,a4⟩
   .obtain ⟨Z',a5,a6⟩:=Ut a4;exact ⟨Z',⟨g,first,caps,az,r,h1,h2,.inl ⟨a1,a2,a3,a5⟩⟩,a6⟩
   .obtain ⟨Z',a5,a6⟩:=Ut a4;exact ⟨Z',⟨g,first,caps,az,r,h1,h2,.inr ⟨hsy,h',a1,aro,a5⟩⟩,a6⟩
  .exact h.elim
 .rename_i hc;unfold yX at h;split at h
  .rename_i p Z1 hs;obtain ⟨Z',a5,a6⟩:=Ut h.2;exact ⟨Z',⟨p,Z1,hs,h.1,a5⟩,a6⟩
  .exact h.elim
theorem a0T {K:ASt->Prop}:∀ (l:List Oper) (k:Nat) {Z:ASt},(∀ j,l[j]? = ops[k+j]?)->sN E ops l K Z->∃ Z',Chain E ops (List.range' k l.length) Z Z'/\K Z'
 | [],k,Z,_,h=>⟨Z,rfl,h⟩
 | o::l,k,Z,hl,h=>by
  have ho:ops[k]? = some o:=by have:=hl 0; simpa using this.symm
  have go:∀ Z1,lQ E ops o Z Z1->sN E ops l K Z1->∃ Z',Chain E ops (List.range' k (o::l).length) Z Z'/\K Z':=fun Z1 h1 h2=>by obtain ⟨Z',h3,h4⟩:=a0T l (k+1) (fun j=>by have:=hl (j+1); simpa[a0D,VR 1 j] using this) h2;exact ⟨Z',by rw[aY,a0B]; exact ⟨o,ho,Z1,h1,h3⟩,h4⟩
  have run:rJ ops Z o=some true->BV E o (sN E ops l K) Z->∃ Z',Chain E ops (List.range' k (o::l).length) Z Z'/\K Z':=fun hg h=>by obtain ⟨Z1,h1,h2⟩:=aCT h;exact go Z1 (.inl ⟨hg,h1⟩) h2
  have skip:rJ ops Z o=some false->ig E o.dst (.tuple []) Z (sN E ops l K)->∃ Z',Chain E ops (List.range' k (o::l).length) Z Z'/\K Z':=fun hg h=>by obtain ⟨Z1,h1,h2⟩:=Ut h;exact go Z1 (.inr ⟨hg,h1⟩) h2
  rw[sN] at h;split at h
  .rename_i hg; exact run (by simp[rJ,hg]) h
  .rename_i j want hg;split at h
   .rename_i hv; exact skip (by simp[rJ,hg,hv]) h
   .rename_i b hv;by_cases hb:b=want
    .exact run (by simp[rJ,hg,hv,hb]) (h.1 hb)
    .exact skip (by simp[rJ,hg,hv,hb]) (h.2 hb)
   .exact h.elim
theorem aSZ (hm:E.P.follows .mixedOrders=true) {out:Nat->Nat} {M:Mem} {B:aV} {a:Act} {w:World} {id:Nat} {Q:Exit->Act->World->Prop} {K:ASt->Prop} (hI:Inv E.n M B out Z a.tmps w) (h:WC E ops K Z)
 (hQ:∀ Z' M' B' a' w',K Z'->Good E.n out M B Z a.tmps w M' B' Z' a'.tmps w'->a'.defers=a.defers->Q .normal a' w'):(Code.region id ops true).wp E.P Q a w:=by
 obtain ⟨hok,h⟩:=h;obtain ⟨Z',hc,hk⟩:=a0T ops.toList 0 (fun j=>by simp) h;have hd:=hI.drew;have hu:oH ops.size (Array.replicate ops.size false)=List.range' 0 ops.toList.length:=by unfold oH;rw[List.filter_eq_self.2 (fun i hi=>by have:=DJ.1 hi; simp[this]),aB9]; simp
 refine wp_region_any hm ?_;refine aCJ hok ops.size (Array.replicate ops.size false) (K:=K) (Z':=Z') (by simp) (by rw[hu]; simp) (fun j o _ h => ?_) hd.1 (by rw[hu]; exact hc) hk fun M' B' a' w' hk' hG hd'=>hQ Z' M' B' a' w' hk' (hd.2.trans hG) hd'
 have h':(Array.replicate ops.size false).getD j false=true:=h;simp[Array.getElem?_replicate] at h';split at h'<;>simp at h'
end
def QR (E:AE) (ops:Array Oper) (Kp:ASt->Prop):Nat->Array Bool->ASt->Prop
 | 0,L,Z=>Region.ready .any ops L = []/\Kp Z
 | fuel+1,L,Z=>(Region.ready .any ops L = []->Kp Z)/\∀ i,i∈Region.ready .any ops L->∃ o,ops[i]? = some o/\∃ Z',lQ E ops o Z Z'/\QR E ops Kp fuel (L.setIfInBounds i true) Z'
def aDH (j:Nat) (o:Oper):Bool:=o.after.toList.any fun e=>Region.binds .any e&&e.on==j
def a2D (E:AE) (ops:Array Oper) (L:Array Bool) (j:Nat):Bool:=match ops[j]? with
 | none=>false
 | some o=>(oH ops.size L).all fun k=>k==j||(match ops[k]? with | none=>false | some ok=>aDH j ok||JK E ops o ok)
def Hf (E:AE) (ops:Array Oper) (L:Array Bool):List Nat->Option Nat
 | []=>none
 | j::l=>match a2D E ops L j with | true=>some j | false=>Hf E ops L l
def J4 (E:AE) (ops:Array Oper) (Kp:ASt->Prop):Nat->Array Bool->ASt->Prop
 | 0,L,Z=>Region.ready .any ops L = []/\Kp Z
 | fuel+1,L,Z=>(Region.ready .any ops L = []->Kp Z)/\∀ i,i∈(match Hf E ops L (Region.ready .any ops L) with | some j => [j] | none=>Region.ready .any ops L)->∃ o,ops[i]? = some o/\∃ Z',lQ E ops o Z Z'/\J4 E ops Kp fuel (L.setIfInBounds i true) Z'
section
variable {E:AE} {ops:Array Oper} {Kp:ASt->Prop}
theorem aBD {Kq:ASt->Prop} (hm:∀ Z,Kp Z->Kq Z):∀ (fuel:Nat) {L:Array Bool} {Z:ASt},J4 E ops Kp fuel L Z->J4 E ops Kq fuel L Z
 | 0,L,Z,h=>⟨h.1,hm Z h.2⟩
 | fuel+1,L,Z,h=>⟨fun e=>hm Z (h.1 e),fun i hi=>by obtain ⟨o,ho,Z',h1,h2⟩:=h.2 i hi;exact ⟨o,ho,Z',h1,aBD hm fuel h2⟩⟩
theorem a0P {out:Nat->Nat} {Q:Exit->Act->World->Prop}:∀ (fuel:Nat) (L:Array Bool) {M:Mem} {B:aV} {Z:ASt} {a:Act} {w:World},Inv E.n M B out Z a.tmps w->QR E ops Kp fuel L Z ->
 (∀ Zt M' B' a' w',Kp Zt->Good E.n out M B Z a.tmps w M' B' Zt a'.tmps w'->a'.defers=a.defers->Q .normal a' w')->wpAny E.P .any ops Q fuel L a w
 | 0,L,M,B,Z,a,w,hI,h,hQ=>⟨h.1,hQ Z M B a w h.2 (Good.refl hI) rfl⟩
 | fuel+1,L,M,B,Z,a,w,hI,h,hQ=>by
  refine ⟨fun e=>hQ Z M B a w (h.1 e) (Good.refl hI) rfl,fun i hi => ?_⟩;obtain ⟨o,ho,Z',h1,h2⟩:=h.2 i hi;refine aR8 hI ho h1 fun v M' B' w' hG => ?_
  exact a0P fuel _ hG.inv h2 fun Z3 M3 B3 a3 w3 hk3 hG3 hd=>hQ Z3 M3 B3 a3 w3 hk3 (hG.trans hG3) (by rw[hd,Act.Fg])
theorem aEV {L:Array Bool} {j:Nat}:∀ {l:List Nat},Hf E ops L l=some j->j∈l/\a2D E ops L j=true
 | [],h=>by cases h
 | i::l,h=>by
  unfold Hf at h;split at h
  .rename_i hc; cases h; exact ⟨by simp,hc⟩
  .have:=aEV h; exact ⟨by simp[this.1],this.2⟩
theorem bM0 {L:Array Bool} {i j:Nat}:(L.setIfInBounds i true).setIfInBounds j true=(L.setIfInBounds j true).setIfInBounds i true:=by
 apply Array.ext
 .simp
 .intro k h1 h2;rw[Q4 (by simpa using h1),Q4 (by simpa using h1),Q4 (by simpa using h1),Q4 (by simpa using h1)];split<;>split<;>rfl
theorem a8W {L:Array Bool} {i j:Nat} (hi:i∈Region.ready .any ops L) (hne:i≠j):i∈Region.ready .any ops (L.setIfInBounds j true):=by obtain ⟨h1,o,ho,hd⟩:=QN.1 hi;refine QN.2 ⟨?_,o,ho,fun e he hb=>getD_set_true (hd e he hb)⟩;rw[getD_set_ne true (Ne.symm hne)]; exact h1
theorem bO7 {n:Nat} {L:Array Bool} {i k:Nat} (h:k∈oH n (L.setIfInBounds i true)):k∈oH n L:=by
 obtain ⟨h1,h2⟩:=KJ.1 h;refine KJ.2 ⟨h1,?_⟩;by_cases hik:i=k
 .subst hik;by_cases hs:i<L.size
  .simp[hs] at h2
  .simp[hs] at h2
 .rwa [getD_set_ne true hik] at h2
theorem aWE {j:Nat} {o:Oper} (ho:ops[j]? = some o):∀ (fuel:Nat) {L:Array Bool} {Z Zj:ASt},jE Z.s->j∈Region.ready .any ops L->(∀ k,k∈oH ops.size L->k≠j->∀ ok,ops[k]? = some ok->aDH j ok=true\/JK E ops o ok=true) ->
 lQ E ops o Z Zj->QR E ops Kp fuel (L.setIfInBounds j true) Zj->QR E ops Kp (fuel+1) L Z:=by
 intro fuel;induction fuel with
 | zero =>
  intro L Z Zj hs hj hc h1 h2;refine ⟨fun e=>(by rw[e] at hj; cases hj),fun i hi => ?_⟩;by_cases hij:i=j
  .subst hij; exact ⟨o,ho,Zj,h1,h2⟩
  .have hi':=a8W hi hij;rw[h2.1] at hi'; cases hi'
 | succ fuel ih =>
  intro L Z Zj hs hj hc h1 h2;refine ⟨fun e=>(by rw[e] at hj; cases hj),fun i hi => ?_⟩;by_cases hij:i=j
  .subst hij; exact ⟨o,ho,Zj,h1,h2⟩
  .obtain ⟨oi,hoi,Zji,h3,h4⟩:=h2.2 i (a8W hi hij);obtain ⟨hi1,oi2,aJL,bCG⟩:=QN.1 hi;rw[hoi] at aJL; cases aJL;have hcomm:=(hc i (KJ.2 ⟨(wu.1 hoi).1,hi1⟩) hij oi hoi).resolve_left fun hd=>by
    obtain ⟨e,he,hb⟩:=aB4.1 hd;simp only[au,oN] at hb;have h5:=bCG e (by simpa using he) hb.1;rw[hb.2] at h5;have h6:=(QN.1 hj).1;have hz:j<L.size:=by
     by_cases hz:j<L.size
     .exact hz
     .simp[hz] at h6
    simp[hz] at h5 h6;rw[h5] at h6; cases h6
   obtain ⟨τ,t1,t2⟩:=aDI hs h1 h3 hcomm;refine ⟨oi,hoi,τ,t1,ih (lQ.gu t1 hs) (a8W hj (Ne.symm hij)) (fun k hk hkj ok hok=>hc k (bO7 hk) hkj ok hok) t2 ?_⟩;rw[bM0]; exact h4
theorem Vt:∀ (fuel:Nat) {L:Array Bool} {Z:ASt},jE Z.s->J4 E ops Kp fuel L Z->QR E ops Kp fuel L Z
 | 0,L,Z,_,h=>h
 | fuel+1,L,Z,hs,h=>by
  unfold J4 at h;cases hf:Hf E ops L (Region.ready .any ops L) with
  | some j =>rw[hf] at h;obtain ⟨hm,hc⟩:=aEV hf;obtain ⟨o,ho,Zj,h1,h2⟩:=h.2 j (by simp);unfold a2D at hc;rw[ho] at hc;simp only[iC,y9,oN] at hc;refine aWE ho fuel hs hm (fun k hk hkj ok hok => ?_) h1 (Vt fuel (h1.gu hs) h2);have:=(hc k hk).resolve_left hkj;rw[hok] at this;exact (y9 _ _).mp this
  | none =>rw[hf] at h;refine ⟨h.1,fun i hi => ?_⟩;obtain ⟨o,ho,Z',h1,h2⟩:=h.2 i hi;exact ⟨o,ho,Z',h1,Vt fuel (h1.gu hs) h2⟩
theorem aT0 {o:Oper} {Z:ASt} (h:sN E ops [o] Kp Z):∃ Z',lQ E ops o Z Z'/\Kp Z':=by
 have run:rJ ops Z o=some true->BV E o Kp Z->∃ Z',lQ E ops o Z Z'/\Kp Z':=fun hg h=>by obtain ⟨Z1,h1,h2⟩:=aCT h;exact ⟨Z1,.inl ⟨hg,h1⟩,h2⟩
 have skip:rJ ops Z o=some false->ig E o.dst (.tuple []) Z Kp->∃ Z',lQ E ops o Z Z'/\Kp Z':=fun hg h=>by obtain ⟨Z1,h1,h2⟩:=Ut h;exact ⟨Z1,.inr ⟨hg,h1⟩,h2⟩
 rw[sN] at h;split at h
 .rename_i hg; exact run (by simp[rJ,hg]) h
 .rename_i j want hg;split at h
  .rename_i hv; exact skip (by simp[rJ,hg,hv]) h
  .rename_i b hv;by_cases hb:b=want
   .exact run (by simp[rJ,hg,hv,hb]) (h.1 hb)
   .exact skip (by simp[rJ,hg,hv,hb]) (h.2 hb)
  .exact h.elim
end
def aCS (E:AE) (ops:Array Oper) (K:ASt->Prop) (Z:ASt):Prop:=WC E ops K Z\/J4 E ops K ops.size (Array.replicate ops.size false) Z
theorem aSX {E:AE} (hm:E.P.follows .mixedOrders=true) {out:Nat->Nat} {M:Mem} {B:aV} {Z:ASt} {a:Act} {w:World} {id:Nat} {ops:Array Oper} {Q:Exit->Act->World->Prop} {K:ASt->Prop} (hI:Inv E.n M B out Z a.tmps w) (h:aCS E ops K Z)
 (hQ:∀ Z' M' B' a' w',K Z'->Good E.n out M B Z a.tmps w M' B' Z' a'.tmps w'->a'.defers=a.defers->Q .normal a' w'):(Code.region id ops true).wp E.P Q a w:=by
 rcases h with h | h
 .exact aSZ hm hI h hQ
 .have hd:=hI.drew;exact wp_region_any hm (a0P ops.size _ hd.1 (Vt _ hd.1.gu h) fun Zt M' B' a' w' hk hG hdf=>hQ Zt M' B' a' w' hk (hd.2.trans hG) hdf)
inductive AX where
 | normal
 | ret
 | exit (id:Nat)
def AX.toExit:AX->Exit
 | .normal => .normal
 | .ret => .ret
 | .exit i => .exit i
def ASt.keep (l:List Nat) (Z:ASt):ASt := { Z with s:=Z.s.filter fun kp=>l.contains kp.1 }
def vC (sz:List (Nat×List Nat)):fH->fH
 | [] => []
 | (k,p)::l=>(match sz.lookup k with | some z=>(k,p.zn z) | none=>(k,p))::vC sz l
def a6U (zs:List Nat) (p:PV) (h:aI):aI:=match p with
 | .ptr i 0=>(match h[i]? with | some (some cs)=>h.set i (some (xg zs cs)) | _=>h)
 | _=>h
def a6Q (s:fH):List (Nat×List Nat)->aI->aI
 | [],h=>h
 | (k,zs)::l,h=>a6Q s l (match bU k s with | some p=>a6U zs p h | none=>h)
def ASt.head (E:AE) (Z:ASt):ASt:=⟨vC E.sz (Z.keep E.vars).s,a6Q (vC E.sz (Z.keep E.vars).s) E.pt Z.h⟩
def ASt.gc (l:List Nat) (m:Nat) (Z:ASt):ASt:=⟨Z.s.filter fun kp=>l.contains kp.1,Z.h.take m⟩
def Bf (l:List Nat) (m:Nat) (Z:ASt):Bool:=(Z.gc l m).s.all (fun kp=>kp.2.blw m)&&AP m (Z.gc l m).h
def Dk (K:ASt->Prop) (Q:AX->ASt->Prop):AX->ASt->Prop
 | .normal,Z=>K Z
 | e,Z=>Q e Z
def mX (sz:Nat) (cs:bSH) (n:Nat):bSH:=match sz with
 | 1=>(cs.take n).map PV.un
 | _=>(List.range n).map fun j => .agg (((cs.drop (j*sz)).take sz).map PV.un)
def XO (k:Nat) (Z:ASt):ASt:=match bU k Z.s with
 | some (.slh i 0 n sz)=>(match Z.h[i]? with
  | some (some cs)=>(match decide (n*sz<=cs.length)&&decide (0<sz)&&cs.all fun p=>p.one&&p.flat with
   | true=>⟨iF k (.sl false sz (mX sz cs n)) Z.s,Z.h.set i none⟩
   | false=>Z)
  | _=>Z)
 | _=>Z
def a2E (k:Nat) (Z:ASt):ASt:=match bU k Z.s with
 | some (.slh i 0 n 1)=>(match Z.h[i]? with
  | some (some cs)=>(match Nat.beq cs.length n&&cs.all fun p=>p.one&&p.flat with
   | true=>⟨iF k (.sl true 1 (cs.map PV.un)) Z.s,Z.h.set i none⟩
   | false=>Z)
  | _=>Z)
 | _=>Z
def PU (k:Nat) (Z:ASt):ASt:=match bU k Z.s with
 | some (.fJ true n sz cs)=>(match Nat.ble 1 n with
  | true=>⟨iF k (.slh Z.h.length 0 n sz) Z.s,Z.h ++ [some cs]⟩
  | false=>⟨iF k (.sl false sz []) Z.s,Z.h⟩)
 | _=>Z
def Uu (k j:Nat) (Z:ASt):ASt:=match bU k Z.s with
 | some (.ptr i 0)=>(match Z.h[i]? with
  | some (some cs0)=>(match cs0[j]? with
   | some (.fJ true n sz cs)=>(match Nat.ble 1 n with
    | true=>⟨Z.s,Z.h.set i (some (cs0.set j (.slh Z.h.length 0 n sz))) ++ [some cs]⟩
    | false=>⟨Z.s,Z.h.set i (some (cs0.set j (.sl false sz [])))⟩)
   | _=>Z)
  | _=>Z)
 | _=>Z
def XL (k j:Nat) (Z:ASt):ASt:=match bU k Z.s with
 | some (.ptr i2 0)=>(match Z.h[i2]? with
  | some (some cs0)=>(match cs0[j]? with
   | some (.slh i 0 n sz)=>(match Z.h[i]? with
    | some (some cs)=>(match decide (n*sz<=cs.length)&&decide (0<sz)&&cs.all (fun p=>p.one&&p.flat) && !Nat.beq i i2 with
     | true=>⟨Z.s,(Z.h.set i none).set i2 (some (cs0.set j (.sl false sz (mX sz cs n))))⟩
     | false=>Z)
    | _=>Z)
   | _=>Z)
  | _=>Z)
 | _=>Z
def XN (k:Nat) (Z:ASt):ASt:=match bU k Z.s with
 | some (.ptr i 0)=>(match Z.h[i]? with
  | some (some cs)=>(match decide (0<cs.length)&&cs.all fun p=>p.one&&p.flat with
   | true=>⟨iF k (.cst ((mX cs.length cs 1).headD .nilp)) Z.s,Z.h.set i none⟩
   | false=>Z)
  | _=>Z)
 | _=>Z
def xQ (k:Nat) (Z:ASt):ASt:=match Nat.ble 9000000 k with
 | true=>XN (k-9000000) Z
 | false=>match Nat.ble 5000000 k with
 | true=>XL ((k-5000000) / 100) ((k-5000000) % 100) Z
 | false=>match Nat.ble 4000000 k with
 | true=>Uu ((k-4000000) / 100) ((k-4000000) % 100) Z
 | false=>match Nat.ble 3000000 k with
 | true=>PU ((k-3000000) % 500000) Z
 | false=>match Nat.ble 1000000 k with
  | true=>XO (k-1000000) Z
  | false=>a2E k Z
def yL:List Nat->ASt->ASt
 | [],Z=>Z
 | k::ks,Z=>yL ks (xQ k Z)
def jA (m0:Nat) (K:ASt->Prop) (Z:ASt):Prop:=∃ ks,K (yL ks Z)\/∃ l m,m0<=m/\Bf l m (yL ks Z)=true/\K ((yL ks Z).gc l m)
def Me (id:Nat) (Q:AX->ASt->Prop):AX->ASt->Prop
 | .exit i,Z=>if i=id then Q .normal Z else Q (.exit i) Z
 | e,Z=>Q e Z
def Kz (m0:Nat) (body:(AX->ASt->Prop)->ASt->Prop) (Q:AX->ASt->Prop):Nat->ASt->Prop
 | 0,_=>False
 | n+1,Z=>∃ l m,m0<=m/\Bf l m Z=true/\body (Dk (Kz m0 body Q n) Q) (Z.gc l m)
def aM5 (m0:Nat) (body:(AX->ASt->Prop)->ASt->Prop) (Q:AX->ASt->Prop) (Z:ASt):Prop:=∃ n,Kz m0 body Q n Z
def dF (E:AE) (m0:Nat):Code->(AX->ASt->Prop)->ASt->Prop
 | .skip,Q,Z=>Q .normal Z
 | .region _ ops draw,Q,Z=>if draw then aCS E ops (Q .normal) (Z.head E) else lG E ops ops.toList (Q .normal) (Z.head E)
 | .seq x y,Q,Z=>dF E m0 x (Dk (jA m0 (dF E m0 y Q)) Q) Z
 | .cond c x y,Q,Z=>match Z.rd c with
  | some (.bool b)=>(b=true->dF E m0 x Q Z)/\(b=false->dF E m0 y Q Z)
  | _=>False
 | .block id x,Q,Z=>dF E m0 x (Me id Q) Z
 | .loop x,Q,Z=>aM5 m0 (dF E m0 x) Q Z
 | .exit id,Q,Z=>Q (.exit id) Z
 | .ret,Q,Z=>Q .ret Z
 | .scope x,Q,Z=>dF E m0 x Q Z
 | .label _,Q,Z=>Q .normal Z
 | .rangeFunc _ _ _ _,_,_=>False
 | .goto _,_,_=>False
 | .refuse _,_,_=>False
structure bz (n:Nat) (out:Nat->Nat) (m0:Nat) (M:Mem) (B:aV) (Z:ASt) (t:Array Value) (w:World) (M':Mem) (B':aV) (Z':ASt) (t':Array Value) (w':World):Prop where
 inv:Inv n M' B' out Z' t' w'
 mem:∀ (b o:Nat) (v:Value),M b o=some v->M' b o=some v
 pre:∀ (i:Nat) (c:Nat×Nat×TypeId),i<m0->B[i]? = some c->B'[i]? = some c
 fr:Fr (fp B Z t w) M w M' w'
 own:∀ b,b<w.heap.size->fp B' Z' t' w' b<=fp B Z t w b
section
variable {n:Nat} {out:Nat->Nat} {m0:Nat} {M M1 M2:Mem} {B B1 B2:aV} {Z Z1 Z2:ASt} {t t1 t2:Array Value} {w w1 w2:World} {E:AE}
theorem bz.trans (h:bz n out m0 M B Z t w M1 B1 Z1 t1 w1) (k:bz n out m0 M1 B1 Z1 t1 w1 M2 B2 Z2 t2 w2):bz n out m0 M B Z t w M2 B2 Z2 t2 w2 :=⟨k.inv,fun b o v e=>k.mem b o v (h.mem b o v e),fun i c hi e=>k.pre i c hi (h.pre i c hi e),h.fr.trans k.fr (fun b hb h0=>by have:=h.own b hb; omega),fun b hb=>oM (k.own b (QI hb h.fr.size)) (h.own b hb)⟩
theorem Good.c (h:Good n out M B Z t w M1 B1 Z1 t1 w1):bz n out m0 M B Z t w M1 B1 Z1 t1 w1:=⟨h.inv,h.le.mem,fun i c _ e=>h.le.blk i c e,h.fr,h.own⟩
theorem bz.refl (h:Inv n M B out Z t w):bz n out m0 M B Z t w M B Z t w:=(Good.refl h).c
theorem a6V (f:Nat×PV->Bool) (b:Nat):∀ s:fH,iD (s.filter f) t b<=iD s t b
 | []=>bW _
 | (k,p)::l=>by
  have:=a6V f b l;rw[aB5];split
  .rw[iD,iD]; omega
  .rw[iD]; omega
theorem Zf (f:Nat->Bool) {k:Nat} {p:PV}:∀ {s:fH},bU k (s.filter fun kp=>f kp.1)=some p->bU k s=some p
 | [],h=>by simp[bU] at h
 | (j,q)::l,h=>by
  rw[aB5] at h;split at h
  .rw[bU] at h ⊢;split at h
   .rename_i e; rw[aJ e]; exact h
   .rename_i e; rw[aK e]; exact Zf f h
  .rename_i hf;have:=Zf f h;rw[bU];split
   .rename_i e; subst e;have hm:=Zg h;rw[List.mem_filter] at hm;exact absurd hm.2 hf
   .exact this
theorem a6T (m:Nat) (b:Nat):∀ (h:aI) (B:aV),aU w (h.take m) (B.take m) b<=aU w h B b:=by
 induction m with
 | zero=>intro h B; simp[aU]
 | succ m ih =>
  intro h B;cases h with
  | nil=>simp[aU]
  | cons x h =>
   cases B with
   | nil=>cases x<;>simp[aU]
   | cons c B =>have:=ih h B;cases x<;>simp only[VP,aU]<;>omega
theorem bEX (hI:Inv n M B out Z t w) (l:List Nat):Good n out M B Z t w M B (Z.keep l) t w:=by
 have hle:∀ b,fp B (Z.keep l) t w b<=fp B Z t w b:=fun b=>by have:=a6V (t:=t) (fun kp=>l.contains kp.1) b Z.s;simp only[fp,ASt.keep]; omega
 exact ⟨⟨hI.size,hI.mem,List.Pairwise.sublist List.filter_sublist hI.gu,fun k p hp=>hI.slots k p (Zf (fun k=>l.contains k) hp),hI.heap,fun b=>by have:=hle b; have:=hI.cnt b; omega,fun b hb=>by have:=hle b; have:=hI.new b hb; omega⟩,dJ.refl _ _,Fr.refl _ _ _,fun b _=>hle b⟩
theorem UM {k:Nat} {p:PV} {b:Nat} (hk:k<t.size) (hs:jE Z.s):iD (iF k p Z.s) t b+mM Z.s t k b=iD Z.s t b+bI p (t.getD k undef) b:=by
 have hset:t.setIfInBounds k (t.getD k undef)=t:=by
  apply Array.ext (by simp);intro i h1 h2;by_cases h:k=i
  .subst h; simp[hk]
  .rw[Q4 (by simpa using h1),aK h]
 have:=UN (p:=p) (v:=t.getD k undef) (b:=b) hk hs;rwa [hset] at this
theorem EM {b:Nat}:∀ {h:aI} {B:aV} {i:Nat} {cs:bSH} {c:Nat×Nat×TypeId},h[i]? = some (some cs)->B[i]? = some c->aU w (h.set i none) B b+((if c.1=b then 1 else 0)+dN cs (gZ w c.1) b)=aU w h B b
 | [],_,_,_,_,h,_=>by simp at h
 | _::_,[],_,_,_,_,h=>by simp at h
 | some ds::h,d::B,0,cs,c,h1,h2=>by simp at h1 h2; subst h1; subst h2; simp only[Eh,aU]; omega
 | none::h,d::B,0,cs,c,h1,h2=>by simp at h1
 | some ds::h,d::B,i+1,cs,c,h1,h2=>by have:=EM (b:=b) (h:=h) (B:=B) (i:=i) (cs:=cs) (c:=c) (by simpa using h1) (by simpa using h2); simp only[yz,aU]; omega
 | none::h,d::B,i+1,cs,c,h1,h2=>by have:=EM (b:=b) (h:=h) (B:=B) (i:=i) (cs:=cs) (c:=c) (by simpa using h1) (by simpa using h2); simp only[yz,aU]; omega
theorem aWF (hI:Inv n M B out Z t w) (k:Nat):∃ M',bz n out m0 M B Z t w M' B (a2E k Z) t w:=by
 unfold a2E;split;case h_2=>exact ⟨M,bz.refl hI⟩
 rename_i i m hk;split;case h_2=>exact ⟨M,bz.refl hI⟩
 rename_i cs hi;split;case h_2=>exact ⟨M,bz.refl hI⟩
 rename_i hb;simp only[au,iC] at hb;obtain ⟨hb1,hb2⟩:=hb;have hm:cs.length=m:=lm hb1;obtain ⟨hkn,hrep,_⟩:=hI.slots k _ hk;obtain ⟨c,cap,⟨hc,hcm⟩,hv,hle,hcap⟩:=tH.1 hrep;obtain ⟨vs,ty,r1,o2,o3,o4,o5⟩:=hI.heap.at hi hc;obtain ⟨ty,rfl,o1⟩:=ER r1 (by rw[o2.2]; exact hcm);have hkt:k<t.size:=by rw[hI.size]; exact hkn
 have hown:1<=aU w Z.h B c.1:=by have:=kU (w:=w) c.1 hi hc;simp only[gV] at this; omega
 obtain ⟨M',hM'⟩:∃ M':Mem,∀ b o,M' b o=if b=c.1 then (if o<m then vs[o]? else none) else M b o:=⟨CG _ _,EJ (TD o5)⟩
 have hmem:dJ M M' B B:=⟨fun b o v h=>by
  have:b≠c.1:=fun e=>by subst e; rw[o5] at h; cases h
  rw[hM']; simp only[aK this]; exact h,fun _ _ h=>h⟩
 have hne:∀ b,b≠c.1->∀ o,M' b o=M b o:=fun b h o=>by rw[hM']; simp only[aK h]
 have hcell:∀ o,w.cell? ⟨c.1,o,none⟩=vs[o]? := fun o=>by simp[World.cell?,o1]
 have hS:=fun b=>UM (t:=t) (p := .sl true 1 (cs.map PV.un)) (b:=b) hkt hI.gu
 have hH:=fun b=>EM (w:=w) (b:=b) hi hc
 have hvo:∀ b,bI (.sl true 1 (cs.map PV.un)) (t.getD k undef) b=if c.1=b then 1 else 0:=fun b=>by rw[hv]; simp[bI,PV.own]
 have hfp:∀ b,fp B ⟨iF k (.sl true 1 (cs.map PV.un)) Z.s,Z.h.set i none⟩ t w b<=fp B Z t w b:=fun b=>by have h1:=hS b;have h2:=hH b;rw[hvo] at h1;simp only[fp]; omega
 have hfc:∀ b,1<=iD Z.s t b->b≠c.1:=fun b h e=>by subst e;have:=hI.cnt c.1;simp only[fp] at this; omega
 have Jp:∀ (j:Nat) e,(cs.map PV.un)[j]? = some e->Loc M' [] e c.1 (0+j*1):=fun j e he=>by
  rw[iU] at he;cases hcj:cs[j]? with
  | none=>rw[hcj] at he; cases he
  | some q =>
   rw[hcj] at he;cases he;obtain ⟨v,hv',hr,_,_⟩:=o4 j q hcj;have hj:j<m:=by rw[<- hm]; exact (eP.1 hcj).1
   have hq:=hb2 q (jq hcj);have h1:M' c.1 (0+j*1)=some v:=by rw[hM']; simp only[gV]; rw[aJ (by omega),show 0+j*1=j by omega]; exact hv'
   have hone:q.isAgg=false/\∀ ds,q ≠ .tuple ds:=by have:=hq.1;cases q<;>first | (simp[PV.one] at this; done) | exact ⟨rfl,fun ds h=>by cases h⟩
   rw[a5',yQ hone.1 hone.2];exact ⟨v,h1,Rep.flat [] hq.2 (hr.mono hmem)⟩
 refine ⟨M',⟨⟨hI.size,fun b o v h => ?_,Ci hI.gu,fun j p hj => ?_,⟨by simp[hI.heap.1],fun i' cs' hi' => ?_⟩,fun b=>by have:=hfp b; have:=hI.cnt b; omega,fun b hb=>by have:=hfp b; have:=hI.new b hb; omega⟩,hmem.mem,fun _ _ _ h=>h,⟨rfl,rfl,rfl,bW _,fun b hb h0=>⟨rfl,fun o=>hne b (fun e=>by subst e; simp only[fp] at h0; omega) o⟩⟩,fun b _=>hfp b⟩⟩
 .by_cases e:b=c.1
  .subst e;rw[hM'] at h;simp only[gV] at h;split at h
   .rename_i ho;rw[hcell];refine ⟨h,?_⟩;obtain ⟨q,hq⟩:∃ q,cs[o]? = some q:=⟨_,iM (by omega)⟩;obtain ⟨v',hv',_,_,h1⟩:=o4 o q hq;rw[hv'] at h; cases h; exact h1
   .cases h
  .rw[hne b e] at h; exact hI.mem b o v h
 .rw[Cf j hI.gu] at hj;split at hj
  .rename_i e; subst e; injection hj with hj; subst hj
   refine ⟨hkn,?_,?_⟩
   .rw[hv];refine jW.2 ⟨some ⟨c.1,0,none⟩,cap,by simp[hm],by simpa[hm] using hle,fun e he => ?_,(fun h=>by cases h),fun _=>⟨c.1,0,rfl,Ae Jp⟩⟩;obtain ⟨q,hq,rfl⟩:=qL.1 he;have:=(hb2 q hq).1;rw[aAX];cases q<;>first | (simp[PV.one] at this; done) | rfl
   .refine PW (fun l h=>by cases h) ?_;intro sz es A n' cap' e1 e2;rw[hv] at e2;injection e1 with _ e1 e3
    subst e1; subst e3;injection e2 with e2 e4 e5
    subst e2; subst e4; subst e5;refine ⟨(fun h=>by cases h),(fun h=>by cases h),fun a ha => ?_⟩;cases ha;refine ⟨vs,ty,o1,by rw[o2.1]; simpa using hcap,fun o ho => ?_,rfl,rfl⟩;rw[hM']; simp only[gV];rw[aK (by simp at ho; omega)]
  .rename_i hjk;obtain ⟨s1,s2,s3⟩:=hI.slots j p hj;refine ⟨s1,s2.mono hmem,s3.kept fun b ho=>⟨rfl,hne b (hfc b ?_)⟩⟩;have:=EN (s:=Z.s) (t:=t) (k:=j) (b:=b);simp only[mM,hj] at this;omega
 .have hii:i'≠i:=fun e=>by subst e;rw[ql (eP.1 hi).1] at hi';cases hi'
  simp only at hi';rw[lN (Ne.symm hii)] at hi';obtain ⟨c',hc',vs',ty',q1,q2,q3,q4,q5⟩:=hI.heap.2 i' cs' hi';have hoc:∀ b,1<=(if c'.1=b then 1 else 0)+dN cs' (gZ w c'.1) b->b≠c.1:=fun b h e=>by subst e;have h2:=EM (w:=w) (b:=c.1) hi hc;have h3:=kU (w:=w) (h:=Z.h.set i none) c.1 (by rw[lN (Ne.symm hii)]; exact hi') hc';have:=hI.cnt c.1;simp only[gV] at h2;simp only[fp] at this; omega
  refine ⟨c',hc',vs',ty',q1,q2,q3,fun j p hj => ?_,fun o => ?_⟩
  .obtain ⟨v,a1,a2,a3,a4⟩:=q4 j p hj;refine ⟨v,a1,a2.mono hmem,a3.kept fun b ho=>⟨rfl,hne b (hoc b ?_)⟩,a4⟩;have:=xh b hj (by rw[oW q1]; simpa using a1:(gZ w c'.1)[j]? = some v);omega
  .rw[hne c'.1 (hoc c'.1 (by simp))]; exact q5 o
theorem Wi {sz:Nat} {cs:bSH} {n:Nat} (h0:0<sz) (hn:n*sz<=cs.length) (h1:∀ p,p∈cs->p.one=true):(mX sz cs n).length=n/\(∀ e,e∈mX sz cs n->e.size=sz) /\
 ∀ (M:Mem) (b:Nat),(∀ (j:Nat) p,cs[j]? = some p->j<n*sz->Loc M [] p b j)->jr M [] sz (mX sz cs n) b 0:=by
 by_cases h:sz=1
 .subst h;have e:mX 1 cs n=(cs.take n).map PV.un:=rfl;rw[e];refine ⟨by simp; omega,fun e he => ?_,fun M b hc=>Ae fun j p hj => ?_⟩
  .obtain ⟨q,hq,rfl⟩:=qL.1 he;have:=h1 q (QD hq);rw[aAX];cases q<;>first | (simp[PV.one] at this; done) | rfl
  .rw[iU] at hj;cases hq:(cs.take n)[j]? with
   | none=>simp[hq] at hj
   | some q =>simp[hq] at hj; subst hj;have hlt:=(eP.1 hq).1;simp at hlt;rw[iO,aJ (by omega)] at hq;rw[a5'];have:=hc j q hq (by omega);rwa [show 0+j*1=j by omega]
 .have e:mX sz cs n=(List.range n).map fun j => .agg (((cs.drop (j*sz)).take sz).map PV.un):=by
   unfold mX; split
   .exact absurd rfl h
   .rfl
  rw[e];have hfit:∀ j,j<n->j*sz+sz<=cs.length:=fun j hj=>by have:(j+1)*sz<=n*sz:=vT _ hj;rw[Ej] at this; omega
  refine ⟨by simp,fun e he => ?_,fun M b hc=>Ae fun j p hj => ?_⟩
  .obtain ⟨j,hj,rfl⟩:=qL.1 he;have:=hfit j (DJ.1 hj);simp[PV.size]; omega
  .rw[iU] at hj;cases hq:(List.range n)[j]? with
   | none=>simp[hq] at hj
   | some q =>
    obtain ⟨hlt,hq'⟩:=eP.1 hq;simp at hlt hq';subst hq';rw[hq] at hj; injection hj with hj; subst hj
    refine zV.2 (H5 fun k r hr => ?_);rw[iU] at hr;cases hd:((cs.drop (j*sz)).take sz)[k]? with
    | none=>simp[hd] at hr
    | some r' =>simp[hd] at hr; subst hr;have hk:=(eP.1 hd).1;simp at hk;rw[iO,aJ (by omega),GZ] at hd;have hone:=h1 r' (jq hd);have:=hc (j*sz+k) r' hd (by have:(j+1)*sz<=n*sz:=vT _ hlt;rw[Ej] at this; omega);obtain ⟨u,hu,hr⟩:=(Bq hone).1 this;exact ⟨u,by rw[kW]; exact hu,nU.2 hr⟩
theorem aWJ (hI:Inv n M B out Z t w) (k:Nat):∃ M',bz n out m0 M B Z t w M' B (XO k Z) t w:=by
 unfold XO;split;case h_2=>exact ⟨M,bz.refl hI⟩
 rename_i i m sz hk;split;case h_2=>exact ⟨M,bz.refl hI⟩
 rename_i cs hi;split;case h_2=>exact ⟨M,bz.refl hI⟩
 rename_i hb;simp only[au,iC,iy] at hb;obtain ⟨⟨hb1,hb0⟩,hb2⟩:=hb;obtain ⟨hkn,hrep,_⟩:=hI.slots k _ hk;obtain ⟨c,cap,⟨hc,hcm⟩,hv,hle,hcap⟩:=tH.1 hrep;obtain ⟨vs,ty,r1,o2,o3,o4,o5⟩:=hI.heap.at hi hc;obtain ⟨ty,rfl,o1⟩:=ER r1 (by rw[o2.2]; exact hcm);have hkt:k<t.size:=by rw[hI.size]; exact hkn
 have hown:1<=aU w Z.h B c.1:=by have:=kU (w:=w) c.1 hi hc;simp only[gV] at this; omega
 obtain ⟨M',hM'⟩:∃ M':Mem,∀ b o,M' b o=if b=c.1 then (if o<m*sz then vs[o]? else none) else M b o:=⟨CG _ _,EJ (TD o5)⟩
 have hmem:dJ M M' B B:=⟨fun b o v h=>by
  have:b≠c.1:=fun e=>by subst e; rw[o5] at h; cases h
  rw[hM']; simp only[aK this]; exact h,fun _ _ h=>h⟩
 have hne:∀ b,b≠c.1->∀ o,M' b o=M b o:=fun b h o=>by rw[hM']; simp only[aK h]
 have hcell:∀ o,w.cell? ⟨c.1,o,none⟩=vs[o]? := fun o=>by simp[World.cell?,o1]
 obtain ⟨k1,k2,k3⟩:=Wi hb0 hb1 fun p hp=>(hb2 p hp).1
 have hH:=fun b=>EM (w:=w) (b:=b) hi hc
 have hS:=fun b=>UM (t:=t) (p := .sl false sz (mX sz cs m)) (b:=b) hkt hI.gu
 have hfp:∀ b,fp B ⟨iF k (.sl false sz (mX sz cs m)) Z.s,Z.h.set i none⟩ t w b<=fp B Z t w b:=fun b=>by have h1:=hS b;have h2:=hH b;rw[dO rfl] at h1;simp only[fp]; omega
 have hfc:∀ b,1<=iD Z.s t b->b≠c.1:=fun b h e=>by subst e;have:=hI.cnt c.1;simp only[fp] at this; omega
 refine ⟨M',⟨⟨hI.size,fun b o v h => ?_,Ci hI.gu,fun j p hj => ?_,⟨by simp[hI.heap.1],fun i' cs' hi' => ?_⟩,fun b=>by have:=hfp b; have:=hI.cnt b; omega,fun b hb=>by have:=hfp b; have:=hI.new b hb; omega⟩,hmem.mem,fun _ _ _ h=>h,⟨rfl,rfl,rfl,bW _,fun b hb h0=>⟨rfl,hne b (fun e=>by subst e; simp only[fp] at h0; omega)⟩⟩,fun b _=>hfp b⟩⟩
 .by_cases e:b=c.1
  .subst e;rw[hM'] at h;simp only[gV] at h;split at h
   .rename_i ho;rw[hcell];refine ⟨h,?_⟩;obtain ⟨q,hq⟩:∃ q,cs[o]? = some q:=⟨_,iM (by omega)⟩;obtain ⟨v',hv',_,_,h1⟩:=o4 o q hq;rw[hv'] at h; cases h; exact h1
   .cases h
  .rw[hne b e] at h; exact hI.mem b o v h
 .rw[Cf j hI.gu] at hj;split at hj
  .rename_i e; subst e; injection hj with hj; subst hj
   refine ⟨hkn,?_,fG rfl⟩;rw[hv];refine jW.2 ⟨some ⟨c.1,0,none⟩,cap,by rw[k1],by rw[k1]; exact hle,k2,(fun h=>by omega),fun _=>⟨c.1,0,rfl,k3 M' c.1 fun j q hq hlt => ?_⟩⟩;obtain ⟨v,hv',hr,_,_⟩:=o4 j q hq;have hq':=hb2 q (jq hq);refine (Bq hq'.1).2 ⟨v,?_,Rep.flat [] hq'.2 (hr.mono hmem)⟩;rw[hM']; simp only[gV]; rw[aJ hlt]; exact hv'
  .rename_i hjk;obtain ⟨s1,s2,s3⟩:=hI.slots j p hj;refine ⟨s1,s2.mono hmem,s3.kept fun b ho=>⟨rfl,hne b (hfc b ?_)⟩⟩;have:=EN (s:=Z.s) (t:=t) (k:=j) (b:=b);simp only[mM,hj] at this;omega
 .have hii:i'≠i:=fun e=>by subst e;rw[ql (eP.1 hi).1] at hi';cases hi'
  simp only at hi';rw[lN (Ne.symm hii)] at hi';obtain ⟨c',hc',vs',ty',q1,q2,q3,q4,q5⟩:=hI.heap.2 i' cs' hi';have hoc:∀ b,1<=(if c'.1=b then 1 else 0)+dN cs' (gZ w c'.1) b->b≠c.1:=fun b h e=>by subst e;have h2:=EM (w:=w) (b:=c.1) hi hc;have h3:=kU (w:=w) (h:=Z.h.set i none) c.1 (by rw[lN (Ne.symm hii)]; exact hi') hc';have:=hI.cnt c.1;simp only[gV] at h2;simp only[fp] at this; omega
  refine ⟨c',hc',vs',ty',q1,q2,q3,fun j p hj => ?_,fun o => ?_⟩
  .obtain ⟨v,a1,a2,a3,a4⟩:=q4 j p hj;refine ⟨v,a1,a2.mono hmem,a3.kept fun b ho=>⟨rfl,hne b (hoc b ?_)⟩,a4⟩;have:=xh b hj (by rw[oW q1]; simpa using a1:(gZ w c'.1)[j]? = some v);omega
  .rw[hne c'.1 (hoc c'.1 (by simp))]; exact q5 o
theorem aWH (hI:Inv n M B out Z t w) (k:Nat):∃ M',bz n out m0 M B Z t w M' B (XN k Z) t w:=by
 unfold XN;split;case h_2=>exact ⟨M,bz.refl hI⟩
 rename_i i hk;split;case h_2=>exact ⟨M,bz.refl hI⟩
 rename_i cs hi;split;case h_2=>exact ⟨M,bz.refl hI⟩
 rename_i hb;simp only[au,iC,iy] at hb;obtain ⟨hb0,hb2⟩:=hb;generalize hsz:cs.length=sz at hb0 ⊢;have hb1:1*sz<=cs.length:=by omega
 obtain ⟨hkn,hrep,_⟩:=hI.slots k _ hk;obtain ⟨c,⟨hc,hcm⟩,hv⟩:=wQ.1 hrep;obtain ⟨vs,ty,r1,o2,o3,o4,o5⟩:=hI.heap.at hi hc;obtain ⟨ty,rfl,o1⟩:=ER r1 (by rw[o2.2]; exact hcm);have hkt:k<t.size:=by rw[hI.size]; exact hkn
 have hown:1<=aU w Z.h B c.1:=by have:=kU (w:=w) c.1 hi hc;simp only[gV] at this; omega
 obtain ⟨M',hM'⟩:∃ M':Mem,∀ b o,M' b o=if b=c.1 then (if o<1*sz then vs[o]? else none) else M b o:=⟨CG _ _,EJ (TD o5)⟩
 have hmem:dJ M M' B B:=⟨fun b o v h=>by
  have:b≠c.1:=fun e=>by subst e; rw[o5] at h; cases h
  rw[hM']; simp only[aK this]; exact h,fun _ _ h=>h⟩
 have hne:∀ b,b≠c.1->∀ o,M' b o=M b o:=fun b h o=>by rw[hM']; simp only[aK h]
 have hcell:∀ o,w.cell? ⟨c.1,o,none⟩=vs[o]? := fun o=>by simp[World.cell?,o1]
 obtain ⟨k1,k2,k3⟩:=Wi hb0 hb1 fun p hp=>(hb2 p hp).1
 obtain ⟨x,hx⟩:∃ x,mX sz cs 1 = [x]:=by
  match hh:mX sz cs 1,k1 with
  | [x],_=>exact ⟨x,rfl⟩
 rw[hx] at k3 ⊢;show ∃ M',bz n out m0 M B Z t w M' B ⟨iF k (.cst x) Z.s,Z.h.set i none⟩ t w;have hH:=fun b=>EM (w:=w) (b:=b) hi hc
 have hS:=fun b=>UM (t:=t) (p := .cst x) (b:=b) hkt hI.gu
 have hfp:∀ b,fp B ⟨iF k (.cst x) Z.s,Z.h.set i none⟩ t w b<=fp B Z t w b:=fun b=>by have h1:=hS b;have h2:=hH b;rw[dO rfl] at h1;simp only[fp]; omega
 have hfc:∀ b,1<=iD Z.s t b->b≠c.1:=fun b h e=>by subst e;have:=hI.cnt c.1;simp only[fp] at this; omega
 refine ⟨M',⟨⟨hI.size,fun b o v h => ?_,Ci hI.gu,fun j p hj => ?_,⟨by simp[hI.heap.1],fun i' cs' hi' => ?_⟩,fun b=>by have:=hfp b; have:=hI.cnt b; omega,fun b hb=>by have:=hfp b; have:=hI.new b hb; omega⟩,hmem.mem,fun _ _ _ h=>h,⟨rfl,rfl,rfl,bW _,fun b hb h0=>⟨rfl,hne b (fun e=>by subst e; simp only[fp] at h0; omega)⟩⟩,fun b _=>hfp b⟩⟩
 .by_cases e:b=c.1
  .subst e;rw[hM'] at h;simp only[gV] at h;split at h
   .rename_i ho;rw[hcell];refine ⟨h,?_⟩;obtain ⟨q,hq⟩:∃ q,cs[o]? = some q:=⟨_,iM (by omega)⟩;obtain ⟨v',hv',_,_,h1⟩:=o4 o q hq;rw[hv'] at h; cases h; exact h1
   .cases h
  .rw[hne b e] at h; exact hI.mem b o v h
 .rw[Cf j hI.gu] at hj;split at hj
  .rename_i e; subst e; injection hj with hj; subst hj
   refine ⟨hkn,?_,fG rfl⟩;rw[hv];refine Au.2 ⟨c.1,0,rfl,(KF.1 (k3 M' c.1 fun j q hq hlt => ?_)).1⟩;obtain ⟨v,hv',hr,_,_⟩:=o4 j q hq;have hq':=hb2 q (jq hq);refine (Bq hq'.1).2 ⟨v,?_,Rep.flat [] hq'.2 (hr.mono hmem)⟩;rw[hM']; simp only[gV]; rw[aJ hlt]; exact hv'
  .rename_i hjk;obtain ⟨s1,s2,s3⟩:=hI.slots j p hj;refine ⟨s1,s2.mono hmem,s3.kept fun b ho=>⟨rfl,hne b (hfc b ?_)⟩⟩;have:=EN (s:=Z.s) (t:=t) (k:=j) (b:=b);simp only[mM,hj] at this;omega
 .have hii:i'≠i:=fun e=>by subst e;rw[ql (eP.1 hi).1] at hi';cases hi'
  simp only at hi';rw[lN (Ne.symm hii)] at hi';obtain ⟨c',hc',vs',ty',q1,q2,q3,q4,q5⟩:=hI.heap.2 i' cs' hi';have hoc:∀ b,1<=(if c'.1=b then 1 else 0)+dN cs' (gZ w c'.1) b->b≠c.1:=fun b h e=>by subst e;have h2:=EM (w:=w) (b:=c.1) hi hc;have h3:=kU (w:=w) (h:=Z.h.set i none) c.1 (by rw[lN (Ne.symm hii)]; exact hi') hc';have:=hI.cnt c.1;simp only[gV] at h2;simp only[fp] at this; omega
  refine ⟨c',hc',vs',ty',q1,q2,q3,fun j p hj => ?_,fun o => ?_⟩
  .obtain ⟨v,a1,a2,a3,a4⟩:=q4 j p hj;refine ⟨v,a1,a2.mono hmem,a3.kept fun b ho=>⟨rfl,hne b (hoc b ?_)⟩,a4⟩;have:=xh b hj (by rw[oW q1]; simpa using a1:(gZ w c'.1)[j]? = some v);omega
  .rw[hne c'.1 (hoc c'.1 (by simp))]; exact q5 o
theorem Yx {p:PV} (h:p.lit=true):p.own=false:=by cases p<;>first | rfl | (simp[PV.lit] at h)
theorem aNQ {cs:bSH} {us:List Value} {b:Nat} (h:∀ p,p∈cs->p.own=false):dN cs us b=0:=by
 induction cs generalizing us with
 | nil=>cases us<;>rfl
 | cons p cs ih =>
  cases us with
  | nil=>rfl
  | cons u us=>rw[dN,dO (h p (by simp)),ih fun q hq=>h q (by simp[hq])]
theorem aNT {p0 q:PV} {v:Value} {b:Nat} (hq:q.own=false):∀ (cs:bSH) (us:List Value) (j:Nat),cs[j]? = some p0->us[j]? = some v->dN (cs.set j q) us b+bI p0 v b=dN cs us b:=by
 intro cs;induction cs with
 | nil=>intro us j h1; simp at h1
 | cons c cs ih =>
  intro us j h1 h2;cases us with
  | nil=>simp at h2
  | cons u us =>
   cases j with
   | zero=>simp at h1 h2; subst h1; subst h2; simp only[Eh,dN,dO hq]; omega
   | succ j=>have:=ih us j (by simpa using h1) (by simpa using h2); simp only[yz,dN]; omega
theorem a6S {cs cs':bSH} {c:Nat×Nat×TypeId} {k b:Nat} (hk:dN cs' (gZ w c.1) b+k=dN cs (gZ w c.1) b):∀ (h:aI) (B:aV) (i:Nat),h[i]? = some (some cs)->B[i]? = some c->aU w (h.set i (some cs')) B b+k=aU w h B b:=by
 intro h;induction h with
 | nil=>intro B i h1; simp at h1
 | cons x h ih =>
  intro B i h1 h2;cases B with
  | nil=>simp at h2
  | cons d B =>
   cases i with
   | zero=>simp at h1 h2; subst h1; subst h2; simp only[Eh,aU]; omega
   | succ i =>simp at h1 h2;have:=ih B i h1 h2;cases x<;>simp only[yz,aU]<;>omega
theorem aQ1 {M:Mem} {w:World} {k sz:Nat} {cs:bSH} {v:Value} (hr:Rep M B (.fJ true k sz cs) v) (hT:Tl M w (.fJ true k sz cs) v) (hk:1<=k) :
 ∃ g cap vs ty,v = .slice (some ⟨g,0,none⟩) k cap/\k<=cap/\w.heap[g]? = some (.cells vs ty (0,0))/\cap*sz<=vs.size/\cs.length=k*sz/\0<sz/\(∀ (j:Nat) p,cs[j]? = some p->p.lit=true/\∃ u,vs[j]? = some u/\Rep KP [] p u/\u.oneCell'=true)/\∀ o,M g o=none:=by
 obtain ⟨A,cap,e1,hle⟩:=EO.1 hr;obtain ⟨⟨h1,h2⟩,h3,h4⟩:=hT.p _ _ _ _ _ _ rfl e1;cases A with
 | none=>have:=h3 rfl; omega
 | some ad =>obtain ⟨vs,ty,g1,g2,g3,g4,g5,g6⟩:=h4 ad rfl;obtain ⟨g,off,spot⟩:=ad;simp only at g1 g4 g5 g6;subst g5; subst g6;exact ⟨g,cap,vs,ty,e1,hle,g1,g2,h1,h2,g3,g4⟩
theorem aQ0 {M:Mem} {w:World} {k sz:Nat} {cs:bSH} {v:Value} (hr:Rep M B (.fJ true k sz cs) v) (hT:Tl M w (.fJ true k sz cs) v) (hk:k=0):Rep M B (.sl false sz []) v:=by obtain ⟨A,cap,e1,hle⟩:=EO.1 hr;obtain ⟨⟨h1,h2⟩,h3,h4⟩:=hT.p _ _ _ _ _ _ rfl e1;subst hk;exact jW.2 ⟨A,cap,e1,BH _,by simp,fun h=>by omega,by simp⟩
theorem bN2 (hI:Inv n M B out Z t w) (k:Nat):∃ B',bz n out m0 M B Z t w M B' (PU k Z) t w:=by
 unfold PU;split;case h_2=>exact ⟨B,bz.refl hI⟩
 rename_i m sz cs hk;obtain ⟨hkn,hrep,hT⟩:=hI.slots k _ hk;have hkt:k<t.size:=by rw[hI.size]; exact hkn
 split
 .rename_i hm;have hm:=QH hm;obtain ⟨g,cap,vs,ty,hv,hle,r1,r2,r3,r4,r5,r6⟩:=aQ1 hrep hT hm;have hBl:Z.h.length=B.length:=hI.heap.1;have hle2:dJ M M B (B ++ [(g,vs.size,ty+1)]):=⟨fun _ _ _ h=>h,fun i c h=>by rw[lF (eP.1 h).1]; exact h⟩;have hown:∀ p,p∈cs->p.own=false:=fun p hp=>by obtain ⟨j,hj⟩:=DI.1 hp;exact Yx (r5 j p hj).1
  have hfp:∀ b,fp (B ++ [(g,vs.size,ty+1)]) ⟨iF k (.slh Z.h.length 0 m sz) Z.s,Z.h ++ [some cs]⟩ t w b=fp B Z t w b:=fun b=>by
   have h1:=UM (t:=t) (p := .slh Z.h.length 0 m sz) (b:=b) hkt hI.gu;rw[dO rfl,mM,hk] at h1;have h2:bI (.fJ true m sz cs) (t.getD k undef) b=if g=b then 1 else 0:=by rw[hv]; simp[bI,PV.own]
   simp only at h1;rw[h2] at h1;simp only[fp];rw[Ou b hBl,aNQ hown];simp only;omega
  refine ⟨B ++ [(g,vs.size,ty+1)],⟨⟨hI.size,hI.mem,Ci hI.gu,fun j p hj => ?_,⟨by simp[hBl],fun i cs' hi => ?_⟩,fun b=>by rw[hfp]; exact hI.cnt b,fun b hb=>by rw[hfp]; exact hI.new b hb⟩,fun _ _ _ h=>h,fun i c _ h=>hle2.blk i c h,Fr.refl _ _ _,fun b _=>by rw[hfp]; exact bW _⟩⟩
  .rw[Cf j hI.gu] at hj;split at hj
   .rename_i e; subst e; injection hj with hj; subst hj
    exact ⟨hkn,by rw[hv]; exact tH.2 ⟨(g,vs.size,ty+1),cap,⟨by rw[hBl]; simp,by simp⟩,rfl,hle,by simpa using r2⟩,fG rfl⟩
   .obtain ⟨s1,s2,s3⟩:=hI.slots j p hj;exact ⟨s1,s2.mono hle2,s3⟩
  .rcases lq i Z.h.length with hlt | hge
   .simp only at hi;rw[lF hlt] at hi;obtain ⟨c,hc,vs',ty',q1,q2,q3,q4,q5⟩:=hI.heap.2 i cs' hi;exact ⟨c,hle2.blk _ _ hc,vs',ty',q1,q2,q3,fun j p hj=>by obtain ⟨v,a1,a2,a3,a4⟩:=q4 j p hj; exact ⟨v,a1,a2.mono hle2,a3,a4⟩,q5⟩
   .simp only at hi;rw[vO hge] at hi;have:i-Z.h.length=0:=by
     rcases Gg (i-Z.h.length) with h0 | h0
     .exact h0
     .rw[ww (by simp; omega)] at hi; cases hi
    rw[this] at hi;simp at hi; subst hi;have hi':i=B.length:=by omega
    subst hi';refine ⟨(g,vs.size,ty+1),by simp,vs,ty+1,CZ r1,⟨rfl,rfl⟩,?_,fun j p hj => ?_,r6⟩
    .rw[r3]; exact oM (vT _ hle) r2
    .obtain ⟨p1,u,p2,p3,p4⟩:=r5 j p hj;exact ⟨u,p2,aLZ p1 p3,fG (Yx p1),p4⟩
 .rename_i hm;have hm0:m=0:=by
   rcases Gg m with h | h
   .exact h
   .have:=VS h; rw[show Nat.ble 1 m=Nat.ble (Nat.succ 0) m from rfl] at hm; rw[this] at hm; cases hm
  have hfp:∀ b,fp B ⟨iF k (.sl false sz []) Z.s,Z.h⟩ t w b<=fp B Z t w b:=fun b=>by have h1:=UM (t:=t) (p := .sl false sz []) (b:=b) hkt hI.gu;rw[dO rfl] at h1;simp only[fp]; omega
  refine ⟨B,⟨⟨hI.size,hI.mem,Ci hI.gu,fun j p hj => ?_,hI.heap,fun b=>by have:=hfp b; have:=hI.cnt b; omega,fun b hb=>by have:=hfp b; have:=hI.new b hb; omega⟩,fun _ _ _ h=>h,fun i c _ h=>h,Fr.refl _ _ _,fun b _=>hfp b⟩⟩;rw[Cf j hI.gu] at hj;split at hj
  .rename_i e; subst e; injection hj with hj; subst hj
   exact ⟨hkn,aQ0 hrep hT hm0,fG rfl⟩
  .exact hI.slots j p hj
theorem bN1 (hI:Inv n M B out Z t w) (k j:Nat):∃ B',bz n out m0 M B Z t w M B' (Uu k j Z) t w:=by
 unfold Uu;split;case h_2=>exact ⟨B,bz.refl hI⟩
 rename_i i hk;split;case h_2=>exact ⟨B,bz.refl hI⟩
 rename_i cs0 hi;split;case h_2=>exact ⟨B,bz.refl hI⟩
 rename_i m sz cs hj;obtain ⟨c,hc,vs0,ty0,o1,o2,o3,o4,o5⟩:=hI.heap.2 i cs0 hi;obtain ⟨v,hv0,hrep,hT,hone⟩:=o4 j _ hj;have hBl:Z.h.length=B.length:=hI.heap.1;have hil:=(eP.1 hi).1;have hcs:∀ (q:PV) (b:Nat),q.own=false->dN (cs0.set j q) (gZ w c.1) b+bI (.fJ true m sz cs) v b=dN cs0 (gZ w c.1) b:=fun q b hq=>by rw[oW o1]; exact aNT hq cs0 vs0.toList j hj (by simpa using hv0)
 split
 .rename_i hm;have hm:=QH hm;obtain ⟨g,cap,vs,ty,hv,hle,r1,r2,r3,r4,r5,r6⟩:=aQ1 hrep hT hm;have hle2:dJ M M B (B ++ [(g,vs.size,ty+1)]):=⟨fun _ _ _ h=>h,fun i c h=>by rw[lF (eP.1 h).1]; exact h⟩;have hown:∀ p,p∈cs->p.own=false:=fun p hp=>by obtain ⟨j,hj⟩:=DI.1 hp;exact Yx (r5 j p hj).1
  have hfp:∀ b,fp (B ++ [(g,vs.size,ty+1)]) ⟨Z.s,Z.h.set i (some (cs0.set j (.slh Z.h.length 0 m sz))) ++ [some cs]⟩ t w b=fp B Z t w b:=fun b=>by
   have h1:=a6S (hcs (.slh Z.h.length 0 m sz) b rfl) Z.h B i hi hc;have h2:bI (.fJ true m sz cs) v b=if g=b then 1 else 0:=by rw[hv]; simp[bI,PV.own]
   rw[h2] at h1;simp only[fp];rw[Ou b (by rw[Eg]; exact hBl),aNQ hown];simp only;omega
  refine ⟨B ++ [(g,vs.size,ty+1)],⟨⟨hI.size,hI.mem,hI.gu,fun j p hj => ?_,⟨by simp[hBl],fun i' cs' hi' => ?_⟩,fun b=>by rw[hfp]; exact hI.cnt b,fun b hb=>by rw[hfp]; exact hI.new b hb⟩,fun _ _ _ h=>h,fun i c _ h=>hle2.blk i c h,Fr.refl _ _ _,fun b _=>by rw[hfp]; exact bW _⟩⟩
  .obtain ⟨s1,s2,s3⟩:=hI.slots j p hj;exact ⟨s1,s2.mono hle2,s3⟩
  .simp only at hi';rcases lq i' Z.h.length with hlt | hge
   .rw[lF (by rw[Eg]; exact hlt)] at hi';by_cases hii:i'=i
    .subst hii;rw[ql hil] at hi';injection hi' with hi'; injection hi' with hi'; subst hi'
     refine ⟨c,hle2.blk _ _ hc,vs0,ty0,o1,o2,by rw[Eg]; exact o3,fun j' p hj' => ?_,o5⟩;by_cases hjj:j=j'
     .subst hjj;rw[ql (eP.1 hj).1] at hj';injection hj' with hj'; subst hj'
      exact ⟨v,hv0,by rw[hv]; exact tH.2 ⟨(g,vs.size,ty+1),cap,⟨by rw[hBl]; simp,by simp⟩,rfl,hle,by simpa using r2⟩,fG rfl,hone⟩
     .rw[lN hjj] at hj';obtain ⟨u,a1,a2,a3,a4⟩:=o4 j' p hj';exact ⟨u,a1,a2.mono hle2,a3,a4⟩
    .rw[lN (Ne.symm hii)] at hi';obtain ⟨c,hc,vs',ty',q1,q2,q3,q4,q5⟩:=hI.heap.2 i' cs' hi';exact ⟨c,hle2.blk _ _ hc,vs',ty',q1,q2,q3,fun j p hj=>by obtain ⟨v,a1,a2,a3,a4⟩:=q4 j p hj; exact ⟨v,a1,a2.mono hle2,a3,a4⟩,q5⟩
   .rw[vO (by rw[Eg]; exact hge),Eg] at hi';have:i'-Z.h.length=0:=by
     rcases Gg (i'-Z.h.length) with h0 | h0
     .exact h0
     .rw[ww (by simp; omega)] at hi'; cases hi'
    rw[this] at hi';simp at hi'; subst hi';have hi2:i'=B.length:=by omega
    subst hi2;refine ⟨(g,vs.size,ty+1),by simp,vs,ty+1,CZ r1,⟨rfl,rfl⟩,?_,fun j p hj => ?_,r6⟩
    .rw[r3]; exact oM (vT _ hle) r2
    .obtain ⟨p1,u,p2,p3,p4⟩:=r5 j p hj;exact ⟨u,p2,aLZ p1 p3,fG (Yx p1),p4⟩
 .rename_i hm;have hm0:m=0:=by
   rcases Gg m with h | h
   .exact h
   .have:=VS h; rw[show Nat.ble 1 m=Nat.ble (Nat.succ 0) m from rfl] at hm; rw[this] at hm; cases hm
  have hfp:∀ b,fp B ⟨Z.s,Z.h.set i (some (cs0.set j (.sl false sz [])))⟩ t w b<=fp B Z t w b:=fun b=>by have h1:=a6S (hcs (.sl false sz []) b rfl) Z.h B i hi hc;simp only[fp]; omega
  refine ⟨B,⟨⟨hI.size,hI.mem,hI.gu,hI.slots,⟨by simp[hBl],fun i' cs' hi' => ?_⟩,fun b=>by have:=hfp b; have:=hI.cnt b; omega,fun b hb=>by have:=hfp b; have:=hI.new b hb; omega⟩,fun _ _ _ h=>h,fun i c _ h=>h,Fr.refl _ _ _,fun b _=>hfp b⟩⟩;simp only at hi';by_cases hii:i'=i
  .subst hii;rw[ql hil] at hi';injection hi' with hi'; injection hi' with hi'; subst hi'
   refine ⟨c,hc,vs0,ty0,o1,o2,by rw[Eg]; exact o3,fun j' p hj' => ?_,o5⟩;by_cases hjj:j=j'
   .subst hjj;rw[ql (eP.1 hj).1] at hj';injection hj' with hj'; subst hj'
    exact ⟨v,hv0,aQ0 hrep hT hm0,fG rfl,hone⟩
   .rw[lN hjj] at hj';exact o4 j' p hj'
  .rw[lN (Ne.symm hii)] at hi';exact hI.heap.2 i' cs' hi'
theorem aWG (hI:Inv n M B out Z t w) (k j:Nat):∃ M',bz n out m0 M B Z t w M' B (XL k j Z) t w:=by
 unfold XL;split;case h_2=>exact ⟨M,bz.refl hI⟩
 rename_i i2 hk;split;case h_2=>exact ⟨M,bz.refl hI⟩
 rename_i cs0 hi2;split;case h_2=>exact ⟨M,bz.refl hI⟩
 rename_i i m sz hj;split;case h_2=>exact ⟨M,bz.refl hI⟩
 rename_i cs hi;split;case h_2=>exact ⟨M,bz.refl hI⟩
 rename_i hb;simp only[au,iC,iy,y8] at hb;obtain ⟨⟨⟨hb1,hb0⟩,hb2⟩,hbn⟩:=hb;have hii2:i≠i2:=fun e=>by subst e; rw[Nat.beq_refl] at hbn; cases hbn
 obtain ⟨c2,hc2,vs2,ty2,p1,p2,p3,p4,p5⟩:=hI.heap.2 i2 cs0 hi2;obtain ⟨v,hv0,hrep,_,hone⟩:=p4 j _ hj;obtain ⟨c,cap,⟨hc,hcm⟩,hv,hle,hcap⟩:=tH.1 hrep;obtain ⟨vs,ty,r1,o2,o3,o4,o5⟩:=hI.heap.at hi hc;obtain ⟨ty,rfl,o1⟩:=ER r1 (by rw[o2.2]; exact hcm);have hown:1<=aU w Z.h B c.1:=by have:=kU (w:=w) c.1 hi hc;simp only[gV] at this; omega
 obtain ⟨M',hM'⟩:∃ M':Mem,∀ b o,M' b o=if b=c.1 then (if o<m*sz then vs[o]? else none) else M b o:=⟨CG _ _,EJ (TD o5)⟩
 have hmem:dJ M M' B B:=⟨fun b o v h=>by
  have:b≠c.1:=fun e=>by subst e; rw[o5] at h; cases h
  rw[hM']; simp only[aK this]; exact h,fun _ _ h=>h⟩
 have hne:∀ b,b≠c.1->∀ o,M' b o=M b o:=fun b h o=>by rw[hM']; simp only[aK h]
 have hcell:∀ o,w.cell? ⟨c.1,o,none⟩=vs[o]? := fun o=>by simp[World.cell?,o1]
 obtain ⟨k1,k2,k3⟩:=Wi hb0 hb1 fun p hp=>(hb2 p hp).1
 have hH:=fun b=>EM (w:=w) (b:=b) hi hc
 have bCN:(Z.h.set i none)[i2]? = some (some cs0):=by rw[lN hii2]; exact hi2
 have hcs:∀ b,dN (cs0.set j (.sl false sz (mX sz cs m))) (gZ w c2.1) b+bI (.slh i 0 m sz) v b=dN cs0 (gZ w c2.1) b:=fun b=>by rw[oW p1]; exact aNT rfl cs0 vs2.toList j hj (by simpa using hv0)
 have hfp:∀ b,fp B ⟨Z.s,(Z.h.set i none).set i2 (some (cs0.set j (.sl false sz (mX sz cs m))))⟩ t w b<=fp B Z t w b:=fun b=>by have h1:=a6S (hcs b) (Z.h.set i none) B i2 bCN hc2;have h2:=hH b;simp only[fp]; omega
 have hfc:∀ b,1<=iD Z.s t b->b≠c.1:=fun b h e=>by subst e;have:=hI.cnt c.1;simp only[fp] at this; omega
 have hother:∀ {i':Nat} {cs':bSH} {c':Nat×Nat×TypeId} {b:Nat},i'≠i->Z.h[i']? = some (some cs')->B[i']? = some c'->1<=(if c'.1=b then 1 else 0)+dN cs' (gZ w c'.1) b->b≠c.1:=fun {i' cs' c' b} hii hi' hc' h e=>by subst e;have h2:=EM (w:=w) (b:=c.1) hi hc;have h3:=kU (w:=w) (h:=Z.h.set i none) c.1 (by rw[lN (Ne.symm hii)]; exact hi') hc';have:=hI.cnt c.1;simp only[gV] at h2;simp only[fp] at this; omega
 refine ⟨M',⟨⟨hI.size,fun b o v h => ?_,hI.gu,fun j p hj => ?_,⟨by simp[hI.heap.1],fun i' cs' hi' => ?_⟩,fun b=>by have:=hfp b; have:=hI.cnt b; omega,fun b hb=>by have:=hfp b; have:=hI.new b hb; omega⟩,hmem.mem,fun _ _ _ h=>h,⟨rfl,rfl,rfl,bW _,fun b hb h0=>⟨rfl,hne b (fun e=>by subst e; simp only[fp] at h0; omega)⟩⟩,fun b _=>hfp b⟩⟩
 .by_cases e:b=c.1
  .subst e;rw[hM'] at h;simp only[gV] at h;split at h
   .rename_i ho;rw[hcell];refine ⟨h,?_⟩;obtain ⟨q,hq⟩:∃ q,cs[o]? = some q:=⟨_,iM (by omega)⟩;obtain ⟨v',hv',_,_,h1⟩:=o4 o q hq;rw[hv'] at h; cases h; exact h1
   .cases h
  .rw[hne b e] at h; exact hI.mem b o v h
 .obtain ⟨s1,s2,s3⟩:=hI.slots j p hj;refine ⟨s1,s2.mono hmem,s3.kept fun b ho=>⟨rfl,hne b (hfc b ?_)⟩⟩;have:=EN (s:=Z.s) (t:=t) (k:=j) (b:=b);simp only[mM,hj] at this;omega
 .by_cases hi22:i'=i2
  .subst hi22;simp only at hi';rw[ql (by rw[Eg]; exact (eP.1 hi2).1)] at hi';injection hi' with hi'; injection hi' with hi'; subst hi'
   refine ⟨c2,hc2,vs2,ty2,p1,p2,by rw[Eg]; exact p3,fun j' p hj' => ?_,fun o => ?_⟩
   .by_cases hjj:j=j'
    .subst hjj;rw[ql (eP.1 hj).1] at hj';injection hj' with hj'; subst hj'
     refine ⟨v,hv0,?_,fG rfl,hone⟩;rw[hv];refine jW.2 ⟨some ⟨c.1,0,none⟩,cap,by rw[k1],by rw[k1]; exact hle,k2,(fun h=>by omega),fun _=>⟨c.1,0,rfl,k3 M' c.1 fun j q hq hlt => ?_⟩⟩;obtain ⟨v,hv',hr,_,_⟩:=o4 j q hq;have hq':=hb2 q (jq hq);refine (Bq hq'.1).2 ⟨v,?_,Rep.flat [] hq'.2 (hr.mono hmem)⟩;rw[hM']; simp only[gV]; rw[aJ hlt]; exact hv'
    .rw[lN hjj] at hj';obtain ⟨u,a1,a2,a3,a4⟩:=p4 j' p hj';refine ⟨u,a1,a2.mono hmem,a3.kept fun b ho=>⟨rfl,hne b (hother (Ne.symm hii2) hi2 hc2 ?_)⟩,a4⟩;have:=xh b hj' (by rw[oW p1]; simpa using a1:(gZ w c2.1)[j']? = some u);omega
   .rw[hne c2.1 (hother (Ne.symm hii2) hi2 hc2 (by simp))]; exact p5 o
  .have hii:i'≠i:=fun e=>by subst e;simp only at hi';rw[lN (Ne.symm hi22),ql (eP.1 hi).1] at hi';cases hi'
   simp only at hi';rw[lN (Ne.symm hi22),lN (Ne.symm hii)] at hi';obtain ⟨c',hc',vs',ty',q1,q2,q3,q4,q5⟩:=hI.heap.2 i' cs' hi';refine ⟨c',hc',vs',ty',q1,q2,q3,fun j p hj => ?_,fun o => ?_⟩
   .obtain ⟨v,a1,a2,a3,a4⟩:=q4 j p hj;refine ⟨v,a1,a2.mono hmem,a3.kept fun b ho=>⟨rfl,hne b (hother hii hi' hc' ?_)⟩,a4⟩;have:=xh b hj (by rw[oW q1]; simpa using a1:(gZ w c'.1)[j]? = some v);omega
   .rw[hne c'.1 (hother hii hi' hc' (by simp))]; exact q5 o
theorem aWI (hI:Inv n M B out Z t w) (k:Nat):∃ M' B',bz n out m0 M B Z t w M' B' (xQ k Z) t w:=by
 unfold xQ;split
 .obtain ⟨M',h⟩:=aWH (m0:=m0) hI (k-9000000);exact ⟨M',B,h⟩
 split
 .obtain ⟨M',h⟩:=aWG (m0:=m0) hI ((k-5000000) / 100) ((k-5000000) % 100);exact ⟨M',B,h⟩
 split
 .obtain ⟨B',h⟩:=bN1 (m0:=m0) hI ((k-4000000) / 100) ((k-4000000) % 100);exact ⟨M,B',h⟩
 split
 .obtain ⟨B',h⟩:=bN2 (m0:=m0) hI ((k-3000000) % 500000);exact ⟨M,B',h⟩
 split
 .obtain ⟨M',h⟩:=aWJ (m0:=m0) hI (k-1000000);exact ⟨M',B,h⟩
 .obtain ⟨M',h⟩:=aWF (m0:=m0) hI k;exact ⟨M',B,h⟩
theorem XM:∀ (ks:List Nat) {M:Mem} {B:aV} {Z:ASt},Inv n M B out Z t w->∃ M' B',bz n out m0 M B Z t w M' B' (yL ks Z) t w
 | [],M,B,_,hI=>⟨M,B,bz.refl hI⟩
 | k::ks,M,B,Z,hI=>by obtain ⟨M1,B1,h1⟩:=aWI (m0:=m0) hI k;obtain ⟨M2,B2,h2⟩:=XM ks h1.inv;exact ⟨M2,B2,h1.trans h2⟩
theorem FC (hI:Inv n M B out Z t w) {l:List Nat} {m:Nat} (hm:m0<=m) (hg:Bf l m Z=true):bz n out m0 M B Z t w M (B.take m) (Z.gc l m) t w:=by
 unfold Bf at hg;simp only[au,iC] at hg;obtain ⟨g1,g2⟩:=hg;have hle:∀ b,fp (B.take m) (Z.gc l m) t w b<=fp B Z t w b:=fun b=>by have h1:=a6V (t:=t) (fun kp=>l.contains kp.1) b Z.s;have h2:=a6T (w:=w) m b Z.h B;simp only[fp,ASt.gc]; omega
 refine ⟨⟨hI.size,hI.mem,List.Pairwise.sublist List.filter_sublist hI.gu,fun k p hp => ?_,⟨by simp[ASt.gc,hI.heap.1],fun i cs hi => ?_⟩,fun b=>by have:=hle b; have:=hI.cnt b; omega,fun b hb=>by have:=hle b; have:=hI.new b hb; omega⟩,fun _ _ _ h=>h,fun i c hi hc=>by rw[iO,aJ (by omega)]; exact hc,Fr.refl _ _ _,fun b _=>hle b⟩
 .obtain ⟨s1,s2,s3⟩:=hI.slots k p (Zf (fun k=>l.contains k) hp);exact ⟨s1,s2.blw (g1 _ (Zg hp)),s3⟩
 .have hi0:=hi;simp only[ASt.gc] at hi;rw[iO] at hi;split at hi
  .rename_i hlt;obtain ⟨c,hc,vs,ty,o1,o2,o3,o4,o5⟩:=hI.heap.2 i cs hi;refine ⟨c,by rw[iO,aJ hlt]; exact hc,vs,ty,o1,o2,o3,fun j p hj => ?_,o5⟩;obtain ⟨v,a1,a2,a3,a4⟩:=o4 j p hj;refine ⟨v,a1,a2.blw ?_,a3,a4⟩;have:=iC.1 g2 _ (jq hi0);exact WN.1 this p (jq hj)
  .cases hi
theorem bKT (sz:List (Nat×List Nat)) {s:fH} (h:jE s):jE (vC sz s):=by
 induction s with
 | nil=>exact h
 | cons a l ih =>
  obtain ⟨k,p⟩:=a;obtain ⟨h1,h2⟩:=Cj.1 h;have hm:∀ (l:fH) (b:Nat×PV),b∈vC sz l->∃ c,c∈l/\c.1=b.1:=by
   intro l;induction l with
   | nil=>intro b hb; simp[vC] at hb
   | cons a l ih =>
    intro b hb;obtain ⟨k,p⟩:=a;rw[vC] at hb;rcases iQ.1 hb with hb | hb
    .refine ⟨(k,p),by simp,?_⟩;rw[hb]; split<;>rfl
    .obtain ⟨c,hc,e⟩:=ih b hb;exact ⟨c,by simp[hc],e⟩
  rw[vC];refine Cj.2 ⟨fun b hb => ?_,ih h2⟩;obtain ⟨c,hc,e⟩:=hm l b hb;have:=h1 c hc;rw[<- e];split<;>exact this
theorem aPR {sz:List (Nat×List Nat)} {k:Nat} {p:PV}:∀ {s:fH},bU k (vC sz s)=some p->∃ q,bU k s=some q/\(p=q\/∃ z,p=q.zn z)
 | [],h=>by simp[vC,bU] at h
 | (j,q)::l,h=>by
  rw[vC] at h;by_cases e:j=k
  .refine ⟨q,by rw[bU,aJ e],?_⟩;split at h<;>(rw[bU,aJ e] at h; injection h with h)
   .exact .inr ⟨_,h.symm⟩
   .exact .inl h.symm
  .have h':bU k (vC sz l)=some p:=by split at h<;>(rw[bU,aK e] at h; exact h)
   obtain ⟨r,h1,h2⟩:=aPR h';exact ⟨r,by rw[bU,aK e]; exact h1,h2⟩
theorem aNV {sz:List (Nat×List Nat)} {t:Array Value} {b:Nat}:∀ {s:fH},iD (vC sz s) t b=iD s t b
 | []=>rfl
 | (j,q)::l=>by rw[vC];split<;>simp only[iD,aNW,aNV]
theorem bKU (hI:Inv n M B out Z t w) (sz:List (Nat×List Nat)):Good n out M B Z t w M B { Z with s:=vC sz Z.s } t w:=by
 have hle:∀ b,fp B { Z with s:=vC sz Z.s } t w b=fp B Z t w b:=fun b=>by simp only[fp,aNV]
 refine ⟨⟨hI.size,hI.mem,bKT _ hI.gu,fun k p hp => ?_,hI.heap,fun b=>by have:=hle b; have:=hI.cnt b; omega,fun b hb=>by have:=hle b; have:=hI.new b hb; omega⟩,dJ.refl _ _,Fr.refl _ _ _,fun b _=>by rw[hle b]; exact bW _⟩;obtain ⟨q,h1,h2⟩:=aPR hp;obtain ⟨g1,g2,g3⟩:=hI.slots k q h1;rcases h2 with rfl | ⟨z,rfl⟩
 .exact ⟨g1,g2,g3⟩
 .exact ⟨g1,Ub z g2,aQP z g2 g3⟩
theorem aNN:∀ {zs:List Nat} {cs:bSH} {j:Nat} {p:PV},(xg zs cs)[j]? = some p->∃ q,cs[j]? = some q/\(p=q\/∃ z,p=q.IR z)
 | [],cs,j,p,h=>by cases cs<;>exact ⟨p,h,.inl rfl⟩
 | z::zs,[],j,p,h=>by simp[xg] at h
 | z::zs,c::cs,0,p,h=>by simp[xg] at h; exact ⟨c,rfl,.inr ⟨z,h.symm⟩⟩
 | z::zs,c::cs,j+1,p,h=>by rw[xg,a08] at h; simpa using aNN h
theorem aNO:∀ (zs:List Nat) (cs:bSH),(xg zs cs).length=cs.length
 | [],cs=>by cases cs<;>rfl
 | _::_,[]=>rfl
 | z::zs,c::cs=>by simp[xg,aNO zs cs]
theorem aNR:∀ {zs:List Nat} {cs:bSH} {vs:List Value} {b:Nat},(∀ (j:Nat) p v,cs[j]? = some p->vs[j]? = some v->Rep M B p v)->dN (xg zs cs) vs b=dN cs vs b
 | [],cs,vs,b,_=>by cases cs<;>rfl
 | _::_,[],vs,b,_=>rfl
 | z::zs,c::cs,[],b,_=>by simp[xg,dN]
 | z::zs,c::cs,v::vs,b,h=>by rw[xg,dN,dN,bHU (M:=M) (B:=B) z (h 0 c v rfl rfl),aNR fun j p u hp hu=>h (j+1) p u (by simpa using hp) (by simpa using hu)]
theorem bHH (hI:Inv n M B out Z t w) {i:Nat} {cs:bSH} (hi:Z.h[i]? = some (some cs)) (zs:List Nat):Good n out M B Z t w M B { Z with h:=Z.h.set i (some (xg zs cs)) } t w:=by
 obtain ⟨c,hc,vs,ty,o1,o2,o3,o4,o5⟩:=hI.heap.2 i cs hi;have hrep:∀ (j:Nat) p v,cs[j]? = some p->vs.toList[j]? = some v->Rep M B p v:=fun j p v hp hv=>by obtain ⟨u,a1,a2,_⟩:=o4 j p hp;rw[show vs[j]? = some v by simpa using hv] at a1; injection a1 with a1; subst a1; exact a2
 have hown:∀ b,aU w (Z.h.set i (some (xg zs cs))) B b=aU w Z.h B b:=fun b=>by
  have key:∀ (h:aI) (B':aV) (i:Nat),h[i]? = some (some cs)->B'[i]? = some c->aU w (h.set i (some (xg zs cs))) B' b=aU w h B' b:=by
   intro h;induction h with
   | nil=>intro B' i h1; simp at h1
   | cons x h ih =>
    intro B' i h1 h2;cases B' with
    | nil=>simp at h2
    | cons d B' =>
     cases i with
     | zero =>simp at h1 h2; subst h1; subst h2;simp only[Eh,aU];rw[oW o1,aNR hrep]
     | succ i =>
      simp at h1 h2;cases x with
      | none=>simp only[yz,aU]; exact ih B' i h1 h2
      | some ds=>simp only[yz,aU]; rw[ih B' i h1 h2]
  exact key Z.h B i hi hc
 have hfp:∀ b,fp B { Z with h:=Z.h.set i (some (xg zs cs)) } t w b=fp B Z t w b:=fun b=>by simp only[fp,hown]
 refine ⟨⟨hI.size,hI.mem,hI.gu,hI.slots,⟨by simp[hI.heap.1],fun i' cs' hi' => ?_⟩,fun b=>by rw[hfp]; exact hI.cnt b,fun b hb=>by rw[hfp]; exact hI.new b hb⟩,dJ.refl _ _,Fr.refl _ _ _,fun b _=>by rw[hfp]; exact bW _⟩;by_cases hii:i'=i
 .subst hii;rw[ql (eP.1 hi).1] at hi';injection hi' with hi'; injection hi' with hi'; subst hi'
  refine ⟨c,hc,vs,ty,o1,o2,by rw[aNO]; exact o3,fun j p hp => ?_,o5⟩;obtain ⟨q,hq,h⟩:=aNN hp;obtain ⟨u,a1,a2,a3,a4⟩:=o4 j q hq;rcases h with rfl | ⟨z,rfl⟩
  .exact ⟨u,a1,a2,a3,a4⟩
  .exact ⟨u,a1,bKM z a2,bN4 z a2 a3,a4⟩
 .rw[lN (Ne.symm hii)] at hi';exact hI.heap.2 i' cs' hi'
theorem aNP (s:fH):∀ (l:List (Nat×List Nat)) {Z:ASt},Inv n M B out Z t w->Good n out M B Z t w M B { Z with h:=a6Q s l Z.h } t w
 | [],Z,hI=>Good.refl hI
 | (k,zs)::l,Z,hI=>by
  have h1:Good n out M B Z t w M B { Z with h:=match bU k s with | some p=>a6U zs p Z.h | none=>Z.h } t w:=by
   split
   .rename_i p hp;unfold a6U;split
    .rename_i i;split
     .rename_i cs hcs; exact bHH hI hcs zs
     .exact Good.refl hI
    .exact Good.refl hI
   .exact Good.refl hI
  exact h1.trans (aNP s l h1.inv)
theorem YS {E:AE} (hI:Inv n M B out Z t w):Good n out M B Z t w M B (Z.head E) t w:=by have hk:=bEX hI E.vars;have h2:=bKU hk.inv E.sz;exact (hk.trans h2).trans (aNP (vC E.sz (Z.keep E.vars).s) E.pt h2.inv)
def lift (E:AE) (out:Nat->Nat) (m0:Nat) (M:Mem) (B:aV) (Z:ASt) (t:Array Value) (w:World) (ds:List Deferred) (Q:AX->ASt->Prop) (e:Exit) (a':Act) (w':World):Prop :=∃ ax Z' M' B',e=ax.toExit/\Q ax Z'/\a'.defers=ds/\bz E.n out m0 M B Z t w M' B' Z' a'.tmps w'
theorem Yv {ds:List Deferred} {Q:AX->ASt->Prop} (h:bz E.n out m0 M B Z t w M1 B1 Z1 t1 w1) {e:Exit} {a':Act} {w':World} (k:lift E out m0 M1 B1 Z1 t1 w1 ds Q e a' w'):lift E out m0 M B Z t w ds Q e a' w':=by obtain ⟨ax,Z',M',B',h1,h2,h3,h4⟩:=k;exact ⟨ax,Z',M',B',h1,h2,h3,h.trans h4⟩
theorem xK (hm:E.P.follows .mixedOrders=true):∀ (c:Code) {M:Mem} {B:aV} {Z:ASt} {a:Act} {w:World} {Q:AX->ASt->Prop},Inv E.n M B out Z a.tmps w->dF E m0 c Q Z->c.wp E.P (lift E out m0 M B Z a.tmps w a.defers Q) a w
 | .skip,M,B,Z,a,w,Q,hI,h=>wp_skip ⟨.normal,Z,M,B,rfl,h,rfl,bz.refl hI⟩
 | .label l,M,B,Z,a,w,Q,hI,h=>wp_label ⟨.normal,Z,M,B,rfl,h,rfl,bz.refl hI⟩
 | .exit id,M,B,Z,a,w,Q,hI,h=>wp_exit ⟨.exit id,Z,M,B,rfl,h,rfl,bz.refl hI⟩
 | .ret,M,B,Z,a,w,Q,hI,h=>wp_ret ⟨.ret,Z,M,B,rfl,h,rfl,bz.refl hI⟩
 | .region id ops draw,M,B,Z,a,w,Q,hI,h=>by
  have hk:=YS (E:=E) hI;rw[dF] at h;cases draw with
  | false =>simp only[uP,tX] at h;exact wp_region_list (Qy _ hk.inv h fun Z' M' B' a' w' hq hG hd=>⟨.normal,Z',M',B',rfl,hq,hd,(hk.trans hG).c⟩)
  | true =>simp only[gV] at h;exact aSX hm hk.inv h fun Z' M' B' a' w' hq hG hd=>⟨.normal,Z',M',B',rfl,hq,hd,(hk.trans hG).c⟩
 | .seq x y,M,B,Z,a,w,Q,hI,h=>by
  rw[dF] at h;refine wp_seq (vW (xK hm x hI h) fun e a' w' hl => ?_);obtain ⟨ax,Z',M',B',rfl,hq,hd,hG⟩:=hl;cases ax with
  | normal =>
   obtain ⟨ks,hq⟩:=hq;obtain ⟨M2,B2,hz⟩:=XM (m0:=m0) ks hG.inv;have hG:=hG.trans hz;rcases hq with hq | ⟨l,m,hm0,hg,hq⟩
   .exact vW (xK hm y hG.inv hq) fun e a2 w2 hl2=>by rw[hd] at hl2; exact Yv hG hl2
   .have hgc:=hG.trans (FC hG.inv hm0 hg);exact vW (xK hm y hgc.inv hq) fun e a2 w2 hl2=>by rw[hd] at hl2; exact Yv hgc hl2
  | ret=>exact ⟨.ret,Z',M',B',rfl,hq,hd,hG⟩
  | exit i=>exact ⟨.exit i,Z',M',B',rfl,hq,hd,hG⟩
 | .cond c x y,M,B,Z,a,w,Q,hI,h=>by
  rw[dF] at h;split at h
  .rename_i b hb;have he:=jo.1 (hI.rd _ _ hb).1;refine wp_cond_split he (fun hb=>xK hm x hI (h.1 hb)) (fun hb=>xK hm y hI (h.2 hb))
  .exact h.elim
 | .block id x,M,B,Z,a,w,Q,hI,h=>by
  rw[dF] at h;refine wp_block (vW (xK hm x hI h) fun e a' w' hl => ?_);obtain ⟨ax,Z',M',B',rfl,hq,hd,hG⟩:=hl;cases ax with
  | normal=>exact ⟨.normal,Z',M',B',rfl,hq,hd,hG⟩
  | ret=>exact ⟨.ret,Z',M',B',rfl,hq,hd,hG⟩
  | exit i =>
   simp only[AX.toExit,Exit.inBlock];simp only[Me] at hq;split
   .rename_i e; rw[aJ e] at hq; exact ⟨.normal,Z',M',B',rfl,hq,hd,hG⟩
   .rename_i e; rw[aK e] at hq; exact ⟨.exit i,Z',M',B',rfl,hq,hd,hG⟩
 | .scope x,M,B,Z,a,w,Q,hI,h=>by rw[dF] at h;refine wp_scope_straight (vW (xK hm x hI h) fun e a' w' hl => ?_);obtain ⟨ax,Z',M',B',rfl,hq,hd,hG⟩:=hl;cases ax<;>exact ⟨_,Z',M',B',rfl,hq,hd,hG⟩
 | .loop x,M,B,Z,a,w,Q,hI,h=>by
  rw[dF] at h;obtain ⟨k,hk⟩:=h;refine wp_loop_rounds k ?_;have key:∀ (k:Nat) (M1:Mem) (B1:aV) (Z1:ASt) (a1:Act) (w1:World),bz E.n out m0 M B Z a.tmps w M1 B1 Z1 a1.tmps w1->a1.defers=a.defers->Kz m0 (dF E m0 x) Q k Z1->Code.rounds E.P x (lift E out m0 M B Z a.tmps w a.defers Q) k a1 w1:=by
   intro k;induction k with
   | zero=>intro M1 B1 Z1 a1 w1 _ _ h; exact h.elim
   | succ k ih =>
    intro M1 B1 Z1 a1 w1 hG hd h;obtain ⟨l,m,hm0,hg,hb⟩:=h;have hgc:=FC hG.inv hm0 hg;rw[rounds_succ];refine vW (xK hm x hgc.inv hb) fun e a' w' hl => ?_
    obtain ⟨ax,Z',M',B',rfl,hq,hd',hG'⟩:=hl;have hG2:=(hG.trans hgc).trans hG';cases ax with
    | normal=>exact ih M' B' Z' a' w' hG2 (by rw[hd',hd]) hq
    | ret=>exact ⟨.ret,Z',M',B',rfl,hq,by rw[hd',hd],hG2⟩
    | exit i=>exact ⟨.exit i,Z',M',B',rfl,hq,by rw[hd',hd],hG2⟩
  exact key k M B Z a w (bz.refl hI) rfl hk
 | .rangeFunc f ps az b,_,_,_,_,_,_,_,h=>by rw[dF] at h; exact h.elim
 | .goto l,_,_,_,_,_,_,_,h=>by rw[dF] at h; exact h.elim
 | .refuse l,_,_,_,_,_,_,_,h=>by rw[dF] at h; exact h.elim
end
def lY:Nat->bSH->fH
 | _,[] => []
 | k,p::ps=>(k,p.un)::lY (k+1) ps
def resV (P:Program) (Z:ASt):ResultVar->Option PV
 | .tmp t=>bU t Z.s
 | .cell t ty=>match ti P ty,bU t Z.s with
  | some I,some q=>(nM false I q Z).map (·.1)
  | _,_=>none
def Kw (P:Program) (rs:List ResultVar) (m0:Nat) (r:PV) (h':aI) (Z:ASt):Prop :=
 m0<=h'.length/\Z.h.take h'.length=h'/\r.blw h'.length=true/\AP h'.length h'=true /\
  match rs with
  | [x]=>resV P Z x=some r
  | rs=>(jL (rs.map (resV P Z))).map (fun ps=>PV.tuple (ps.map PV.un))=some r
section
variable {n:Nat} {out:Nat->Nat} {m0:Nat} {M:Mem} {B:aV} {Z:ASt} {a:Act} {w:World} {P:Program}
def ZZ (tmps:Array Value):ResultVar->Sem Value
 | .tmp t=>pure (tmps.getD t undef)
 | .cell a t=>do loadVar t (<- asAddr (tmps.getD a undef))
theorem bKW (fn:Func) (tmps:Array Value):results fn tmps=(do let vs<-fn.results.mapM (ZZ tmps); pure (if h:vs.size=1 then vs[0] else .tuple vs)):=by unfold results;congr 1
theorem aOQ (hI:Inv n M B out Z a.tmps w) {x:ResultVar} {p:PV} (h:resV P Z x=some p) :
 ∃ v,(ZZ a.tmps x).run P w = .ok v w/\Rep M B p v/\Tl M w p v/\∀ b,bI p v b<=iD Z.s a.tmps b:=by
 cases x with
 | tmp t =>obtain ⟨h1,h2,h3⟩:=hI.slots t p h;refine ⟨_,rfl,h2,h3,fun b => ?_⟩;have:=EN (s:=Z.s) (t:=a.tmps) (k:=t) (b:=b);have h':bU t Z.s=some p:=h;simpa only[mM,h'] using this
 | cell c t =>
  simp only[resV] at h;split at h
  .rename_i I q hI' hq;cases hl:nM false I q Z with
   | none=>simp[hl] at h
   | some pZ =>
    obtain ⟨p',Z1⟩:=pZ;simp[hl] at h; subst h;have hrd:Z.rd (.tmp c)=some q.un:=by simp[ASt.rd,ASt.ev,hq]
    have hl':nM false I q.un Z=some (p',Z1):=by
     have:nM false I q.un Z=nM false I q Z:=by cases q<;>rfl
     rw[this,hl]
    obtain ⟨v,h1,h2⟩:=a5Z hI hI' hrd hl';have bCR:p'.own=false:=by
     unfold nM at hl;split at hl
     .split at hl
      .cases hl; exact qI _
      .cases hl
     .split at hl
      .split at hl
       .split at hl
        .cases hl; rfl
        .cases hl
       .split at hl
        .simp at hl; rw[<- hl.1]; exact qI _
        .cases hl
      .cases hl
     .cases hl
    refine ⟨v,?_,h2.rep,h2.tl,fun b=>by rw[dO bCR]; exact BH _⟩;show (do loadVar t (<- asAddr (a.tmps.getD c undef)):Sem Value).run P w=_;have he:a.eval (.tmp c)=a.tmps.getD c undef:=rfl;rw[he] at h1;have hr:=(hI.rd _ _ hrd).1;rw[he] at hr;have bCQ:∃ ad,a.tmps.getD c undef = .pointer (some ad):=by
     unfold nM at hl';split at hl'
     .rename_i e hq'; rw[hq'] at hr; obtain ⟨b,off,e1,_⟩:=Au.1 hr; exact ⟨_,e1⟩
     .rename_i i off hq'; rw[hq'] at hr; obtain ⟨cc,_,e1⟩:=wQ.1 hr; exact ⟨_,e1⟩
     .cases hl'
    obtain ⟨ad,had⟩:=bCQ;rw[had] at h1 ⊢;simpa[Instr.loadAt,Instr.sureAddr,asAddr] using h1
  .cases h
theorem aOR (hI:Inv n M B out Z a.tmps w):∀ {rs:List ResultVar} {ps:bSH},jL (rs.map (resV P Z))=some ps ->
 ∃ vs,(rs.mapM (ZZ a.tmps)).run P w = .ok vs w/\bC M B ps vs
 | [],ps,h=>by simp[jL] at h; subst h; exact ⟨[],by simp,eu.2 rfl⟩
 | x::rs,ps,h=>by
  have h':=Vu h;cases ps with
  | nil=>simp at h'
  | cons p ps =>
   simp only[qm,Lj] at h';obtain ⟨v,h1,h2,_,_⟩:=aOQ hI h'.1;have hall:∀ ps:bSH,jL (ps.map some)=some ps:=by
    intro ps; induction ps with
    | nil=>rfl
    | cons a l ih=>simp[jL,ih]
   obtain ⟨vs,h3,h4⟩:=aOR hI (rs:=rs) (ps:=ps) (by rw[h'.2]; exact hall ps);refine ⟨v::vs,?_,dD.2 ⟨v,vs,rfl,h2,h4⟩⟩;rw[List.mapM_cons,kX,h1,qM,kX,h3]; rfl
theorem aOV (hI:Inv n M B out Z a.tmps w) {fn:Func} {m0:Nat} {r:PV} {h':aI} (hr:Kw P fn.results.toList m0 r h' Z) :
 ∃ v,(results fn a.tmps).run P w = .ok v w/\Rep M B r v/\Tl M w r v/\∀ b,bI r v b<=iD Z.s a.tmps b:=by
 obtain ⟨_,_,_,_,hres⟩:=hr;have hst:∀ vs:List Value,(fn.results.toList.mapM (ZZ a.tmps)).run P w = .ok vs w->(results fn a.tmps).run P w = .ok (if h:vs.toArray.size=1 then vs.toArray[0] else .tuple vs.toArray) w:=fun vs h=>by rw[bKW,Array.mapM_eq_mapM_toList,kX,Sem.run_map,h]; rfl
 split at hres
 .rename_i x hx;obtain ⟨v,h1,h2,h3,h4⟩:=aOQ hI hres;refine ⟨v,?_,h2,h3,h4⟩;rw[hst [v] (by rw[hx,List.mapM_cons,kX,h1]; rfl)];rfl
 .rename_i hx;obtain ⟨ps,hps,rfl⟩:=J3.1 hres;obtain ⟨vs,h1,h2⟩:=aOR hI hps;have hne:vs.length≠1:=by
   have e1:=qH h2;have e2:=congrArg List.length (Vu hps);simp only[bM] at e2;intro h;generalize fn.results.toList=L at *;match L with
   | []=>simp at e2; omega
   | [x]=>exact hx x rfl
   | x::y::l=>simp at e2; omega
  refine ⟨.tuple vs.toArray,?_,tJ.2 ⟨_,rfl,by simpa using Ia h2⟩,fG rfl,fun b=>by rw[dO rfl]; exact BH _⟩;rw[hst vs h1,dif_neg (by simpa using hne)]
theorem a9W:∀ {args:bSH} {k j:Nat} {p:PV},bU j (lY k args)=some p->∃ i q,j=k+i/\args[i]? = some q/\p=q.un
 | [],_,_,_,h=>by simp[lY,bU] at h
 | q::qs,k,j,p,h=>by
  rw[lY,bU] at h;split at h
  .rename_i e; subst e; cases h; exact ⟨0,q,rfl,rfl,rfl⟩
  .obtain ⟨i,q',h1,h2,h3⟩:=a9W h;exact ⟨i+1,q',by omega,by simpa using h2,h3⟩
theorem a9X:∀ {args:bSH} {k:Nat},jE (lY k args)/\∀ x,x∈lY k args->k<=x.1
 | [],k=>⟨by simp[lY,jE],by simp[lY]⟩
 | q::qs,k=>by
  obtain ⟨h1,h2⟩:=a9X (args:=qs) (k:=k+1);rw[lY];refine ⟨Cj.2 ⟨fun x hx=>by have:=h2 x hx; show k<x.1; omega,h1⟩,fun x hx => ?_⟩;rcases iQ.1 hx with rfl | hx
  .exact bW _
  .have:=h2 x hx; omega
theorem Uk {t:Array Value} {b:Nat}:∀ {args:bSH} {k:Nat},iD (lY k args) t b=0
 | [],_=>rfl
 | q::qs,k=>by rw[lY,iD,KR,Uk]
def fin1 (p:PV) (z:List Nat×Bool):PV:=match z.2 with | true=>p.zn z.1 | false=>(p.zn z.1).un
def a1W:List (List Nat×Bool)->bSH->bSH
 | z::zs,p::ps=>fin1 p z::a1W zs ps
 | _,ps=>ps
def xP (ro:List (List Nat×Bool)) (r:PV):PV:=match ro,r with
 | [],r=>r
 | _,.tuple ps => .tuple (a1W ro ps)
 | z::_,r=>fin1 r z
theorem aEC {p:PV} {z:List Nat×Bool} {v:Value} (h:Rep M B p v):Rep M B (fin1 p z) v:=by
 unfold fin1; split
 .exact Ub _ h
 .exact nU.2 (Ub _ h)
theorem aED:∀ {zs:List (List Nat×Bool)} {ps:bSH} {vs:List Value},bC M B ps vs->bC M B (a1W zs ps) vs
 | [],ps,vs,h=>by cases ps<;>exact h
 | z::zs,[],vs,h=>h
 | z::zs,p::ps,vs,h=>by obtain ⟨u,us,rfl,h1,h2⟩:=dD.1 h;exact dD.2 ⟨u,us,rfl,aEC h1,aED h2⟩
theorem aEF {ro:List (List Nat×Bool)} {r:PV} {v:Value} (h:Rep M B r v):Rep M B (xP ro r) v:=by
 unfold xP; split
 .exact h
 .obtain ⟨vs,rfl,hr⟩:=tJ.1 h;exact tJ.2 ⟨vs,rfl,aED hr⟩
 .exact aEC h
theorem aW1 {p:PV} {z:List Nat×Bool} {v:Value} (hr:Rep M B p v) (h:Tl M w p v):Tl M w (fin1 p z) v:=by
 unfold fin1; split
 .exact aQP _ hr h
 .exact fG (qI _)
theorem aEG {ro:List (List Nat×Bool)} {r:PV} {v:Value} (hr:Rep M B r v) (h:Tl M w r v):Tl M w (xP ro r) v:=by
 unfold xP; split
 .exact h
 .exact fG rfl
 .exact aW1 hr h
theorem aEE {ro:List (List Nat×Bool)} {r:PV} {v:Value} {b:Nat}:bI (xP ro r) v b<=bI r v b:=by
 unfold xP; split
 .exact bW _
 .rw[dO rfl]; omega
 .unfold fin1; split
  .rw[aNW]; exact bW _
  .rw[KR]; omega
theorem aK2 {n:Nat} {h:aI} {args:bSH} {vals:Array Value} {out:Nat->Nat} {M:Mem} {B:aV} {w:World} (hlen:args.length<=n) (hmem:zX M w) (hheap:qO M B w h) (hcnt:∀ b,aU w h B b+out b<=1) (hnew:∀ b,w.heap.size<=b->aU w h B b+out b=0)
 (hv:bC M B args vals.toList):Inv n M B out ⟨lY 0 args,h⟩ (vals ++ Array.replicate (n-vals.size) undef) w:=by
 have hvl:=qH hv;simp only[Array.length_toList] at hvl;have hfp:∀ t b,fp B ⟨lY 0 args,h⟩ t w b=aU w h B b:=fun t b=>by simp only[fp,Uk]; omega
 refine ⟨by simp; omega,hmem,a9X.1,fun k p hk => ?_,hheap,fun b=>by rw[hfp]; exact hcnt b,fun b hb=>by rw[hfp]; exact hnew b hb⟩;obtain ⟨i,q,rfl,hq,rfl⟩:=a9W hk;obtain ⟨v,hv1,hv2⟩:=wS hv hq;have hi:=(eP.1 hq).1;refine ⟨by omega,?_,fG (qI _)⟩;have hvi:vals[i]? = some v:=by simpa using hv1
 have:(vals ++ Array.replicate (n-vals.size) undef).getD (0+i) undef=v:=by rw[kW,aB2,Lc (by omega),hvi]; rfl
 rw[this]; exact nU.2 hv2
theorem aEH {n:Nat} {fn:Func} {h h':aI} {args:bSH} {out:Nat->Nat} {M M':Mem} {B B':aV} {w w':World} {t:Array Value} {a':Act} {Z':ASt} {r0:PV} {ro:List (List Nat×Bool)} (hheap:qO M B w h)
 (hG:bz n out h.length M B ⟨lY 0 args,h⟩ t w M' B' Z' a'.tmps w') (hret:Kw P fn.results.toList h.length r0 h' Z'):∃ v,(results fn a'.tmps).run P w' = .ok v w'/\∃ M'' B'',Post h B out M w (xP ro r0) h' v M'' B'' w':=by
 have hfp:∀ t b,fp B ⟨lY 0 args,h⟩ t w b=aU w h B b:=fun t b=>by simp only[fp,Uk]; omega
 obtain ⟨v,hrun,hrep,htl,hown⟩:=aOV hG.inv hret;obtain ⟨hm0,hht,hb1,hb2,_⟩:=hret;generalize hm':h'.length=m at *;subst hht;have hpost:Post h B out M w (xP ro r0) (Z'.h.take m) v M' (B'.take m) w':=by
  have hBl:B.length=h.length:=hheap.1.symm;have htake:=fun b=>a6T (w:=w') m b Z'.h B'
  have hfin:∀ b,aU w' (Z'.h.take m) (B'.take m) b+bI (xP ro r0) v b<=fp B' Z' a'.tmps w' b:=fun b=>by have:=htake b; have:=hown b; have:=aEE (ro:=ro) (r:=r0) (v:=v) (b:=b); simp only[fp]; omega
  refine ⟨hG.inv.mem,⟨hG.mem,fun i c hc => ?_⟩,hG.fr.mono fun b hb h0=>by rw[hfp]; exact h0,⟨by simp[hG.inv.heap.1],fun i cs hi => ?_⟩,aEF (hrep.blw hb1),aEG (hrep.blw hb1) htl,fun b hb => ?_,fun b => ?_,fun b hb => ?_⟩
  .have hlt:=(eP.1 hc).1;rw[iO,aJ (by omega)];exact hG.pre i c (by omega) hc
  .have hi0:=hi;rw[iO] at hi;split at hi
   .rename_i hlt;obtain ⟨c,hc,vs,ty,o1,o2,o3,o4,o5⟩:=hG.inv.heap.2 i cs hi;refine ⟨c,by rw[iO,aJ hlt]; exact hc,vs,ty,o1,o2,o3,fun j p hj => ?_,o5⟩;obtain ⟨u,a1,a2,a3,a4⟩:=o4 j p hj;refine ⟨u,a1,a2.blw ?_,a3,a4⟩;have:=iC.1 hb2 _ (jq hi0);exact WN.1 this p (jq hj)
   .cases hi
  .have h1:=hG.own b hb; rw[hfp] at h1; exact oM (hfin b) h1
  .have h1:=hG.inv.cnt b; have:=hfin b; omega
  .have h1:=hG.inv.new b hb; have:=hfin b; omega
 exact ⟨v,hrun,M',_,hpost⟩
theorem sG.a6N {cp:CP} {g:FuncId} {fn:Func} {c:Code} (hcp:∀ {vals:Array Value} {w:World} {R:Ending->World->Prop},c.wp P (bodyPost P fn R) { tmps:=vals ++ Array.replicate (fn.ntmps-vals.size) undef,defers := [] } w->cp g vals w R) (hm:P.follows .mixedOrders=true) (hf:P.funcs[g]? = some fn) (hb:fn.body=some c) (hn:(fn.name != "runtime.NumGoroutine")=true) {args:bSH} {h:aI} {r:PV} {h':aI} (vars mv mu:List Nat) (sz jt lt pt:List (Nat×List Nat)) (fz:List Nat) (ro:List (List Nat×Bool)) (ft:List (Nat×List Nat)) (sy ln:List Nat) (hlen:args.length<=fn.ntmps)
 (hA:dF ⟨P,fn.ntmps,vars,mv,mu,sz,jt,lt,pt,fz,ft,sy,ln⟩ h.length c (fun e Z'=>(match e with | .exit _=>False | _=>True)/\∃ r0,Kw P fn.results.toList h.length r0 h' Z'/\xP ro r0=r) ⟨lY 0 args,h⟩):sG P cp g args h r h':=by
 refine ⟨by simp[callable,hf,hb]; simpa using hn,fun out M B w vals hmem hheap hcnt hnew hv => ?_⟩;have hI:=aK2 (n:=fn.ntmps) hlen hmem hheap hcnt hnew hv;refine hcp (vW (xK (E:=⟨P,fn.ntmps,vars,mv,mu,sz,jt,lt,pt,fz,ft,sy,ln⟩) (out:=out) (a := { tmps:=vals ++ Array.replicate (fn.ntmps-vals.size) undef,defers := [] }) hm c hI hA) fun e a' w' hl => ?_);obtain ⟨ax,Z',M',B',rfl,⟨hax,r0,hret,rfl⟩,hd,hG⟩:=hl;obtain ⟨v,hrun,M'',B'',hpost⟩:=aEH (ro:=ro) hheap hG hret;cases ax with
 | normal=>exact ⟨hd,v,hrun,v,M'',B'',rfl,hpost⟩
 | ret=>exact ⟨hd,v,hrun,v,M'',B'',rfl,hpost⟩
 | exit i=>exact hax.elim
end
theorem Ev.frame {P:Program} {g:FuncId} {args:bSH} {r:PV} (h:Ev P g args [] r []) (hr:r.flat=true) (ha:PV.flats args=true) (hh:aI):Ev P g args hh r hh:=h.frame' hr ha hh
theorem a1B {E:AE} {g:FuncId} {args:bSH} {dst:Option Nat} {K:ASt->Prop} {Z:ASt} {r:PV} (h:Ev E.P g args [] r []) (hr:r.flat=true) (ha:PV.flats args=true) (hk:ig E dst r Z K):N8 E g args dst K Z:=⟨r,Z.h,h.frame hr ha _,hk⟩
theorem wrap64 {n:Int} (h1 : -9223372036854775808<=n) (h2:n<=9223372036854775807):i64.wrap n=n:=IntWalk.i64_in n ⟨h1,h2⟩
theorem xw {E:AE} {dst:Option Nat} {p:PV} {Z:ASt} {K K':ASt->Prop} (hk:∀ Z,K Z->K' Z) (h:ig E dst p Z K):ig E dst p Z K':=by
 unfold ig at *;split at h
 .exact hk _ h
 .exact h.elim
theorem aQ8 {E:AE} {o:Oper} {Z:ASt} {K K':ASt->Prop} (hk:∀ Z,K Z->K' Z) (h:yX E o K Z):yX E o K' Z:=by
 unfold yX at *;split at h
 .exact ⟨h.1,xw hk h.2⟩
 .exact h.elim
theorem aQA {E:AE} {o:Oper} {Z:ASt} {K K':ASt->Prop} (hk:∀ Z,K Z->K' Z) (h:PT E o K Z):PT E o K' Z:=by
 rcases h with h | h
 .exact .inl (aQ8 hk h)
 .refine .inr ?_;unfold UA at *;split at h
  .exact fun b hb=>xw hk (h b hb)
  .exact h.elim
theorem WF {E:AE} {o:Oper} {Z:ASt} {K K':ASt->Prop} (hk:∀ Z,K Z->K' Z) (h:xI E o K Z):xI E o K' Z:=by
 unfold xI at *;split
 .rename_i c hc;simp only[hc] at h;split
  .rename_i f hf;simp only[hf] at h;split at h
   .rename_i h1 h2;obtain ⟨r,h',a,b⟩:=h;exact ⟨r,h',a,xw hk b⟩
   .exact h.elim
  .rename_i hf;split at h
   .rename_i f hf'; exact absurd hf' (hf f)
   .exact aQA hk h
 .rename_i hc;split at h
  .rename_i c hc'; exact absurd hc' (hc c)
  .exact aQA hk h
theorem DZ {E:AE} {ops:Array Oper} {K K':ASt->Prop} (hk:∀ Z,K Z->K' Z):∀ (l:List Oper) {Z:ASt},lG E ops l K Z->lG E ops l K' Z
 | [],Z,h=>hk Z h
 | o::l,Z,h=>by
  rw[lG] at h ⊢;split
  .rename_i hg;simp only[hg] at h;exact WF (fun Z hZ=>DZ hk l hZ) h
  .rename_i j want hg;simp only[hg] at h;split
   .rename_i hv;rw[hv] at h;exact xw (fun Z hZ=>DZ hk l hZ) h
   .rename_i b hv;rw[hv] at h;exact ⟨fun e=>WF (fun Z hZ=>DZ hk l hZ) (h.1 e),fun e=>xw (fun Z hZ=>DZ hk l hZ) (h.2 e)⟩
   .rename_i hv;rw[hv] at h;exact h.elim
theorem WE {E:AE} {o:Oper} {Z:ASt} {K K':ASt->Prop} (hk:∀ Z,K Z->K' Z) (h:BV E o K Z):BV E o K' Z:=by
 unfold BV at *;split
 .rename_i f args hc;simp only[hc] at h;split at h
  .rename_i h1 h2;rcases h with ⟨r,a,b,c,d⟩ | ⟨hsy,r,h',a,ro,d⟩
   .exact .inl ⟨r,a,b,c,xw hk d⟩
   .exact .inr ⟨hsy,r,h',a,ro,xw hk d⟩
  .exact h.elim
 .rename_i hc;simp only[hc] at h;exact aQ8 hk h
theorem Qx {E:AE} {ops:Array Oper} {K K':ASt->Prop} (hk:∀ Z,K Z->K' Z):∀ (l:List Oper) {Z:ASt},sN E ops l K Z->sN E ops l K' Z
 | [],Z,h=>hk Z h
 | o::l,Z,h=>by
  rw[sN] at h ⊢;split
  .rename_i hg;simp only[hg] at h;exact WE (fun Z hZ=>Qx hk l hZ) h
  .rename_i j want hg;simp only[hg] at h;split
   .rename_i hv;rw[hv] at h;exact xw (fun Z hZ=>Qx hk l hZ) h
   .rename_i b hv;rw[hv] at h;exact ⟨fun e=>WE (fun Z hZ=>Qx hk l hZ) (h.1 e),fun e=>xw (fun Z hZ=>Qx hk l hZ) (h.2 e)⟩
   .rename_i hv;rw[hv] at h;exact h.elim
theorem aSY {E:AE} {ops:Array Oper} {Z:ASt} {K K':ASt->Prop} (hk:∀ Z,K Z->K' Z) (h:WC E ops K Z):WC E ops K' Z:=⟨h.1,Qx hk _ h.2⟩
theorem aOX {m0:Nat} {b:(AX->ASt->Prop)->ASt->Prop} {Q Q':AX->ASt->Prop} (hb:∀ (Q Q':AX->ASt->Prop) (Z:ASt),(∀ e Z,Q e Z->Q' e Z)->b Q Z->b Q' Z) (hq:∀ e Z,Q e Z->Q' e Z):∀ (k:Nat) (Z:ASt),Kz m0 b Q k Z->Kz m0 b Q' k Z
 | 0,_,h=>h.elim
 | k+1,Z,⟨l,m,h1,h2,h3⟩=>⟨l,m,h1,h2,hb _ _ _ (fun e Z he=>by
  cases e with
  | normal=>exact aOX hb hq k Z he
  | ret=>exact hq _ _ he
  | exit i=>exact hq _ _ he) h3⟩
theorem xJ {E:AE} {m0:Nat}:∀ (c:Code) {Q Q':AX->ASt->Prop} {Z:ASt},(∀ e Z,Q e Z->Q' e Z)->dF E m0 c Q Z->dF E m0 c Q' Z
 | .skip,_,_,_,hq,h=>hq _ _ h
 | .label _,_,_,_,hq,h=>hq _ _ h
 | .exit _,_,_,_,hq,h=>hq _ _ h
 | .ret,_,_,_,hq,h=>hq _ _ h
 | .region _ ops draw,_,_,_,hq,h=>by
  rw[dF] at h ⊢;cases draw with
  | false=>simp only[uP,tX] at h ⊢; exact DZ (fun Z=>hq _ Z) _ h
  | true=>simp only[gV] at h ⊢; exact h.elim (fun h => .inl (aSY (fun Z=>hq _ Z) h)) fun h => .inr (aBD (fun Z=>hq _ Z) _ h)
 | .seq x y,Q,Q',_,hq,h=>by
  rw[dF] at h ⊢;refine xJ x (fun e Z he => ?_) h;cases e with
  | normal =>
   obtain ⟨ks,he⟩:=he;rcases he with he | ⟨l,m,a1,a2,he⟩
   .exact ⟨ks,.inl (xJ y hq he)⟩
   .exact ⟨ks,.inr ⟨l,m,a1,a2,xJ y hq he⟩⟩
  | ret=>exact hq _ _ he
  | exit i=>exact hq _ _ he
 | .cond c x y,_,_,_,hq,h=>by
  rw[dF] at h ⊢;split
  .rename_i b hb;rw[hb] at h;exact ⟨fun e=>xJ x hq (h.1 e),fun e=>xJ y hq (h.2 e)⟩
  .rename_i hb;split at h
   .rename_i b hb'; exact absurd hb' (hb b)
   .exact h
 | .block id x,_,_,_,hq,h=>by
  rw[dF] at h ⊢;refine xJ x (fun e Z he => ?_) h;cases e with
  | normal=>exact hq _ _ he
  | ret=>exact hq _ _ he
  | exit i =>
   simp only[Me] at he ⊢;split
   .rename_i e; rw[aJ e] at he; exact hq _ _ he
   .rename_i e; rw[aK e] at he; exact hq _ _ he
 | .loop x,_,_,_,hq,h=>by rw[dF] at h ⊢;obtain ⟨k,hk⟩:=h;exact ⟨k,aOX (b:=dF E m0 x) (fun _ _ _ hq hb=>xJ x hq hb) hq k _ hk⟩
 | .scope x,_,_,_,hq,h=>by rw[dF] at h ⊢; exact xJ x hq h
 | .rangeFunc ..,_,_,_,_,h=>by rw[dF] at h; exact h.elim
 | .goto _,_,_,_,_,h=>by rw[dF] at h; exact h.elim
 | .refuse _,_,_,_,_,h=>by rw[dF] at h; exact h.elim
theorem aC' {E:AE} {g:FuncId} {args:bSH} {dst:Option Nat} {K:ASt->Prop} {Z:ASt} {r:PV} (h:Ev E.P g args [] r []) (hr:r.flat=true) (ha:PV.flats args=true) (hk:ig E dst r Z K):WX E g args dst K Z := .inl ⟨r,h,hr,ha,hk⟩
section
variable {E:AE} {m0:Nat} {Q:AX->ASt->Prop} {Z:ASt}
end
section
variable {E:AE} {ops:Array Oper} {l:List Oper} {Q:ASt->Prop} {Z:ASt} {o:Oper}
@[simp] theorem bP9 : lG E ops [] Q Z = Q Z := rfl
@[simp] theorem bP8 : sN E ops [] Q Z = Q Z := rfl
theorem aS' (hc:ul o=none):xI E o Q Z=PT E o Q Z:=by
 unfold ul at hc;unfold xI;split
 .rename_i c hop;simp only[hop] at hc;split
  .rename_i f hf; simp only[hf] at hc; cases hc
  .rfl
 .rfl
end
@[simp] theorem bRZ (k : IntKind) (n : Int) : PV.un (.int k n) = .int k n := rfl
@[simp] theorem size_int (k : IntKind) (n : Int) : PV.size (.int k n) = 1 := rfl
@[simp] theorem bQA (k : IntKind) (n : Int) : PV.isAgg (.int k n) = false := rfl
@[simp] theorem bRB (k : IntKind) (n : Int) : PV.one (.int k n) = true := rfl
@[simp] theorem bQY (k : IntKind) (n : Int) : PV.okE (.int k n) = true := rfl
@[simp] theorem bQM (k : IntKind) (n : Int) : PV.newCells (.int k n) = some [.int k n] := rfl
@[simp] theorem bPE (m : Nat) (k : IntKind) (n : Int) : PV.blw m (.int k n) = true := by simp [PV.blw]
@[simp] theorem bPT (k : IntKind) (n : Int) : PV.flat (.int k n) = true := by simp [PV.flat]
@[simp] theorem bRW (b : Bool) : PV.un (.bool b) = .bool b := rfl
@[simp] theorem size_bool (b : Bool) : PV.size (.bool b) = 1 := rfl
@[simp] theorem bQ7 (b : Bool) : PV.isAgg (.bool b) = false := rfl
@[simp] theorem bR8 (b : Bool) : PV.one (.bool b) = true := rfl
@[simp] theorem bQV (b : Bool) : PV.okE (.bool b) = true := rfl
@[simp] theorem bQJ (b : Bool) : PV.newCells (.bool b) = some [.bool b] := rfl
@[simp] theorem bPB (m : Nat) (b : Bool) : PV.blw m (.bool b) = true := by simp [PV.blw]
@[simp] theorem bPQ (b : Bool) : PV.flat (.bool b) = true := by simp [PV.flat]
@[simp] theorem bS6 (s : ByteArray) : PV.un (.str s) = .str s := rfl
@[simp] theorem bRR (s : ByteArray) : PV.size (.str s) = 1 := rfl
@[simp] theorem bQG (s : ByteArray) : PV.isAgg (.str s) = false := rfl
@[simp] theorem bRH (s : ByteArray) : PV.one (.str s) = true := rfl
@[simp] theorem bR5 (s : ByteArray) : PV.okE (.str s) = true := rfl
@[simp] theorem bQS (s : ByteArray) : PV.newCells (.str s) = some [.str s] := rfl
@[simp] theorem bPK (m : Nat) (s : ByteArray) : PV.blw m (.str s) = true := by simp [PV.blw]
@[simp] theorem bPZ (s : ByteArray) : PV.flat (.str s) = true := by simp [PV.flat]
@[simp] theorem bR' : PV.un (.nilp) = .nilp := rfl
@[simp] theorem bRM : PV.size (.nilp) = 1 := rfl
@[simp] theorem bQB : PV.isAgg (.nilp) = false := rfl
@[simp] theorem bRC : PV.one (.nilp) = true := rfl
@[simp] theorem bQZ : PV.okE (.nilp) = true := rfl
@[simp] theorem bQN : PV.newCells (.nilp) = some [.nilp] := rfl
@[simp] theorem bPF (m : Nat) : PV.blw m (.nilp) = true := by simp [PV.blw]
@[simp] theorem bPU : PV.flat (.nilp) = true := by simp [PV.flat]
@[simp] theorem bS3 (v : Value) : PV.un (.raw v) = .raw v := rfl
@[simp] theorem bRO (v : Value) : PV.size (.raw v) = 1 := rfl
@[simp] theorem bQD (v : Value) : PV.isAgg (.raw v) = false := rfl
@[simp] theorem bRE (v : Value) : PV.one (.raw v) = true := rfl
@[simp] theorem bR0 (v : Value) : PV.okE (.raw v) = true := rfl
@[simp] theorem bQP (v : Value) : PV.newCells (.raw v) = some [.raw v] := rfl
@[simp] theorem bPH (m : Nat) (v : Value) : PV.blw m (.raw v) = true := by simp [PV.blw]
@[simp] theorem bPW (v : Value) : PV.flat (.raw v) = true := by simp [PV.flat]
@[simp] theorem bS0 (i off : Nat) : PV.un (.ptr i off) = .ptr i off := rfl
@[simp] theorem bRN (i off : Nat) : PV.size (.ptr i off) = 1 := rfl
@[simp] theorem bQC (i off : Nat) : PV.isAgg (.ptr i off) = false := rfl
@[simp] theorem bRD (i off : Nat) : PV.one (.ptr i off) = true := rfl
@[simp] theorem bQ' (i off : Nat) : PV.okE (.ptr i off) = false := rfl
@[simp] theorem bQO (i off : Nat) : PV.newCells (.ptr i off) = some [.ptr i off] := rfl
@[simp] theorem bPG (m : Nat) (i off : Nat) : PV.blw m (.ptr i off) = decide (i < m) := by simp [PV.blw]
@[simp] theorem bPV (i off : Nat) : PV.flat (.ptr i off) = false := by simp [PV.flat]
@[simp] theorem bRX (e : PV) : PV.un (.cst e) = .cst e := rfl
@[simp] theorem bRK (e : PV) : PV.size (.cst e) = 1 := rfl
@[simp] theorem bQ8 (e : PV) : PV.isAgg (.cst e) = false := rfl
@[simp] theorem bR9 (e : PV) : PV.one (.cst e) = true := rfl
@[simp] theorem bQW (e : PV) : PV.okE (.cst e) = true := rfl
@[simp] theorem bQK (e : PV) : PV.newCells (.cst e) = some [.cst e] := rfl
@[simp] theorem bPC (m : Nat) (e : PV) : PV.blw m (.cst e) = true := by simp [PV.blw]
@[simp] theorem bPR (e : PV) : PV.flat (.cst e) = true := by simp [PV.flat]
@[simp] theorem bS4 (o : Bool) (z : Nat) (es : bSH) : PV.un (.sl o z es) = .sl false z es := rfl
@[simp] theorem bRP (o : Bool) (z : Nat) (es : bSH) : PV.size (.sl o z es) = 1 := rfl
@[simp] theorem bQE (o : Bool) (z : Nat) (es : bSH) : PV.isAgg (.sl o z es) = false := rfl
@[simp] theorem bRF (o : Bool) (z : Nat) (es : bSH) : PV.one (.sl o z es) = true := rfl
@[simp] theorem bR3 (o : Bool) (z : Nat) (es : bSH) : PV.okE (.sl o z es) = true := rfl
@[simp] theorem bQQ (o : Bool) (z : Nat) (es : bSH) : PV.newCells (.sl o z es) = some [.sl false z es] := rfl
@[simp] theorem bPI (m : Nat) (o : Bool) (z : Nat) (es : bSH) : PV.blw m (.sl o z es) = true := by simp [PV.blw]
@[simp] theorem bPX (o : Bool) (z : Nat) (es : bSH) : PV.flat (.sl o z es) = true := by simp [PV.flat]
@[simp] theorem bS5 (i off n z : Nat) : PV.un (.slh i off n z) = .slh i off n z := rfl
@[simp] theorem bRQ (i off n z : Nat) : PV.size (.slh i off n z) = 1 := rfl
@[simp] theorem bQF (i off n z : Nat) : PV.isAgg (.slh i off n z) = false := rfl
@[simp] theorem bRG (i off n z : Nat) : PV.one (.slh i off n z) = true := rfl
@[simp] theorem bR4 (i off n z : Nat) : PV.okE (.slh i off n z) = false := rfl
@[simp] theorem bQR (i off n z : Nat) : PV.newCells (.slh i off n z) = some [.slh i off n z] := rfl
@[simp] theorem bPJ (m : Nat) (i off n z : Nat) : PV.blw m (.slh i off n z) = decide (i < m) := by simp [PV.blw]
@[simp] theorem bPY (i off n z : Nat) : PV.flat (.slh i off n z) = false := by simp [PV.flat]
@[simp] theorem bRY (f : Fn) (a c : bSH) : PV.un (.func f a c) = .func f a c := rfl
@[simp] theorem bRL (f : Fn) (a c : bSH) : PV.size (.func f a c) = 1 := rfl
@[simp] theorem bQ9 (f : Fn) (a c : bSH) : PV.isAgg (.func f a c) = false := rfl
@[simp] theorem bRA (f : Fn) (a c : bSH) : PV.one (.func f a c) = true := rfl
@[simp] theorem bQX (f : Fn) (a c : bSH) : PV.okE (.func f a c) = (PV.flats a && PV.flats c) := rfl
@[simp] theorem bQL (f : Fn) (a c : bSH) : PV.newCells (.func f a c) = some [.func f a c] := rfl
@[simp] theorem bPD (m : Nat) (f : Fn) (a c : bSH) : PV.blw m (.func f a c) = (PV.blws m a && PV.blws m c) := by simp [PV.blw]
@[simp] theorem bPS (f : Fn) (a c : bSH) : PV.flat (.func f a c) = (PV.flats a && PV.flats c) := by simp [PV.flat]
@[simp] theorem bRV (cs : bSH) : PV.un (.agg cs) = .agg cs := rfl
@[simp] theorem bRJ (cs : bSH) : PV.size (.agg cs) = cs.length := rfl
@[simp] theorem bQ6 (cs : bSH) : PV.isAgg (.agg cs) = true := rfl
@[simp] theorem bR7 (cs : bSH) : PV.one (.agg cs) = false := rfl
@[simp] theorem bQU (cs : bSH) : PV.okE (.agg cs) = (cs.all PV.one && PV.flats cs) := rfl
@[simp] theorem bQI (cs : bSH) : PV.newCells (.agg cs) = if cs.all PV.one then some (cs.map PV.un) else none := rfl
@[simp] theorem bPA (m : Nat) (cs : bSH) : PV.blw m (.agg cs) = PV.blws m cs := by simp [PV.blw]
@[simp] theorem flat_agg (cs : bSH) : PV.flat (.agg cs) = PV.flats cs := by simp [PV.flat]
@[simp] theorem bS7 (cs : bSH) : PV.un (.tuple cs) = .tuple cs := rfl
@[simp] theorem bRS (cs : bSH) : PV.size (.tuple cs) = 1 := rfl
@[simp] theorem bQH (cs : bSH) : PV.isAgg (.tuple cs) = false := rfl
@[simp] theorem bRI (cs : bSH) : PV.one (.tuple cs) = false := rfl
@[simp] theorem bR6 (cs : bSH) : PV.okE (.tuple cs) = false := rfl
@[simp] theorem bQT (cs : bSH) : PV.newCells (.tuple cs) = none := rfl
@[simp] theorem bPL (m : Nat) (cs : bSH) : PV.blw m (.tuple cs) = PV.blws m cs := by simp [PV.blw]
@[simp] theorem bP' (cs : bSH) : PV.flat (.tuple cs) = PV.flats cs := by simp [PV.flat]
@[simp] theorem bPN (m : Nat) : PV.blws m [] = true := rfl
@[simp] theorem bPM (m : Nat) (p : PV) (ps : bSH) : PV.blws m (p :: ps) = (p.blw m && PV.blws m ps) := by rw [PV.blws]
@[simp] theorem bQ1 : PV.flats [] = true := rfl
@[simp] theorem bQ0 (p : PV) (ps : bSH) : PV.flats (p :: ps) = (p.flat && PV.flats ps) := by rw [PV.flats]
attribute [simp] ASt.rdT Dk Me ASt.keep yX bY ASt.put ig iF lY jQ uG pop Fb ASt.rd ASt.ev bU F6 Dn ZE mP Value.oneCell' vG ASt.clr dC Kw resV nM wW Uo OE PN Un a0Y CJ BX a00 XC Yp RN Z5 Z4 vF jL Bf ASt.gc AP ul AZ dW
mutual
def jV (f:Nat->Nat):PV->PV
 | .ptr i o => .ptr (f i) o
 | .cZ T i => .cZ T (f i)
 | .slh i o n z => .slh (f i) o n z
 | .func fn a c => .func fn (jm f a) (jm f c)
 | .agg cs => .agg (jm f cs)
 | .tuple cs => .tuple (jm f cs)
 | .int k n => .int k n
 | .bool b => .bool b
 | .str s => .str s
 | .nilp => .nilp
 | .raw v => .raw v
 | .cst e => .cst e
 | .dB l => .dB l
 | .fJ o n z cs => .fJ o n z cs
 | .mp l => .mp l
 | .sl o z es => .sl o z es
def jm (f:Nat->Nat):bSH->bSH
 | [] => []
 | p::ps=>jV f p::jm f ps
end
mutual
def PV.allI (D:Nat->Bool):PV->Bool
 | .ptr i _=>D i
 | .cZ _ i=>D i
 | .slh i _ _ _=>D i
 | .func _ a c=>PV.mQ D a&&PV.mQ D c
 | .agg cs=>PV.mQ D cs
 | .tuple cs=>PV.mQ D cs
 | _=>true
def PV.mQ (D:Nat->Bool):bSH->Bool
 | []=>true
 | p::ps=>p.allI D&&PV.mQ D ps
end
def lC (f:Nat->Nat):Option (bSH)->Option (bSH)
 | some cs=>some (jm f cs)
 | none=>none
def rV:List Nat->Nat->Nat
 | [],_=>0
 | j::l,i=>bif Nat.beq j i then 0 else rV l i+1
def mf:List Nat->Nat->Bool
 | [],_=>false
 | j::l,i=>Nat.beq j i||mf l i
def pX (ids:List Nat) (n m:Nat):Nat:=match ids[m]? with | some i=>i | none=>n+(m-ids.length)
def oD:List Nat->aI->aI->aI
 | i::is,o::os,H=>oD is os (H.set i o)
 | _,_,H=>H
def nodupB:List Nat->Bool
 | []=>true
 | i::l => !(mf l i)&&nodupB l
def oq (H:aI) (i:Nat):Option (bSH):=match H[i]? with | some o=>o | none=>none
def vw (ids:List Nat) (H h':aI):aI:=oD ids ((h'.take ids.length).map (lC (pX ids H.length))) H ++ (h'.drop ids.length).map (lC (pX ids H.length))
theorem YX {l:List Nat} {i:Nat}:mf l i=true↔i∈l:=by
 induction l with
 | nil=>simp[mf]
 | cons j l ih =>
  rw[mf,y9,ih,iQ];constructor
  .rintro (h | h)
   .exact .inl (lm h).symm
   .exact .inr h
  .rintro (h | h)
   .subst h; exact .inl (by simp)
   .exact .inr h
theorem bJW {l:List Nat} {i:Nat} (h:i∈l):l[rV l i]? = some i:=by
 induction l with
 | nil=>simp at h
 | cons j l ih =>
  rw[rV];cases hb:Nat.beq j i with
  | true=>have:=lm hb; subst this; rfl
  | false =>
   have hne:j≠i:=fun e=>by subst e; simp at hb
   show (j::l)[rV l i+1]? = some i;rw[a08];exact ih (by rcases iQ.1 h with e | e; exact absurd e.symm hne; exact e)
section
variable {M:Mem} {B B':aV} {w w':World}
mutual
theorem aOL {f:Nat->Nat} {D:Nat->Bool} (hf:∀ i c,D i=true->B[i]? = some c->B'[f i]? = some c):∀ p:PV,p.allI D=true->∀ v,(aZ M B p).1 v->(aZ M B' (jV f p)).1 v
 | .int _ _,_,v,h=>by simpa only[jV,aZ] using h
 | .bool _,_,v,h=>by simpa only[jV,aZ] using h
 | .str _,_,v,h=>by simpa only[jV,aZ] using h
 | .nilp,_,v,h=>by simpa only[jV,aZ] using h
 | .raw _,_,v,h=>by simpa only[jV,aZ] using h
 | .cst _,_,v,h=>by simpa only[jV,aZ] using h
 | .sl _ _ _,_,v,h=>by simpa only[jV,aZ] using h
 | .dB _,_,v,h=>by simpa only[jV,aZ] using h
 | .fJ _ _ _ _,_,v,h=>by simpa only[jV,aZ] using h
 | .mp _,_,v,h=>by simpa only[jV,aZ] using h
 | .ptr i o,hd,v,h=>by simp only[aZ,gG] at h;simp only[jV,aZ,gG];obtain ⟨c,hc,e⟩:=h;exact ⟨c,⟨hf i c (by simpa only[PV.allI] using hd) hc.1,hc.2⟩,e⟩
 | .cZ T i,hd,v,h=>by simp only[aZ,gG] at h;simp only[jV,aZ,gG];obtain ⟨c,hc,e⟩:=h;exact ⟨c,hf i c (by simpa only[PV.allI] using hd) hc,e⟩
 | .slh i o n z,hd,v,h=>by simp only[aZ,gG] at h;simp only[jV,aZ,gG];obtain ⟨c,cap,hc,e⟩:=h;exact ⟨c,cap,⟨hf i c (by simpa only[PV.allI] using hd) hc.1,hc.2⟩,e⟩
 | .func fn a c,hd,v,h=>by simp only[PV.allI,au] at hd;simp only[aZ,gG] at h;simp only[jV,aZ,gG];obtain ⟨x,y,e,h1,h2⟩:=h;exact ⟨x,y,e,PG hf a hd.1 _ h1,PG hf c hd.2 _ h2⟩
 | .agg cs,hd,v,h=>by simp only[aZ] at h;simp only[jV,aZ];obtain ⟨vs,e,h1⟩:=h;exact ⟨vs,e,PG hf cs (by simpa only[PV.allI] using hd) _ h1⟩
 | .tuple cs,hd,v,h=>by simp only[aZ] at h;simp only[jV,aZ];obtain ⟨vs,e,h1⟩:=h;exact ⟨vs,e,PG hf cs (by simpa only[PV.allI] using hd) _ h1⟩
theorem PG {f:Nat->Nat} {D:Nat->Bool} (hf:∀ i c,D i=true->B[i]? = some c->B'[f i]? = some c):∀ ps:bSH,PV.mQ D ps=true->∀ vs,ng (gq M B ps) vs->ng (gq M B' (jm f ps)) vs
 | [],_,vs,h=>by simpa only[jm,gq] using h
 | p::ps,hd,vs,h=>by
  simp only[PV.mQ,au] at hd;cases vs with
  | nil=>simp[gq,ng] at h
  | cons v vs =>simp only[gq,ng] at h;simp only[jm,gq,ng];exact ⟨aOL hf p hd.1 v h.1,PG hf ps hd.2 vs h.2⟩
end
theorem a94 {f:Nat->Nat} {D:Nat->Bool} (hf:∀ i c,D i=true->B[i]? = some c->B'[f i]? = some c) {p:PV} (hd:p.allI D=true) {v:Value} (h:Rep M B p v):Rep M B' (jV f p) v:=aOL hf p hd v h
theorem bKS {f:Nat->Nat} {D:Nat->Bool} (hf:∀ i c,D i=true->B[i]? = some c->B'[f i]? = some c) {ps:bSH} (hd:PV.mQ D ps=true) {vs:List Value} (h:bC M B ps vs):bC M B' (jm f ps) vs:=PG hf ps hd vs h
mutual
theorem a0Q:∀ p:PV,p.allI (fun _=>true)=true
 | .func _ a c=>by simp only[PV.allI,Qs a,Qs c,yw]
 | .agg cs=>by simp only[PV.allI,Qs cs]
 | .tuple cs=>by simp only[PV.allI,Qs cs]
 | .ptr _ _=>rfl
 | .cZ _ _=>rfl
 | .slh _ _ _ _=>rfl
 | .int _ _=>rfl
 | .bool _=>rfl
 | .str _=>rfl
 | .nilp=>rfl
 | .raw _=>rfl
 | .cst _=>rfl
 | .sl _ _ _=>rfl
 | .dB _=>rfl
 | .fJ _ _ _ _=>rfl
 | .mp _=>rfl
theorem Qs:∀ ps:bSH,PV.mQ (fun _=>true) ps=true
 | []=>rfl
 | p::ps=>by simp only[PV.mQ,a0Q p,Qs ps,yw]
end
theorem bKI (f:Nat->Nat) (p:PV):(jV f p).own=p.own:=by cases p<;>rfl
theorem ZH (f:Nat->Nat) (p:PV) (v:Value) (b:Nat):bI (jV f p) v b=bI p v b:=by unfold bI; rw[bKI]
theorem aA4 {f:Nat->Nat} {p:PV} {v:Value} (h:Tl M w p v):Tl M w (jV f p) v:=by cases p<;>first | exact h | exact fG rfl
theorem a8X {f:Nat->Nat}:∀ {ps:bSH} {j:Nat},(jm f ps)[j]? =(ps[j]?).map (jV f)
 | [],j=>by simp[jm]
 | p::ps,0=>by simp[jm]
 | p::ps,j+1=>by rw[jm,a08,a08]; exact a8X
theorem a8Y {f:Nat->Nat}:∀ ps:bSH,(jm f ps).length=ps.length
 | []=>rfl
 | p::ps=>by simp[jm,a8Y ps]
theorem aNS {f:Nat->Nat} {b:Nat}:∀ (cs:bSH) (vs:List Value),dN (jm f cs) vs b=dN cs vs b
 | [],_=>by simp[jm,dN]
 | p::ps,[]=>by simp[jm,dN]
 | p::ps,v::vs=>by rw[jm,dN,dN,ZH,aNS ps vs]
theorem UL {f:Nat->Nat} {b:Nat}:∀ (h:aI) (B:aV),aU w (h.map (lC f)) B b=aU w h B b
 | [],_=>by simp[aU]
 | some cs::h,[]=>by simp[lC,aU]
 | none::h,[]=>by simp[lC,aU]
 | some cs::h,c::B=>by simp only[qm,lC,aU,aNS,UL h B]
 | none::h,c::B=>by simp only[qm,lC,aU,UL h B]
def o1 (w:World) (b:Nat) (o:Option (bSH)) (c:Nat×Nat×TypeId):Nat:=match o with | some cs=>(if c.1=b then 1 else 0)+dN cs (gZ w c.1) b | none=>0
theorem FX (o:Option (bSH)) (h:aI) (c:Nat×Nat×TypeId) (B:aV) (b:Nat):aU w (o::h) (c::B) b=o1 w b o c+aU w h B b:=by
 cases o with
 | none=>simp only[aU,o1]; omega
 | some cs=>simp only[aU,o1]
theorem aNU {b:Nat} {o:Option (bSH)}:∀ {H:aI} {B:aV} {i:Nat} {old:Option (bSH)} {c:Nat×Nat×TypeId},H[i]? = some old->B[i]? = some c->aU w (H.set i o) B b+o1 w b old c=aU w H B b+o1 w b o c
 | [],_,_,_,_,h,_=>by simp at h
 | _::_,[],_,_,_,_,h=>by simp at h
 | x::H,d::B,0,old,c,h1,h2=>by simp at h1 h2; subst h1; subst h2;rw[Eh,FX,FX]; omega
 | x::H,d::B,i+1,old,c,h1,h2=>by have:=aNU (b:=b) (o:=o) (H:=H) (B:=B) (i:=i) (by simpa using h1) (by simpa using h2);rw[yz,FX,FX]; omega
theorem a6R {b:Nat}:∀ {h k:aI} {B C:aV},h.length=B.length->aU w (h ++ k) (B ++ C) b=aU w h B b+aU w k C b
 | [],k,[],C,_=>by simp[aU]
 | o::h,k,c::B,C,e=>by rw[lM,lM,FX,FX,a6R (by simpa using e)]; omega
 | [],_,_::_,_,e=>by simp at e
 | _::_,_,[],_,e=>by simp at e
theorem LG:∀ (is:List Nat) (os H:aI),(oD is os H).length=H.length
 | [],os,H=>by cases os<;>rfl
 | i::is,[],H=>rfl
 | i::is,o::os,H=>by rw[oD,LG]; simp
theorem Ug {i:Nat}:∀ {is:List Nat} {os H:aI},i∉is->(oD is os H)[i]? = H[i]?
 | [],os,H,_=>by cases os<;>rfl
 | j::is,[],H,_=>rfl
 | j::is,o::os,H,h=>by rw[oD,Ug (fun e=>h (by simp[e])),lN (fun e=>h (by simp[e]))]
theorem aPQ:∀ {is:List Nat} {os H:aI} {j i:Nat} {o:Option (bSH)},is.Nodup->is[j]? = some i->os[j]? = some o->i<H.length->(oD is os H)[i]? = some o
 | [],_,_,_,_,_,_,h,_,_=>by simp at h
 | _::_,[],_,_,_,_,_,_,h,_=>by simp at h
 | k::is,q::os,H,0,i,o,hn,h1,h2,hi=>by simp at h1 h2; subst h1; subst h2;rw[oD,Ug (Lr.1 hn).1,ql hi]
 | k::is,q::os,H,j+1,i,o,hn,h1,h2,hi=>by rw[oD]; exact aPQ (Lr.1 hn).2 (by simpa using h1) (by simpa using h2) (by simpa using hi)
theorem Ze {b:Nat}:∀ {is:List Nat} {os H:aI},is.Nodup->os.length=is.length->(∀ i,i∈is->i<H.length/\i<B.length) ->
 aU w (oD is os H) B b+aU w (is.map (oq H)) (is.map fun i=>B.getD i (0,0,0)) b=aU w H B b+aU w os (is.map fun i=>B.getD i (0,0,0)) b
 | [],[],H,_,_,_=>by simp[oD,aU]
 | [],_::_,_,_,h,_=>by simp at h
 | _::_,[],_,_,h,_=>by simp at h
 | i::is,o::os,H,hn,hl,hb=>by
  obtain ⟨hn1,hn2⟩:=Lr.1 hn;obtain ⟨b1,b2⟩:=hb i (by simp);have ih:=Ze (b:=b) (is:=is) (os:=os) (H:=H.set i o) hn2 (by simpa using hl) fun j hj=>by simpa using hb j (by simp[hj])
  have e1:is.map (oq (H.set i o))=is.map (oq H):=List.map_congr_left fun j hj=>by unfold oq; rw[lN (fun e=>hn1 (by rw[e]; exact hj))]
  rw[e1] at ih;have hB:B[i]? = some (B.getD i (0,0,0)):=by rw[QB,iM b2]; rfl
  have hH:H[i]? = some (oq H i):=by unfold oq; rw[iM b1]
  have e2:=aNU (w:=w) (b:=b) (o:=o) hH hB;rw[oD,qm,qm,FX,FX];omega
theorem bHF {l:List Nat} (h:nodupB l=true):l.Nodup:=by
 induction l with
 | nil=>exact List.nodup_nil
 | cons i l ih =>simp only[nodupB,au,y8] at h;refine Lr.2 ⟨fun hm => ?_,ih h.2⟩;rw[YX.2 hm] at h; exact absurd h.1 (by simp)
theorem a4A {H:aI} {i:Nat} {cs:bSH}:oq H i=some cs↔H[i]? = some (some cs):=by
 unfold oq;cases h:H[i]? with
 | none=>simp
 | some o=>simp
end
theorem sG.sub {P:Program} {cp:CP} (hm:QT cp) {g:FuncId} {ids:List Nat} {H:aI} {big:bSH} {r:PV} {h':aI}
 (k:sG P cp g (jm (rV ids) big) ((ids.map (oq H)).map (lC (rV ids))) r h') (hnd:nodupB ids=true) (hlt:∀ i,i∈ids->i<H.length)
 (hbig:PV.mQ (mf ids) big=true) (hcs:∀ i cs,i∈ids->H[i]? = some (some cs)->PV.mQ (mf ids) cs=true):sG P cp g big H (jV (pX ids H.length) r) (vw ids H h'):=by
 have hnd:=bHF hnd;refine ⟨k.1,fun out M B w vals hmem hheap hcnt hnew hv => ?_⟩;have hBH:H.length=B.length:=hheap.1;let Bs:aV:=ids.map fun i=>B.getD i (0,0,0)
 let Hc:aI:=oD ids (ids.map fun _=>none) H
 have hBi:∀ i,i∈ids->B[i]? = some (B.getD i (0,0,0)):=fun i hi=>by rw[QB,iM (by rw[<- hBH]; exact hlt i hi)]; rfl
 have hin:∀ i,i∈ids->i<H.length/\i<B.length:=fun i hi=>⟨hlt i hi,by rw[<- hBH]; exact hlt i hi⟩
 have hpos:∀ i c,mf ids i=true->B[i]? = some c->Bs[rV ids i]? = some c:=fun i c hi hc=>by have hm:=YX.1 hi;show (ids.map fun i=>B.getD i (0,0,0))[rV ids i]? = some c;rw[iU,bJW hm,<- hc,hBi i hm]; rfl
 have hnone:∀ (l:List Nat) (C:aV) (w:World) b,aU w (l.map fun _=>(none:Option (bSH))) C b=0:=by
  intro l;induction l with
  | nil=>intro C w b; simp[aU]
  | cons i l ih=>intro C w b; cases C with
   | nil=>simp[aU]
   | cons c C=>rw[qm,FX,ih]; simp[o1]
 have hsum:∀ (w:World) (os:aI),os.length=ids.length->∀ b,aU w (oD ids os H) B b=aU w Hc B b+aU w os Bs b:=fun w os hl b=>by have e1:=Ze (w:=w) (b:=b) (is:=ids) (os:=os) hnd hl hin;have e2:=Ze (w:=w) (b:=b) (is:=ids) (os:=ids.map fun _=>none) hnd (by simp) hin;rw[hnone] at e2;show aU w (oD ids os H) B b=aU w (oD ids (ids.map fun _=>none) H) B b+aU w os (ids.map fun i=>B.getD i (0,0,0)) b;omega
 have hs1:∀ b,aU w Hc B b+aU w ((ids.map (oq H)).map (lC (rV ids))) Bs b=aU w H B b:=fun b=>by have e2:=Ze (w:=w) (b:=b) (is:=ids) (os:=ids.map fun _=>none) hnd (by simp) hin;rw[hnone] at e2;rw[UL];show aU w (oD ids (ids.map fun _=>none) H) B b+aU w (ids.map (oq H)) (ids.map fun i=>B.getD i (0,0,0)) b=_;omega
 have bCM:qO M Bs w ((ids.map (oq H)).map (lC (rV ids))):=by
  refine ⟨by simp[Bs],fun j cs' hj => ?_⟩;rw[iU,iU] at hj;cases hi:ids[j]? with
  | none=>simp[hi] at hj
  | some i =>
   have hm:i∈ids:=jq hi;cases ho:oq H i with
   | none=>simp[hi,ho,lC] at hj
   | some cs =>
    simp[hi,ho,lC] at hj; subst hj;have hHi:=a4A.1 ho;obtain ⟨c,hc,vs,ty,h1,h2,h3,h4,h5⟩:=hheap.2 i cs hHi;refine ⟨c,by show (ids.map fun i=>B.getD i (0,0,0))[j]? = some c; rw[iU,hi,<- hc,hBi i hm]; rfl,vs,ty,h1,h2,by rw[a8Y]; exact h3,fun l p hp => ?_,h5⟩;rw[a8X] at hp;cases hq:cs[l]? with
    | none=>simp[hq] at hp
    | some q =>
     simp[hq] at hp; subst hp;obtain ⟨u,a1,a2,a3,a4⟩:=h4 l q hq;have hd:q.allI (mf ids)=true:=by
      have:=hcs i cs hm hHi;have key:∀ (cs:bSH) (l:Nat),PV.mQ (mf ids) cs=true->cs[l]? = some q->q.allI (mf ids)=true:=by
       intro cs;induction cs with
       | nil=>intro l _ h; simp at h
       | cons c cs ih =>
        intro l h1 h2;simp only[PV.mQ,au] at h1;cases l with
        | zero=>simp at h2; subst h2; exact h1.1
        | succ l=>exact ih l h1.2 (by simpa using h2)
      exact key cs l this hq
     exact ⟨u,a1,a94 hpos hd a2,aA4 a3,a4⟩
 refine hm (k.2 (fun b=>out b+aU w Hc B b) M Bs w vals hmem bCM (fun b=>by have:=hs1 b; have:=hcnt b; omega) (fun b hb=>by have:=hs1 b; have:=hnew b hb; omega) (bKS hpos hbig hv)) fun e w' he => ?_
 obtain ⟨v,M',xB,rfl,hP⟩:=he;have bQ3:Bs.length=ids.length:=by simp[Bs]
 have a4H:∀ (m:Nat) c,Bs[m]? = some c->xB[m]? = some c:=hP.le.blk;have hl':h'.length=xB.length:=hP.heap.1;have hk:ids.length<=xB.length:=by
  rcases Gg ids.length with h0 | h0
  .omega
  .have:Bs[ids.length-1]? = some Bs[ids.length-1]:=iM (by omega);have:=(eP.1 (a4H _ _ this)).1;omega
 have htake:xB.take ids.length=Bs:=by
  apply Ll;intro m;rw[iO];split
  .rename_i hm;have:Bs[m]? = some Bs[m]:=iM (by omega);rw[this,a4H _ _ this]
  .rw[ww (by omega)]
 let B':aV:=B ++ xB.drop ids.length
 have hback:∀ m c,(fun _=>true) m=true->xB[m]? = some c->B'[pX ids H.length m]? = some c:=fun m c _ hc=>by
  unfold pX;rcases lq m ids.length with hm | hm
  .have hi:ids[m]? = some ids[m]:=iM hm;have hmem:ids[m]∈ids:=dw hm;rw[hi];have hb:Bs[m]? = some (B.getD ids[m] (0,0,0)):=by show (ids.map fun i=>B.getD i (0,0,0))[m]? = _; rw[iU,hi]; rfl
   have:=a4H _ _ hb;rw[hc] at this; injection this with this
   show (B ++ xB.drop ids.length)[ids[m]]? = some c;rw[lF (hin _ hmem).2,hBi _ hmem,this]
  .rw[ww hm];show (B ++ xB.drop ids.length)[H.length+(m-ids.length)]? = some c;rw[vO (by omega),GZ,<- hc];congr 1; omega
 have hlt':∀ b,1<=aU w Hc B b->b<w.heap.size/\aU w ((ids.map (oq H)).map (lC (rV ids))) Bs b=0:=fun b hb=>by
  have h1:=hs1 b;have h2:=hcnt b;refine ⟨?_,by omega⟩;rcases lq b w.heap.size with h' | h'
  .exact h'
  .have:=hnew b h'; omega
 have hun:∀ b,1<=aU w Hc B b->w'.heap[b]? = w.heap[b]? /\ ∀ o,M' b o=M b o:=fun b hb=>hP.fr.blk b (hlt' b hb).1 (hlt' b hb).2
 have Bh:∀ (i:Nat) cs c,Hc[i]? = some (some cs)->B[i]? = some c->1<=aU w Hc B c.1:=fun i cs c h1 h2=>by have:=kU (w:=w) c.1 h1 h2;simp only[gV] at this;omega
 have bCB:∀ b,aU w' Hc B b=aU w Hc B b:=fun b=>FW b fun i cs c h1 h2=>NC (hun c.1 (Bh i cs c h1 h2)).1
 have hle:dJ M M' B B':=⟨hP.le.mem,fun i c hc=>by show (B ++ xB.drop ids.length)[i]? = some c;rw[lF (eP.1 hc).1]; exact hc⟩;have hfin:∀ b,aU w' (vw ids H h') B' b=aU w Hc B b+aU w' h' xB b:=fun b=>by
  show aU w' (oD ids ((h'.take ids.length).map (lC (pX ids H.length))) H ++ (h'.drop ids.length).map (lC (pX ids H.length))) (B ++ xB.drop ids.length) b=_;rw[a6R (by rw[LG]; exact hBH),hsum w' _ (by simp; omega),UL,UL,bCB];have:aU w' h' xB b=aU w' (h'.take ids.length) Bs b+aU w' (h'.drop ids.length) (xB.drop ids.length) b:=by
   rw[<- htake];conv=>lhs; rw[<- QE ids.length h',<- QE ids.length xB]
   rw[a6R (by simp; omega)]
  omega
 refine ⟨v,M',B',rfl,hP.mem,hle,hP.fr.mono fun b hb h0=>by have:=hs1 b; omega,⟨?_,fun i cs hi => ?_⟩,a94 hback (a0Q r) hP.rep,aA4 hP.tl,fun b hb => ?_,fun b => ?_,fun b hb => ?_⟩
 .show (oD ids _ H ++ (h'.drop ids.length).map _).length=(B ++ xB.drop ids.length).length;simp only[aP,LG,bM,uQ]; omega
 .have key:∀ (m:Nat) (cs0:bSH),h'[m]? = some (some cs0)->cs=jm (pX ids H.length) cs0->i=pX ids H.length m->∃ c,B'[i]? = some c/\a0K M' B' w' cs c:=fun m cs0 hm e1 e2=>by
   obtain ⟨c,hc,vs,ty,h1,h2,h3,h4,h5⟩:=hP.heap.2 m cs0 hm;refine ⟨c,by rw[e2]; exact hback m c rfl hc,vs,ty,h1,h2,by rw[e1,a8Y]; exact h3,fun l p hp => ?_,h5⟩;rw[e1,a8X] at hp;cases hq:cs0[l]? with
   | none=>simp[hq] at hp
   | some q =>simp[hq] at hp; subst hp;obtain ⟨u,a1,a2,a3,a4⟩:=h4 l q hq;exact ⟨u,a1,a94 hback (a0Q q) a2,aA4 a3,a4⟩
  have hi0:(oD ids ((h'.take ids.length).map (lC (pX ids H.length))) H ++ (h'.drop ids.length).map (lC (pX ids H.length)))[i]? = some (some cs):=hi;rcases lq i H.length with hlt1 | hge
  .rw[lF (by rw[LG]; exact hlt1)] at hi0;by_cases hm:i∈ids
   .obtain ⟨j,hj⟩:=DI.1 hm;have hjl:=(eP.1 hj).1;have ho:((h'.take ids.length).map (lC (pX ids H.length)))[j]? = some (lC (pX ids H.length) h'[j]):=by rw[iU,iO,aJ hjl,iM (by omega)]; rfl
    rw[aPQ hnd hj ho hlt1] at hi0;injection hi0 with hi0
    cases hx:h'[j] with
    | none=>rw[hx] at hi0; cases hi0
    | some cs0 =>
     rw[hx] at hi0;simp only[lC] at hi0;injection hi0 with hi0
     exact key j cs0 (by rw[iM (by omega),hx]) hi0.symm (by unfold pX; rw[hj])
   .rw[Ug hm] at hi0;obtain ⟨c,hc,vs,ty,h1,h2,h3,h4,h5⟩:=hheap.2 i cs hi0;have aJD:Hc[i]? = some (some cs):=by show (oD ids _ H)[i]? = _; rw[Ug hm]; exact hi0
    have hcb:=hun c.1 (Bh i cs c aJD hc);refine ⟨c,hle.blk _ _ hc,vs,ty,by rw[L6 hcb.1,h1],h2,h3,fun j p hj => ?_,fun o=>by rw[hcb.2]; exact h5 o⟩;obtain ⟨u,a1,a2,a3,a4⟩:=h4 j p hj;refine ⟨u,a1,a2.mono hle,a3.kept fun b ho=>hun b ?_,a4⟩;have e1:=kU (w:=w) b aJD hc;have e2:=xh b hj (by rw[oW h1]; simpa using a1:(gZ w c.1)[j]? = some u);omega
  .rw[vO (by rw[LG]; exact hge),LG,iU,GZ] at hi0;cases hx:h'[ids.length+(i-H.length)]? with
   | none=>simp[hx] at hi0
   | some o =>
    cases o with
    | none=>simp[hx,lC] at hi0
    | some cs0 =>simp[hx,lC] at hi0;exact key _ cs0 hx hi0.symm (by unfold pX; rw[ww (by omega)]; simp; omega)
 .have h1:=hP.own b hb; rw[ZH,hfin]; have:=hs1 b; omega
 .have h1:=hP.cnt b; rw[ZH,hfin]; omega
 .have h1:=hP.new b hb; rw[ZH,hfin]; omega
theorem Ev.sub {P:Program} {g:FuncId} {ids:List Nat} {H:aI} {big:bSH} {r:PV} {h':aI}
 (k:Ev P g (jm (rV ids) big) ((ids.map (oq H)).map (lC (rV ids))) r h') (hnd:nodupB ids=true) (hlt:∀ i,i∈ids->i<H.length)
 (hbig:PV.mQ (mf ids) big=true) (hcs:∀ i cs,i∈ids->H[i]? = some (some cs)->PV.mQ (mf ids) cs=true):Ev P g big H (jV (pX ids H.length) r) (vw ids H h') :=
 sG.sub (a1C P) k hnd hlt hbig hcs
mutual
def PV.uu:PV->Bool
 | .int _ _=>true
 | .bool _=>true
 | .str _=>true
 | .nilp=>true
 | .raw _=>true
 | .agg cs=>UD cs
 | .tuple cs=>UD cs
 | _=>false
def UD:bSH->Bool
 | []=>true
 | p::ps=>p.uu&&UD ps
end
mutual
theorem PE {M M':Mem} {B B':aV}:∀ (p:PV) {v:Value},p.uu=true->Rep M B p v->Rep M' B' p v
 | .int _ _,_,_,h=>dS.2 (dS.1 h)
 | .bool _,_,_,h=>jo.2 (jo.1 h)
 | .str _,_,_,h=>iT.2 (iT.1 h)
 | .nilp,_,_,h=>Fp.2 (Fp.1 h)
 | .raw _,_,_,h=>CX.2 (CX.1 h)
 | .agg cs,_,hn,h=>by obtain ⟨vs,hv,hr⟩:=qG.1 h;exact qG.2 ⟨vs,hv,a95 cs hn hr⟩
 | .tuple cs,_,hn,h=>by obtain ⟨vs,hv,hr⟩:=tJ.1 h;exact tJ.2 ⟨vs,hv,a95 cs hn hr⟩
 | .ptr _ _,_,hn,_=>by simp[PV.uu] at hn
 | .cZ _ _,_,hn,_=>by simp[PV.uu] at hn
 | .cst _,_,hn,_=>by simp[PV.uu] at hn
 | .sl _ _ _,_,hn,_=>by simp[PV.uu] at hn
 | .slh _ _ _ _,_,hn,_=>by simp[PV.uu] at hn
 | .func _ _ _,_,hn,_=>by simp[PV.uu] at hn
theorem a95 {M M':Mem} {B B':aV}:∀ (ps:bSH) {vs:List Value},UD ps=true->bC M B ps vs->bC M' B' ps vs
 | [],_,_,h=>by rw[eu] at h ⊢; exact h
 | p::ps,_,hn,h=>by simp only[UD,au] at hn;obtain ⟨u,us,rfl,h1,h2⟩:=dD.1 h;exact dD.2 ⟨u,us,rfl,PE p hn.1 h1,a95 ps hn.2 h2⟩
end
theorem IL {p:PV} (h:p.uu=true):p.own=false:=by cases p<;>first | rfl | (simp[PV.uu] at h)
def uH (p:PV):Bool:=p.one&&p.uu
theorem P8 {p:PV} (h:uH p=true):p.isAgg=false/\(∀ ds,p ≠ .tuple ds)/\p.uu=true/\p.size=1:=by unfold uH at h;simp only[au] at h;obtain ⟨h1,h2⟩:=h;cases p<;>first | (simp[PV.one] at h1; done) | exact ⟨rfl,(fun ds h=>by cases h),h2,rfl⟩
def FM (h:aI) (p:PV):PV:=match p with
 | .slh i 0 n 1=>(match h[i]? with | some (some cs) => .sl false 1 (cs.take n) | _=>p)
 | .slh i 0 n sz=>(match h[i]? with | some (some cs) => .sl false sz (mX sz cs n) | _=>p)
 | _=>p
def a5T (h:aI) (p:PV):Bool:=match p with
 | .slh i 0 n 1=>(match h[i]? with | some (some cs)=>decide (n<=cs.length)&&cs.all uH | _=>false)
 | .slh i 0 n sz=>(match h[i]? with | some (some cs)=>decide (n*sz<=cs.length)&&decide (0<sz)&&cs.all uH | _=>false)
 | p=>p.flat
def Yr (h:aI):bSH->bSH
 | [] => []
 | p::ps=>FM h p::Yr h ps
def Tu (h:aI):bSH->Bool
 | []=>true
 | p::ps=>a5T h p&&Tu h ps
section
variable {M:Mem} {B:aV} {w:World} {h:aI}
def Jy (h:aI) (B:aV) (b:Nat):Prop:=∃ (i:Nat) (cs:bSH) (c:Nat×Nat×TypeId),h[i]? = some (some cs)/\(B[i]? = some c/\c.2.2≠0)/\c.1=b/\cs.all uH=true
open Classical in
def Bl (M:Mem) (h:aI) (B:aV) (w:World):Mem:=CG M.m fun b o=>if ∃ (i:Nat) (cs:bSH) (c:Nat×Nat×TypeId),h[i]? = some (some cs)/\(B[i]? = some c/\c.2.2≠0)/\c.1=b/\cs.all uH=true/\o<cs.length then w.cell? ⟨b,o,none⟩ else M b o
theorem Yt (hh:qO M B w h) {i:Nat} {cs:bSH} {c:Nat×Nat×TypeId} (hi:h[i]? = some (some cs)) (hc:B[i]? = some c/\c.2.2≠0) (o:Nat):M c.1 o=none:=by obtain ⟨c',hc',_,_,_,_,_,_,h5⟩:=hh.2 i cs hi;rw[hc.1] at hc'; cases hc'; exact h5 o
theorem a5U (hh:qO M B w h) {i:Nat} {cs:bSH} {c:Nat×Nat×TypeId} (hi:h[i]? = some (some cs)) (hc:B[i]? = some c/\c.2.2≠0) {o:Nat} {p:PV} (ho:cs[o]? = some p):∃ v,w.cell? ⟨c.1,o,none⟩=some v/\Rep M B p v/\v.oneCell'=true:=by obtain ⟨c',hc',vs,ty,r1,h2,h3,h4,h5⟩:=hh.2 i cs hi;rw[hc.1] at hc'; cases hc';obtain ⟨ty,rfl,h1⟩:=ER r1 (by rw[h2.2]; exact hc.2);obtain ⟨v,hv,hr,_,h1'⟩:=h4 o p ho;exact ⟨v,by simp[World.cell?,h1,hv],hr,h1'⟩
open Classical in
theorem Tz (hh:qO M B w h) (b o:Nat):Bl M h B w b o=if ∃ (i:Nat) (cs:bSH) (c:Nat×Nat×TypeId),h[i]? = some (some cs)/\(B[i]? = some c/\c.2.2≠0)/\c.1=b/\cs.all uH=true/\o<cs.length then w.cell? ⟨b,o,none⟩ else M b o:=by
 unfold Bl;refine EJ (fun b o v e => ?_) b o;split
 .rename_i hx;obtain ⟨i,cs,c,h1,h2,rfl,_⟩:=hx;have:=M.g _ _ _ e;rw[Yt hh h1 h2] at this; cases this
 .exact M.g _ _ _ e
theorem bFJ (hh:qO M B w h):dJ M (Bl M h B w) B B:=⟨fun b o v e=>by
 rw[Tz hh];split
 .rename_i hx;obtain ⟨i,cs,c,h1,h2,rfl,_⟩:=hx;rw[Yt hh h1 h2] at e; cases e
 .exact e,fun _ _ e=>e⟩
theorem bFK (hm:zX M w) (hh:qO M B w h):zX (Bl M h B w) w:=fun b o v e=>by
 rw[Tz hh] at e;split at e
 .rename_i hx;obtain ⟨i,cs,c,h1,h2,rfl,_,ho⟩:=hx;obtain ⟨v',q1,_,q3⟩:=a5U hh h1 h2 (iM ho);rw[q1] at e; cases e;exact ⟨q1,q3⟩
 .exact hm b o v e
theorem bFI (hh:qO M B w h) {p:PV} {v:Value} (hr:Rep M B p v) (hc:a5T h p=true):Rep (Bl M h B w) [] (FM h p) v:=by
 have bCJ:p.flat=true->FM h p=p->Rep (Bl M h B w) [] (FM h p) v:=fun h1 h2=>by rw[h2]; exact Rep.flat [] h1 (hr.mono (bFJ hh))
 unfold a5T at hc;split at hc
 .rename_i i n;split at hc
  .rename_i cs hi;simp only[au,iy] at hc;obtain ⟨hn,hp⟩:=hc;have e:FM h (.slh i 0 n 1) = .sl false 1 (cs.take n):=by simp only[FM,hi]
   rw[e];obtain ⟨c,cap,hB,hv,hle,hcap⟩:=tH.1 hr;have hpl:=fun p hp'=>P8 (iC.1 hp p hp')
   refine jW.2 ⟨some ⟨c.1,0,none⟩,cap,by rw[hv,nY,QJ hn],by rw[nY]; omega,fun e he=>(hpl e (QD he)).2.2.2,(fun h=>by cases h),fun _=>⟨c.1,0,rfl,Ae fun j p hj => ?_⟩⟩;rw[iO] at hj;split at hj
   .have hjl:=(eP.1 hj).1;obtain ⟨a1,a2,a3,a4⟩:=hpl p (jq hj);obtain ⟨u,q1,q2,_⟩:=a5U hh hi hB hj;rw[yQ a1 a2];refine ⟨u,?_,PE p a3 q2⟩;rw[Tz hh,aJ ⟨i,cs,c,hi,hB,rfl,hp,by omega⟩,show 0+j*1=j by omega]; exact q1
   .cases hj
  .cases hc
 .rename_i i n sz hne1;split at hc
  .rename_i cs hi;simp only[au,iy] at hc;obtain ⟨⟨hn,h0⟩,hp⟩:=hc;have e:FM h (.slh i 0 n sz) = .sl false sz (mX sz cs n):=by
    unfold FM;split
    .rename_i e; injection e with _ _ _ e; subst e; first | exact absurd rfl (hne1 i n) | exact (hne1 rfl).elim
    .rename_i e1; injection e1 with e1 _ e2 e3; subst e1; subst e2; subst e3; rw[hi]
    .rename_i h1 h2; first | exact absurd rfl (h2 i n sz) | exact (h2 _ _ _ rfl).elim
   rw[e];obtain ⟨c,cap,hB,hv,hle,hcap⟩:=tH.1 hr;have hpl:=fun p hp'=>P8 (iC.1 hp p hp')
   obtain ⟨k1,k2,k3⟩:=Wi h0 hn fun p hp'=>by have:=iC.1 hp p hp';unfold uH at this; simp only[au] at this; exact this.1
   refine jW.2 ⟨some ⟨c.1,0,none⟩,cap,by rw[hv,k1],by rw[k1]; exact hle,k2,(fun h=>by omega),fun _=>⟨c.1,0,rfl,k3 _ c.1 fun j p hj hlt => ?_⟩⟩;have hjl:=(eP.1 hj).1;obtain ⟨a1,a2,a3,a4⟩:=hpl p (jq hj);obtain ⟨u,q1,q2,_⟩:=a5U hh hi hB hj;rw[yQ a1 a2];refine ⟨u,?_,PE p a3 q2⟩;rw[Tz hh,aJ ⟨i,cs,c,hi,hB,rfl,hp,hjl⟩]; exact q1
  .cases hc
 .rename_i hne1 hne2;refine bCJ hc ?_;unfold FM;split
  .rename_i i n; exact absurd rfl (hne1 i n)
  .rename_i i n sz _; exact absurd rfl (hne2 i n sz)
  .rfl
theorem aLV (hh:qO M B w h):∀ {ps:bSH} {vs:List Value},bC M B ps vs->Tu h ps=true->bC (Bl M h B w) [] (Yr h ps) vs
 | [],_,hr,_=>by rw[eu] at hr; subst hr; exact eu.2 rfl
 | p::ps,_,hr,hc=>by obtain ⟨u,us,rfl,h1,h2⟩:=dD.1 hr;simp only[Tu,au] at hc;exact dD.2 ⟨u,us,rfl,bFI hh h1 hc.1,aLV hh h2 hc.2⟩
end
theorem Ev.bFH {P:Program} {g:FuncId} {args:bSH} {r:PV} {h:aI} (h0:Ev P g (Yr h args) [] r []) (hr:r.uu=true) (hc:Tu h args=true):Ev P g args h r h:=by
 classical
 refine ⟨h0.1,fun out M B w vals hmem hheap hcnt hnew hv => ?_⟩;have hz:∀ w b,aU w [] [] b=0:=fun w b=>by simp[aU]
 refine (h0.2 (fun b=>out b+aU w h B b) (Bl M h B w) [] w vals (bFK hmem hheap) ⟨rfl,fun i cs hi=>by simp at hi⟩ (fun b=>by rw[hz]; have:=hcnt b; omega) (fun b hb=>by rw[hz]; have:=hnew b hb; omega) (aLV hheap hv hc)).mono fun e w' he => ?_
 obtain ⟨v,M1,B1,rfl,hP⟩:=he;have hB1:B1 = []:=qK (by have:=hP.heap.1; simpa using this.symm);subst hB1;have Bh:∀ (i:Nat) cs c,h[i]? = some (some cs)->B[i]? = some c->1<=aU w h B c.1:=fun i cs c h1 h2=>by have:=kU (w:=w) c.1 h1 h2;simp only[gV] at this;omega
 have hlt:∀ b,1<=aU w h B b->b<w.heap.size:=fun b hb=>by
  rcases lq b w.heap.size with h' | h'
  .exact h'
  .have:=hnew b h'; omega
 have hun:∀ b,b<w.heap.size->w'.heap[b]? = w.heap[b]? /\ ∀ o,M1 b o=Bl M h B w b o:=fun b hb=>hP.fr.blk b hb (hz w b)
 obtain ⟨M',hM'⟩:∃ M':Mem,∀ b o,M' b o=if Jy h B b then none else M1 b o:=⟨CG _ _,EJ fun b o v e=>by rw[aK (fun ⟨i,cs,c,h1,h2,h3,_⟩=>by subst h3; have:=M.g _ _ _ e; rw[Yt hheap h1 h2] at this; cases this)]; exact hP.le.mem _ _ _ ((Bl M h B w).g _ _ _ e)⟩
 have hL:∀ b o,Jy h B b->M' b o=none:=fun b o hl=>by rw[hM']; simp only[aJ hl]
 have hN:∀ b o,¬ Jy h B b->M' b o=M1 b o:=fun b o hl=>by rw[hM']; simp only[aK hl]
 have hLn:∀ b o,Jy h B b->M b o=none:=fun b o ⟨i,cs,c,h1,h2,h3,_⟩=>by subst h3; exact Yt hheap h1 h2 o
 have hNM:∀ b o,¬ Jy h B b->Bl M h B w b o=M b o:=fun b o hl=>by rw[Tz hheap,aK (fun ⟨i,cs,c,h1,h2,h3,h4,_⟩=>hl ⟨i,cs,c,h1,h2,h3,h4⟩)]
 have heq:∀ b o,b<w.heap.size->M' b o=M b o:=fun b o hb=>by
  by_cases hl:Jy h B b
  .rw[hL b o hl,hLn b o hl]
  .rw[hN b o hl,(hun b hb).2,hNM b o hl]
 have hle:dJ M M' B B:=⟨fun b o v e=>by have:=yB _ _ (hmem b o v e).1;rw[heq b o this]; exact e,fun _ _ h=>h⟩;have hfp:∀ b,aU w' h B b=aU w h B b:=fun b=>FW b fun i cs c h1 h2=>NC (hun c.1 (hlt _ (Bh i cs c h1 h2))).1
 refine ⟨v,M',B,rfl,fun b o u e => ?_,hle,⟨hP.fr.os,hP.fr.tape,hP.fr.output,hP.fr.size,fun b hb _=>⟨(hun b hb).1,fun o=>heq b o hb⟩⟩,⟨hheap.1,fun i cs hi => ?_⟩,PE r hr hP.rep,fG (IL hr),fun b _ => ?_,fun b => ?_,fun b hb => ?_⟩
 .by_cases hl:Jy h B b
  .rw[hL b o hl] at e; cases e
  .rw[hN b o hl] at e; exact hP.mem b o u e
 .obtain ⟨c,hc',vs,ty,h1,h2,h3,h4,h5⟩:=hheap.2 i cs hi;have hcl:=hlt _ (Bh i cs c hi hc');refine ⟨c,hc',vs,ty,by rw[L6 (hun c.1 hcl).1,h1],h2,h3,fun j p hj => ?_,fun o=>by rw[heq c.1 o hcl]; exact h5 o⟩;obtain ⟨u,hu,hur,hT,hone⟩:=h4 j p hj;refine ⟨u,hu,hur.mono hle,hT.kept fun b ho => ?_,hone⟩;have e1:=kU (w:=w) b hi hc';have e2:=xh b hj (by rw[oW h1]; simpa using hu:(gZ w c.1)[j]? = some u);have hbl:=hlt b (by omega);exact ⟨(hun b hbl).1,fun o=>heq b o hbl⟩
 .rw[dO (IL hr),hfp]; omega
 .rw[dO (IL hr),hfp]; have:=hcnt b; omega
 .rw[dO (IL hr),hfp]; have:=hnew b (oM hP.fr.size hb); omega
theorem Ev.bMY {P:Program} {g:FuncId} {args:bSH} {es:bSH} (h0:Ev P g args [] (.sl true 1 es) []) (hpos:0<es.length) (hpl:es.all uH=true):Ev P g args [] (.slh 0 0 es.length 1) [some es]:=by
 refine ⟨h0.1,fun out M B w vals hmem hheap hcnt hnew hv => ?_⟩;have hz:∀ w b,aU w [] B b=0:=fun w b=>by simp[aU]
 refine (h0.2 out M B w vals hmem hheap hcnt hnew hv).mono fun e w' he => ?_
 obtain ⟨v,M1,B1,rfl,hP⟩:=he;have hB1:B1 = []:=qK (by have:=hP.heap.1; simpa using this.symm);have hB0:B = []:=qK (by have:=hheap.1; simpa using this.symm);subst hB1;subst hB0;have hz':∀ w b,aU w [] [] b=0:=fun w b=>by simp[aU]
 obtain ⟨A,cap,hv1,hle,hs,_,hA⟩:=jW.1 hP.rep;obtain ⟨b,off,rfl,hL⟩:=hA (fun e=>by rw[e] at hpos; simp at hpos);obtain ⟨_,_,ht⟩:=hP.tl.s 1 es _ _ _ rfl hv1;obtain ⟨cs,ty,t1,t2,t3,_,t4⟩:=ht _ rfl;simp only at t1 t2 t3 t4;subst t4;have hown:∀ b',bI (.sl true 1 es) v b'=if b=b' then 1 else 0:=fun b'=>by rw[hv1]; simp[bI,PV.own]
 have hnb:w.heap.size<=b:=by
  rcases lq b w.heap.size with h | h
  .have:=hP.own b h;rw[hz',hz',hown,aJ rfl] at this;omega
  .exact h
 have hpl':=fun p hp=>P8 (iC.1 hpl p hp)
 have hown0:∀ (vs:List Value) b',dN es vs b'=0:=by
  intro vs b';have:∀ (l:bSH) (vs:List Value),(∀ p,p∈l->p.own=false)->dN l vs b'=0:=by
   intro l;induction l with
   | nil=>intro vs _; cases vs<;>rfl
   | cons p l ih =>
    intro vs hl;cases vs with
    | nil=>rfl
    | cons u vs=>rw[dN,dO (hl p (by simp)),ih vs fun q hq=>hl q (by simp[hq])]
  exact this es vs fun p hp=>IL (hpl' p hp).2.2.1
 have hH:∀ b',aU w' [some es] [(b,cs.size,ty+1)] b'=if b=b' then 1 else 0:=fun b'=>by simp only[aU,hown0]; omega
 obtain ⟨M2,hM2⟩:∃ M2:Mem,∀ b' o,M2 b' o=if b'=b then none else M1 b' o:=⟨CG _ _,EJ fun b' o u e=>by have:=yB _ _ (hmem b' o u (M.g _ _ _ e)).1;simp only at this;rw[aK (by omega)]; exact hP.le.mem _ _ _ (M.g _ _ _ e)⟩
 refine ⟨v,M2,[(b,cs.size,ty+1)],rfl,fun b' o u e => ?_,⟨fun b' o u e => ?_,fun i c e=>by simp at e⟩,⟨hP.fr.os,hP.fr.tape,hP.fr.output,hP.fr.size,fun b' hb' _ => ?_⟩,⟨rfl,fun i cs' hi => ?_⟩,tH.2 ⟨(b,cs.size,ty+1),cap,⟨rfl,by simp⟩,hv1,hle,by simpa using t2⟩,fG rfl,fun b' hb' => ?_,fun b' => ?_,fun b' hb' => ?_⟩
 .rw[hM2] at e;split at e
  .cases e
  .exact hP.mem b' o u e
 .have:=yB _ _ (hmem b' o u e).1;simp only at this;rw[hM2,aK (by omega)]; exact hP.le.mem b' o u e
 .have h1:=hP.fr.blk b' hb' (hz' w b');exact ⟨h1.1,fun o=>by rw[hM2,aK (by omega)]; exact h1.2 o⟩
 .cases i with
  | succ i=>simp at hi
  | zero =>simp at hi;subst hi;refine ⟨(b,cs.size,ty+1),rfl,cs,ty+1,CZ t1,⟨rfl,rfl⟩,by omega,fun j p hj => ?_,fun o=>by rw[hM2,aJ rfl]⟩;obtain ⟨a1,a2,a3,a4⟩:=hpl' p (jq hj);obtain ⟨u,hu,hr⟩:=(yQ a1 a2).1 (EH hL hj);have hc:=(hP.mem _ _ _ hu);refine ⟨u,?_,PE p a3 hr,fG (IL a3),hc.2⟩;have:=hc.1;simpa[World.cell?,t1] using this
 .rw[hH,hz',aK (by omega),dO rfl]; omega
 .have:=hP.cnt b';rw[hz',hown] at this;rw[hH,dO rfl]; omega
 .have:=hP.new b' hb';rw[hz',hown] at this;rw[hH,dO rfl]; omega
def yV (sz:Nat) (e:PV):Bool:=match e with
 | .agg ds=>Nat.beq ds.length sz&&ds.all uH
 | _=>false
theorem aEJ {sz:Nat}:∀ {es:bSH},es.all (yV sz)=true->(dW es).length=es.length*sz
 | [],_=>by simp[dW]
 | e::es,h=>by
  simp only[vN,au] at h;cases e with
  | agg ds =>have:=lm (by have:=h.1; simp only[yV,au] at this; exact this.1);rw[dW,aP,aEJ h.2,bM,this,aY,Ej]; omega
  | _=>simp[yV] at h
theorem a1Y {sz:Nat}:∀ {es:bSH},es.all (yV sz)=true->(dW es).all uH=true
 | [],_=>rfl
 | e::es,h=>by
  simp only[vN,au] at h;cases e with
  | agg ds =>
   have h1:=h.1;simp only[yV,au] at h1;rw[dW,List.all_append,a1Y h.2,Bool.and_true,List.all_map];refine iC.2 fun p hp => ?_
   have:=iC.1 h1.2 p hp;obtain ⟨a1,a2,a3,a4⟩:=P8 this;show uH p.un=true;cases p<;>first | exact this | (simp[PV.uu] at a3; done)
  | _=>simp[yV] at h
theorem aM3 {M:Mem} {B:aV} {sz b:Nat}:∀ {es:bSH} {o:Nat},jr M B sz es b o->es.all (yV sz)=true->∀ {q:Nat} {p:PV},(dW es)[q]? = some p->∃ u,M b (o+q)=some u/\Rep M B p u
 | [],_,_,_,q,p,h=>by simp[dW] at h
 | e::es,o,hl,ha,q,p,h=>by
  simp only[vN,au] at ha;obtain ⟨h1,h2⟩:=KF.1 hl;cases e with
  | agg ds =>
   have hp:=ha.1;simp only[yV,au] at hp;have hd:=lm hp.1;rw[dW] at h;rcases lq q ds.length with hq | hq
   .rw[lF (by simpa using hq),iU] at h;cases hx:ds[q]? with
    | none=>simp[hx] at h
    | some x =>
     rw[hx] at h; injection h with h; subst h
     obtain ⟨u,hu,hr⟩:=ND (zV.1 h1) hx;exact ⟨u,hu,nU.2 hr⟩
   .rw[vO (by simpa using hq)] at h;simp only[bM] at h;obtain ⟨u,hu,hr⟩:=aM3 h2 ha.2 h;exact ⟨u,by rw[<- hu]; congr 1; omega,hr⟩
  | _=>have:=ha.1; simp[yV] at this
theorem Ev.bM' {P:Program} {g:FuncId} {args:bSH} {sz:Nat} {es:bSH} (h0:Ev P g args [] (.sl true sz es) []) (hpos:0<es.length) (hpl:es.all (yV sz)=true):Ev P g args [] (.slh 0 0 es.length sz) [some (dW es)]:=by
 refine ⟨h0.1,fun out M B w vals hmem hheap hcnt hnew hv => ?_⟩;have hz:∀ w b,aU w [] B b=0:=fun w b=>by simp[aU]
 refine (h0.2 out M B w vals hmem hheap hcnt hnew hv).mono fun e w' he => ?_
 obtain ⟨v,M1,B1,rfl,hP⟩:=he;have hB1:B1 = []:=qK (by have:=hP.heap.1; simpa using this.symm);have hB0:B = []:=qK (by have:=hheap.1; simpa using this.symm);subst hB1;subst hB0;have hz':∀ w b,aU w [] [] b=0:=fun w b=>by simp[aU]
 obtain ⟨A,cap,hv1,hle,hs,_,hA⟩:=jW.1 hP.rep;obtain ⟨b,off,rfl,hL⟩:=hA (fun e=>by rw[e] at hpos; simp at hpos);obtain ⟨_,_,ht⟩:=hP.tl.s sz es _ _ _ rfl hv1;obtain ⟨cs,ty,t1,t2,t3,_,t4⟩:=ht _ rfl;simp only at t1 t2 t3 t4;subst t4;have hown:∀ b',bI (.sl true sz es) v b'=if b=b' then 1 else 0:=fun b'=>by rw[hv1]; simp[bI,PV.own]
 have hnb:w.heap.size<=b:=by
  rcases lq b w.heap.size with h | h
  .have:=hP.own b h;rw[hz',hz',hown,aJ rfl] at this;omega
  .exact h
 have hfl:=aEJ hpl;have hpl':=fun p hp=>P8 (iC.1 (a1Y hpl) p hp)
 have hown0:∀ (vs:List Value) b',dN (dW es) vs b'=0:=by
  intro vs b';have:∀ (l:bSH) (vs:List Value),(∀ p,p∈l->p.own=false)->dN l vs b'=0:=by
   intro l;induction l with
   | nil=>intro vs _; cases vs<;>rfl
   | cons p l ih =>
    intro vs hl;cases vs with
    | nil=>rfl
    | cons u vs=>rw[dN,dO (hl p (by simp)),ih vs fun q hq=>hl q (by simp[hq])]
  exact this _ vs fun p hp=>IL (hpl' p hp).2.2.1
 have hH:∀ b',aU w' [some (dW es)] [(b,cs.size,ty+1)] b'=if b=b' then 1 else 0:=fun b'=>by simp only[aU,hown0]; omega
 have hcap:es.length*sz<=cs.size:=oM (vT _ hle) (by omega);obtain ⟨M2,hM2⟩:∃ M2:Mem,∀ b' o,M2 b' o=if b'=b then none else M1 b' o:=⟨CG _ _,EJ fun b' o u e=>by have:=yB _ _ (hmem b' o u (M.g _ _ _ e)).1;simp only at this;rw[aK (by omega)]; exact hP.le.mem _ _ _ (M.g _ _ _ e)⟩
 refine ⟨v,M2,[(b,cs.size,ty+1)],rfl,fun b' o u e => ?_,⟨fun b' o u e => ?_,fun i c e=>by simp at e⟩,⟨hP.fr.os,hP.fr.tape,hP.fr.output,hP.fr.size,fun b' hb' _ => ?_⟩,⟨rfl,fun i cs' hi => ?_⟩,tH.2 ⟨(b,cs.size,ty+1),cap,⟨rfl,by simp⟩,hv1,hle,by simpa using t2⟩,fG rfl,fun b' hb' => ?_,fun b' => ?_,fun b' hb' => ?_⟩
 .rw[hM2] at e;split at e
  .cases e
  .exact hP.mem b' o u e
 .have:=yB _ _ (hmem b' o u e).1;simp only at this;rw[hM2,aK (by omega)]; exact hP.le.mem b' o u e
 .have h1:=hP.fr.blk b' hb' (hz' w b');exact ⟨h1.1,fun o=>by rw[hM2,aK (by omega)]; exact h1.2 o⟩
 .cases i with
  | succ i=>simp at hi
  | zero =>simp at hi;subst hi;refine ⟨(b,cs.size,ty+1),rfl,cs,ty+1,CZ t1,⟨rfl,rfl⟩,by rw[hfl]; exact hcap,fun j p hj => ?_,fun o=>by rw[hM2,aJ rfl]⟩;obtain ⟨a1,a2,a3,a4⟩:=hpl' p (jq hj);obtain ⟨u,hu,hr⟩:=aM3 hL hpl hj;rw[kW] at hu;have hc:=(hP.mem _ _ _ hu);refine ⟨u,?_,PE p a3 hr,fG (IL a3),hc.2⟩;have:=hc.1;simpa[World.cell?,t1] using this
 .rw[hH,hz',aK (by omega),dO rfl]; omega
 .have:=hP.cnt b';rw[hz',hown] at this;rw[hH,dO rfl]; omega
 .have:=hP.new b' hb';rw[hz',hown] at this;rw[hH,dO rfl]; omega
theorem bKH (f:Nat->Nat):∀ {p:PV},uH p=true->jV f p=p:=fun {p} h=>by obtain ⟨h1,h2,h3,_⟩:=P8 h;cases p<;>first | rfl | (simp[PV.uu] at h3; done) | (simp[PV.isAgg] at h1; done) | exact absurd rfl (h2 _)
theorem a8Z (f:Nat->Nat):∀ {ps:bSH},ps.all uH=true->jm f ps=ps
 | [],_=>rfl
 | p::ps,h=>by simp only[vN,au] at h;rw[jm,bKH f h.1,a8Z f h.2]
mutual
theorem aOH (f:Nat->Nat):∀ p:PV,p.flat=true->jV f p=p
 | .func _ a c,h=>by simp only[PV.flat,au] at h; simp only[jV,Kr f a h.1,Kr f c h.2]
 | .agg cs,h=>by simp only[PV.flat] at h; simp only[jV,Kr f cs h]
 | .tuple cs,h=>by simp only[PV.flat] at h; simp only[jV,Kr f cs h]
 | .ptr _ _,h=>by simp[PV.flat] at h
 | .cZ _ _,h=>by simp[PV.flat] at h
 | .slh _ _ _ _,h=>by simp[PV.flat] at h
 | .int _ _,_=>rfl
 | .bool _,_=>rfl
 | .str _,_=>rfl
 | .nilp,_=>rfl
 | .raw _,_=>rfl
 | .cst _,_=>rfl
 | .sl _ _ _,_=>rfl
 | .dB _,_=>rfl
 | .fJ _ _ _ _,_=>rfl
 | .mp _,_=>rfl
theorem Kr (f:Nat->Nat):∀ ps:bSH,PV.flats ps=true->jm f ps=ps
 | [],_=>rfl
 | p::ps,h=>by simp only[PV.flats,au] at h;rw[jm,aOH f p h.1,Kr f ps h.2]
end
mutual
theorem aCE {D:Nat->Bool}:∀ p:PV,p.flat=true->p.allI D=true
 | .func _ a c,h=>by simp only[PV.flat,au] at h; simp only[PV.allI,JD a h.1,JD c h.2,yw]
 | .agg cs,h=>by simp only[PV.flat] at h; simp only[PV.allI,JD cs h]
 | .tuple cs,h=>by simp only[PV.flat] at h; simp only[PV.allI,JD cs h]
 | .ptr _ _,h=>by simp[PV.flat] at h
 | .cZ _ _,h=>by simp[PV.flat] at h
 | .slh _ _ _ _,h=>by simp[PV.flat] at h
 | .int _ _,_=>rfl
 | .bool _,_=>rfl
 | .str _,_=>rfl
 | .nilp,_=>rfl
 | .raw _,_=>rfl
 | .cst _,_=>rfl
 | .sl _ _ _,_=>rfl
 | .dB _,_=>rfl
 | .fJ _ _ _ _,_=>rfl
 | .mp _,_=>rfl
theorem JD {D:Nat->Bool}:∀ ps:bSH,PV.flats ps=true->PV.mQ D ps=true
 | [],_=>rfl
 | p::ps,h=>by simp only[PV.flats,au] at h;simp only[PV.mQ,aCE p h.1,JD ps h.2,yw]
end
theorem Ev.thaw {P:Program} {g:FuncId} {args:bSH} {es:bSH} {H:aI} (h0:Ev P g args [] (.sl true 1 es) []) (ha:PV.flats args=true) (hpos:0<es.length) (hpl:es.all uH=true):Ev P g args H (.slh H.length 0 es.length 1) (H ++ [some es]):=by
 have h1:=Ev.bMY h0 hpos hpl;have e1:jm (rV []) args=args:=Kr _ _ ha;have h2:=Ev.sub (ids := []) (H:=H) (big:=args) (r := .slh 0 0 es.length 1) (h' := [some es]) (by rw[e1]; exact h1) rfl (fun i hi=>by simp at hi) (by
  have:∀ ps:bSH,PV.flats ps=true->PV.mQ (mf []) ps=true:=fun ps h=>JD ps h
  exact this args ha) (fun i cs hi=>by simp at hi)
 have e2:vw [] H [some es]=H ++ [some es]:=by simp only[vw,bG,QC,List.drop_zero,qm,lC,oD];rw[a8Z _ hpl]
 have e3:jV (pX [] H.length) (.slh 0 0 es.length 1) = .slh H.length 0 es.length 1:=by simp[jV,pX]
 rw[e2,e3] at h2;exact h2
theorem Ev.bMZ {P:Program} {g:FuncId} {args:bSH} {sz:Nat} {es:bSH} {H:aI} (h0:Ev P g args [] (.sl true sz es) []) (ha:PV.flats args=true) (hpos:0<es.length) (hpl:es.all (yV sz)=true):Ev P g args H (.slh H.length 0 es.length sz) (H ++ [some (dW es)]):=by
 have h1:=Ev.bM' h0 hpos hpl;have e1:jm (rV []) args=args:=Kr _ _ ha;have h2:=Ev.sub (ids := []) (H:=H) (big:=args) (r := .slh 0 0 es.length sz) (h' := [some (dW es)]) (by rw[e1]; exact h1) rfl (fun i hi=>by simp at hi) (by
  have:∀ ps:bSH,PV.flats ps=true->PV.mQ (mf []) ps=true:=fun ps h=>JD ps h
  exact this args ha) (fun i cs hi=>by simp at hi)
 have e2:vw [] H [some (dW es)]=H ++ [some (dW es)]:=by simp only[vw,bG,QC,List.drop_zero,qm,lC,oD];rw[a8Z _ (a1Y hpl)]
 have e3:jV (pX [] H.length) (.slh 0 0 es.length sz) = .slh H.length 0 es.length sz:=by simp[jV,pX]
 rw[e2,e3] at h2;exact h2
end Go.Proofs.YtcdceiloganlnaaGreatDoor
end

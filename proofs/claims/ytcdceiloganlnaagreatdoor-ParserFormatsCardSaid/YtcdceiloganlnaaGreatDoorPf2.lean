/- A part of the proof. -/
import Derived.Test.YtcdceiloganlnaaGreatDoorPf1
import Derived.LoopN
import Derived.Defers
import Derived.Scope
import Derived.Orders
import Derived.IntWalk
set_option linter.unusedVariables false
set_option linter.unusedSimpArgs false
set_option linter.unnecessarySimpa false
set_option linter.unusedSectionVars false
noncomputable section
open Go.IntKind (i64)
namespace Go.Proofs.YtcdceiloganlnaaGreatDoor
open Go.RowKit
mutual
def PV.blw (m:Nat):PV->Bool
 | .ptr i _=>decide (i<m)
 | .cO _ i=>decide (i<m)
 | .slh i _ _ _=>decide (i<m)
 | .func _ f c=>PV.blws m f&&PV.blws m c
 | .agg cs=>PV.blws m cs
 | .tuple cs=>PV.blws m cs
 | _=>true
def PV.blws (m:Nat):bTA->Bool
 | []=>true
 | p::ps=>p.blw m&&PV.blws m ps
end
section
variable {M:Mem} {B:aN}
mutual
theorem aQX (m:Nat):∀ p:PV,p.blw m=true->ah M B p=ah M (B.take m) p
 | .int _ _,_=>by simp only[ah]
 | .bool _,_=>by simp only[ah]
 | .str _,_=>by simp only[ah]
 | .nilp,_=>by simp only[ah]
 | .raw _,_=>by simp only[ah]
 | .ptr i _,h=>by
  have:(B.take m)[i]? = B[i]? := by rw[lM,aS (by simpa[PV.blw] using h)]
  simp only[ah,this]
 | .cO _ i,h=>by
  have:(B.take m)[i]? = B[i]? := by rw[lM,aS (by simpa[PV.blw] using h)]
  simp only[ah,this]
 | .slh i _ _ _,h=>by
  have:(B.take m)[i]? = B[i]? := by rw[lM,aS (by simpa[PV.blw] using h)]
  simp only[ah,this]
 | .cst e,_=>by simp only[ah]
 | .cZ _,_=>by simp only[ah]
 | .gB _ _ _ _,_=>by simp only[ah]
 | .mp _,_=>by simp only[ah]
 | .sl _ _ es,_=>by simp only[ah]
 | .func _ f c,h=>by simp only[PV.blw,bF] at h;simp only[ah,PZ m f h.1,PZ m c h.2]
 | .agg cs,h=>by simp only[ah,PZ m cs (by simpa[PV.blw] using h)]
 | .tuple cs,h=>by simp only[ah,PZ m cs (by simpa[PV.blw] using h)]
theorem PZ (m:Nat):∀ ps:bTA,PV.blws m ps=true->iC M B ps=iC M (B.take m) ps
 | [],_=>by simp only[iC]
 | p::ps,h=>by simp only[PV.blws,bF] at h;simp only[iC,aQX m p h.1,PZ m ps h.2]
end
theorem Rep.blw {m:Nat} {p:PV} {v:Value} (hf:p.blw m=true) (h:Rep M B p v):Rep M (B.take m) p v:=by grind [Rep,aQX]
theorem aj.blw {m:Nat} {ps:bTA} {vs:List Value} (hf:PV.blws m ps=true) (h:aj M B ps vs):aj M (B.take m) ps vs:=by grind [aj,PZ]
theorem XI {m:Nat}:∀ {ps:bTA},PV.blws m ps=true↔∀ p,p∈ps->p.blw m=true
 | []=>by simp[PV.blws]
 | p::ps=>by simp[PV.blws,XI (ps:=ps)]
mutual
theorem aG8 (m:Nat):∀ p:PV,p.flat=true->p.blw m=true
 | .int _ _,_=>rfl
 | .bool _,_=>rfl
 | .str _,_=>rfl
 | .nilp,_=>rfl
 | .raw _,_=>rfl
 | .ptr i _,h=>by simp[PV.flat] at h
 | .cO _ i,h=>by simp[PV.flat] at h
 | .slh i _ _ _,h=>by simp[PV.flat] at h
 | .cst e,_=>by simp only[PV.blw]
 | .cZ _,_=>by simp only[PV.blw]
 | .gB _ _ _ _,_=>by simp only[PV.blw]
 | .mp _,_=>by simp only[PV.blw]
 | .sl _ _ es,_=>by simp only[PV.blw]
 | .func _ f c,h=>by simp only[PV.flat,bF] at h;simp only[PV.blw,Rw m f h.1,Rw m c h.2,J6]
 | .agg cs,h=>by simp only[PV.blw]; exact Rw m cs (by simpa[PV.flat] using h)
 | .tuple cs,h=>by simp only[PV.blw]; exact Rw m cs (by simpa[PV.flat] using h)
theorem Rw (m:Nat):∀ ps:bTA,PV.flats ps=true->PV.blws m ps=true
 | [],_=>rfl
 | p::ps,h=>by simp only[PV.flats,bF] at h;simp only[PV.blws,aG8 m p h.1,Rw m ps h.2,J6]
end
end
def zl (m:Nat) (h:aG):Bool:=h.all fun o=>match o with | some cs=>PV.blws m cs | none=>true
def vW (M:Mem) (w:World):Prop:=∀ (b o:Nat) (v:Value),M b o=some v->w.cell? ⟨b,o,none⟩=some v/\v.oneCell'=true
structure Post (h:aG) (B:aN) (out:Nat->Nat) (M:Mem) (w:World) (r:PV) (h':aG) (v:Value) (M':Mem) (B':aN) (w':World):Prop where
 mem:vW M' w'
 le:dG M M' B B'
 fr:Fr (aP w h B) M w M' w'
 heap:qH M' B' w' h'
 rep:Rep M' B' r v
 tl:Tl M' w' r v
 own:∀ b,b<w.heap.size->aP w' h' B' b+bK r v b<=aP w h B b
 cnt:∀ b,aP w' h' B' b+bK r v b+out b<=1
 new:∀ b,w'.heap.size<=b->aP w' h' B' b+bK r v b+out b=0
def callable (P:Program) (g:FuncId):Bool:=match P.funcs[g]? with | some fn=>fn.name != "runtime.NumGoroutine" && fn.body.isSome | none=>false
abbrev CP:=FuncId->Array Value->World->(Ending->World->Prop)->Prop
def rO (P:Program) (cp:CP) (g:FuncId) (args:bTA) (h:aG) (r:PV) (h':aG):Prop :=
 callable P g=true/\∀ (out:Nat->Nat) (M:Mem) (B:aN) (w:World) (vals:Array Value),vW M w->qH M B w h->(∀ b,aP w h B b+out b<=1)->(∀ b,w.heap.size<=b->aP w h B b+out b=0) ->
  aj M B args vals.toList->cp g vals w fun e w'=>∃ v M' B',e = .returned v/\Post h B out M w r h' v M' B' w'
def Ev (P:Program) (g:FuncId) (args:bTA) (h:aG) (r:PV) (h':aG):Prop:=rO P (Calls P) g args h r h'
def QX (cp:CP):Prop:=∀ ⦃g:FuncId⦄ ⦃vals:Array Value⦄ ⦃w:World⦄ ⦃R R':Ending->World->Prop⦄,cp g vals w R->(∀ e w',R e w'->R' e w')->cp g vals w R'
theorem a3E (P:Program):QX (Calls P):=fun _ _ _ _ _ h k=>h.mono k
def CD (P:Program):CP:=fun g vals w R=>CallsD P g vals .returning w fun e u' w'=>u' = .returning/\R e w'
theorem aEK (P:Program):QX (CD P):=fun _ _ _ _ _ h k=>CallsD.mono h fun _ _ _ hh=>⟨hh.1,k _ _ hh.2⟩
theorem Ev.frame' {P:Program} {g:FuncId} {args:bTA} {r:PV} (h:Ev P g args [] r []) (hr:r.flat=true) (ha:PV.flats args=true) (hh:aG):Ev P g args hh r hh:=by
 refine ⟨h.1,fun out M B w vals hmem hheap hcnt hnew hv => ?_⟩;have h0:∀ w b,aP w [] [] b=0:=fun w b=>by simp[aP]
 refine (h.2 (fun b=>out b+aP w hh B b) M [] w vals hmem ⟨rfl,fun i cs hi=>by simp at hi⟩ (fun b=>by rw[h0]; have:=hcnt b; omega) (fun b hb=>by rw[h0]; have:=hnew b hb; omega) (aj.flat [] ha hv)).mono fun e w' he => ?_
 obtain ⟨v,M',B',rfl,hP⟩:=he;have hB':B' = []:=kU (by have:=hP.heap.1; simp_all);subst hB';have hun:∀ b,b<w.heap.size->w'.heap[b]? = w.heap[b]? /\ ∀ o,M' b o=M b o:=fun b hb=>hP.fr.blk b hb (h0 w b)
 have hlt:∀ b,1<=aP w hh B b->b<w.heap.size:=fun b hb=>by grind
 have DX:∀ (i:Nat) cs c,hh[i]? = some (some cs)->B[i]? = some c->1<=aP w hh B c.1:=fun i cs c h1 h2=>by have:=kR (w:=w) c.1 h1 h2;grind
 have hle:dG M M' B B:=⟨hP.le.mem,fun _ _ h=>h⟩;have hfp:∀ b,aP w' hh B b=aP w hh B b:=fun b=>FN b fun i cs c h1 h2=>NY (hun c.1 (hlt _ (DX i cs c h1 h2))).1
 refine ⟨v,M',B,rfl,hP.mem,hle,hP.fr.mono fun b hb _=>h0 w b,⟨hheap.1,fun i cs hi => ?_⟩,hP.rep.flat B hr,hP.tl,fun b hb => ?_,fun b => ?_,fun b hb => ?_⟩
 .obtain ⟨c,hc,vs,ty,h1,h2,h3,h4,h5⟩:=hheap.2 i cs hi;have hcb:=hun c.1 (hlt _ (DX i cs c hi hc));refine ⟨c,hc,vs,ty,by rw[LJ hcb.1,h1],h2,h3,fun j p hj => ?_,fun o=>by rw[hcb.2]; exact h5 o⟩;obtain ⟨v,hv,hr,hT,hone⟩:=h4 j p hj;refine ⟨v,hv,hr.mono hle,hT.kept fun b ho=>hun b (hlt b ?_),hone⟩;have e1:=kR (w:=w) b hi hc;have e2:=xH b hj (by rw[qK h1]; grind:(gZ w c.1)[j]? = some v);omega
 .have:=hP.own b hb; rw[h0,h0] at this; rw[hfp]; omega
 .have:=hP.cnt b; rw[h0] at this; rw[hfp]; omega
 .have:=hP.new b hb; rw[h0] at this; rw[hfp]; omega
def zu (ops:Array Oper) (Z:ASt) (j:Nat):Option (Option Bool) :=
 match (ops[j]?).bind (·.dst) with
 | none=>some none
 | some d=>match bT d Z.s with
  | some (.bool b)=>some (some b)
  | some (.tuple [])=>some none
  | _=>none
def jB (E:AE) (dst:Option Nat) (p:PV) (Z:ASt) (K:ASt->Prop):Prop:=match ASt.put E dst p Z with | some Z'=>K Z' | none=>False
def yK (E:AE) (o:Oper) (K:ASt->Prop) (Z:ASt):Prop :=
 match bQ E o Z with
 | some (p,Z1)=>ja E o Z/\jB E o.dst p Z1 K
 | none=>False
def a8G (E:AE) (o:Oper) (Z:ASt):Option (bTA×Bool):=match o.op with
 | .binOp op t x (.const (.slice none 0 0)) _=>(match E.P.underlying t,Z.rd x,op with
  | some (.slice _),some (.sl _ _ es),.eql=>some (es,true)
  | some (.slice _),some (.sl _ _ es),.neq=>some (es,false)
  | _,_,_=>none)
 | _=>none
def UV (E:AE) (o:Oper) (K:ASt->Prop) (Z:ASt):Prop:=match a8G E o Z with
 | some (es,pos)=>∀ b:Bool,(b=true->es = [])->jB E o.dst (.bool (b==pos)) Z K
 | none=>False
def Pz (E:AE) (o:Oper) (K:ASt->Prop) (Z:ASt):Prop:=yK E o K Z\/UV E o K Z
def RQ (E:AE) (g:FuncId) (args:bTA) (dst:Option Nat) (K:ASt->Prop) (Z:ASt):Prop:=∃ r h',Ev E.P g args Z.h r h'/\jB E dst r { Z with h:=h' } K
def wU (E:AE) (o:Oper) (K:ASt->Prop) (Z:ASt):Prop :=
 match o.op with
 | .call c=>match c.callee with
  | .value f=>(match Z.rd f,jc (c.args.toList.map Z.rd) with
   | some (.func (.func g) first caps),some az=>RQ E g (first ++ az ++ caps) o.dst K Z
   | _,_=>False)
  | _=>Pz E o K Z
 | _=>Pz E o K Z
def lD (E:AE) (ops:Array Oper):List Oper->(ASt->Prop)->ASt->Prop
 | [],Q,Z=>Q Z
 | o::l,Q,Z =>
  match o.guard with
  | none=>wU E o (lD E ops l Q) Z
  | some (j,want)=>match zu ops Z j with
   | some none=>jB E o.dst (.tuple []) Z (lD E ops l Q)
   | some (some b)=>(b=want->wU E o (lD E ops l Q) Z)/\(b≠want->jB E o.dst (.tuple []) Z (lD E ops l Q))
   | none=>False
section
variable {out:Nat->Nat} {M:Mem} {B:aN} {Z:ASt} {a:Act} {w:World} {E:AE} {o:Oper}
theorem aRW (hI:Inv E.n M B out Z a.tmps w) {K:ASt->Prop} (h:yK E o K Z) {K':Act->World->Prop} {Q:Exit->Act->World->Prop}
 (hK:∀ v Z' M' B' w',K Z'->Good E.n out M B Z a.tmps w M' B' Z' (a.put o.dst v).tmps w'->K' (a.put o.dst v) w'):o.wp E.P a w K' Q:=by
 unfold yK at h;split at h
 .rename_i p Z1 hs;obtain ⟨hside,hp⟩:=h;unfold jB at hp;split at hp
  .rename_i Z' hput;obtain ⟨v,w',M',B',h1,h2⟩:=bMW hI hs hside;have hG:=h2.put hput;unfold Oper.wp;rcases h1 with h1 | ⟨h1,hd⟩
   grind [Oper.upon_value]
   .rw[h1,Oper.upon_skip];have:a.put o.dst undef=a.put o.dst v:=by rw[hd]; rfl
    rw[this]; grind
  simp_all
 simp_all
theorem bH0 (hI:Inv E.n M B out Z a.tmps w) {K:ASt->Prop} (h:UV E o K Z) {K':Act->World->Prop} {Q:Exit->Act->World->Prop}
 (hK:∀ v Z' M' B' w',K Z'->Good E.n out M B Z a.tmps w M' B' Z' (a.put o.dst v).tmps w'->K' (a.put o.dst v) w'):o.wp E.P a w K' Q:=by
 obtain ⟨dst,op,type,pos,after,guard⟩:=o;unfold UV at h;split at h
 case h_2=>exact h.elim
 rename_i es ps hc;unfold a8G at hc;simp only at hc;split at hc
 case h_2=>cases hc
 rename_i XK t x yt;have key:∀ e,E.P.underlying t=some (.slice e)->∀ ow z,Z.rd x=some (.sl ow z es)->∃ b:Bool,(b=true->es = [])/\(Op.equal t (a.eval x) (.slice none 0 0)).run E.P w = .ok b w/\∃ A n c,a.eval x = .slice A n c:=by
  intro e hu ow z hx;obtain ⟨A,cap,hv,hle,hs,hz,hA⟩:=jE.1 (hI.rd x _ hx).1;refine ⟨A.isNone,fun hn => ?_,?_,A,_,cap,hv⟩;simp_all
  .rw[hv];refine Ja fun d => ?_
   rw[Op.equalIn,lu,eX hu w];cases A<;>rfl
 have fin:∀ (r:Bool),(execOp a.eval ⟨dst,.binOp XK t x (.const (.slice none 0 0)) yt,type,pos,after,guard⟩).run E.P w = .ok (.value (.bool r)) w->jB E dst (.bool r) Z K->Oper.wp E.P ⟨dst,.binOp XK t x (.const (.slice none 0 0)) yt,type,pos,after,guard⟩ a w K' Q:=by
  intro r hr hp;unfold jB at hp;split at hp
  .rename_i Z' hput;have hG:=(Pre.plain (v := .bool r) hI (jo.2 rfl) (fun b=>dC rfl _ _) (fA rfl)).put hput;grind [Oper.wp,Oper.upon_value]
  simp_all
 split at hc
 .rename_i e ow z es' hu hx;cases hc;obtain ⟨b,hb,he,A,n,c,hv⟩:=key e hu ow z hx;refine fin b ?_ (by have:=h b hb; simp_all);refine vO (s:=do eqGuard .eql t x (.const (.slice none 0 0)) (a.eval x) (.slice none 0 0); binOp .eql t (a.eval x) (.slice none 0 0)) rfl ?_;rw[lu,hv,DC ⟨by simp,by simp⟩ w];rw[hv] at he;show (binOp .eql t (.slice A n c) (.slice none 0 0)).run E.P w=_;have:binOp .eql t (.slice A n c) (.slice none 0 0)=(do pure (.bool (<- Op.equal t (.slice A n c) (.slice none 0 0)))):=rfl;rw[this]; simp[he]
 .rename_i e ow z es' hu hx;cases hc;obtain ⟨b,hb,he,A,n,c,hv⟩:=key e hu ow z hx;refine fin (!b) ?_ (by have:=h b hb; simp_all);refine vO (s:=do eqGuard .neq t x (.const (.slice none 0 0)) (a.eval x) (.slice none 0 0); binOp .neq t (a.eval x) (.slice none 0 0)) rfl ?_;rw[lu,hv,DC ⟨by simp,by simp⟩ w];rw[hv] at he;show (binOp .neq t (.slice A n c) (.slice none 0 0)).run E.P w=_;have:binOp .neq t (.slice A n c) (.slice none 0 0)=(do pure (.bool (!(<- Op.equal t (.slice A n c) (.slice none 0 0))))):=rfl;rw[this]; simp[he]
 .cases hc
theorem aRY (hI:Inv E.n M B out Z a.tmps w) {K:ASt->Prop} (h:Pz E o K Z) {K':Act->World->Prop} {Q:Exit->Act->World->Prop}
 (hK:∀ v Z' M' B' w',K Z'->Good E.n out M B Z a.tmps w M' B' Z' (a.put o.dst v).tmps w'->K' (a.put o.dst v) w'):o.wp E.P a w K' Q:=by
 rcases h with h | h
 grind [aRW]
 grind [bH0]
theorem aEE {cp:CP} (hm:QX cp) (hI:Inv E.n M B out Z a.tmps w) {g:FuncId} {args:bTA} {vals:Array Value} (hv:aj M B args vals.toList) {r:PV} {h':aG} (hE:rO E.P cp g args Z.h r h') {dst:Option Nat} {Z':ASt} (hp:ASt.put E dst r { Z with h:=h' }=some Z')
 {R:Ending->World->Prop} (hK:∀ v M' B' w',Good E.n out M B Z a.tmps w M' B' Z' (a.put dst v).tmps w'->R (.returned v) w'):cp g vals w R:=by
 obtain ⟨_,hE⟩:=hE;have hc:=hE (fun b=>out b+iP Z.s a.tmps b) M B w vals hI.mem hI.heap (fun b=>by have:=hI.cnt b; grind [fp]) (fun b hb=>by have:=hI.new b hb; grind [fp]) hv;refine hm hc fun e w' he => ?_
 obtain ⟨v,M',B',rfl,hP⟩:=he;refine hK v M' B' w' ?_;have hpre:Pre E.n out M B Z a.tmps w M' B' { Z with h:=h' } w' r v:=by
  refine ⟨⟨hI.size,hP.mem,hI.gp,fun k p hk => ?_,hP.heap,fun b => ?_,fun b hb => ?_⟩,hP.le,?_,fun b hb => ?_,hP.rep,hP.tl,fun b => ?_,fun b hb => ?_⟩
  .obtain ⟨s1,s2,s3⟩:=hI.slots k p hk;refine ⟨s1,s2.mono hP.le,s3.kept fun b hb => ?_⟩;have e1:=Dx (s:=Z.s) (t:=a.tmps) (k:=k) (b:=b);simp only[oq,hk] at e1;have e2:=hI.cnt b;simp only[fp] at e2;exact hP.fr.blk b (PK hI (by simp only[fp]; omega)) (by omega)
  .have:=hP.cnt b; simp only[fp]; omega
  .have:=hP.new b hb; simp only[fp]; omega
  .exact hP.fr.mono fun b hb h0=>by grind [fp]
  .have:=hP.own b hb; simp only[fp]; omega
  .have:=hP.cnt b; simp only[fp]; omega
  .have:=hP.new b hb; omega
 exact hpre.put hp
theorem aWU (hI:Inv E.n M B out Z a.tmps w) {g:FuncId} {args:bTA} {vals:Array Value} (hv:aj M B args vals.toList) {r:PV} {h':aG} (hE:Ev E.P g args Z.h r h') {dst:Option Nat} {Z':ASt} (hp:ASt.put E dst r { Z with h:=h' }=some Z')
 {R:Ending->World->Prop} (hK:∀ v M' B' w',Good E.n out M B Z a.tmps w M' B' Z' (a.put dst v).tmps w'->R (.returned v) w'):Calls E.P g vals w R:=aEE (a3E E.P) hI hv hE hp hK
theorem XC (hI:Inv E.n M B out Z a.tmps w) {K:ASt->Prop} (h:wU E o K Z) {K':Act->World->Prop} {Q:Exit->Act->World->Prop}
 (hK:∀ v Z' M' B' w',K Z'->Good E.n out M B Z a.tmps w M' B' Z' (a.put o.dst v).tmps w'->K' (a.put o.dst v) w'):o.wp E.P a w K' Q:=by
 unfold wU at h;split at h
 .rename_i c hop;split at h
  .rename_i f hf;split at h
   .rename_i g first caps az hfun has
    obtain ⟨r,h',hE,hp⟩:=h;unfold jB at hp;split at hp
    .rename_i Z' hput;obtain ⟨f',c',e1,r1,r2⟩:=zW.1 (hI.rd _ _ hfun).1;obtain ⟨ra,_⟩:=LC hI.rd has;have hcall:=hE.1;unfold callable at hcall;split at hcall
     .rename_i fn hfn;simp only[bF,bne_iff_ne,ne_eq] at hcall;unfold Oper.wp;have hrun:(execOp a.eval o).run E.P w = .ok (.enter g (f' ++ c.args.map a.eval ++ c')) w:=by
       obtain ⟨callee,XT,cts⟩:=c;simp only at hf;subst hf;unfold execOp;rw[hop];simp only[resolve,e1,Deferred.ofValue,lu,ER,rJ,invoke,callFunc,run_program,hfn];have hnb:fn.body.isNone=false:=by cases hb:fn.body<;>simp[hb] at hcall ⊢
       grind [Sem.run_pure]
      rw[hrun,Oper.upon_enter];refine aWU hI (args:=first ++ az ++ caps) ?_ hE hput fun v M' B' w' hG=>hK v Z' M' B' w' hp hG
      simpa using E8 (E8 r1 ra) r2
     grind
    simp_all
   simp_all
  grind [aRY]
 grind [aRY]
theorem OQ (hI:Inv E.n M B out Z a.tmps w) {ops:Array Oper} {j:Nat} {x:Option Bool} (h:zu ops Z j=some x):yielded ops a.tmps j=x:=by
 unfold zu at h;unfold yielded;split at h
 grind
 .rename_i d hd;rw[hd];split at h
  .rename_i b hb;cases h;obtain ⟨h1,h2,_⟩:=hI.slots _ _ hb;have:=jo.1 h2;have hlt:d<a.tmps.size:=by rw[hI.size]; exact h1
   simp_all
  .rename_i hb;cases h;obtain ⟨h1,h2,_⟩:=hI.slots _ _ hb;obtain ⟨vs,h3,h4⟩:=sQ.1 h2;have hlt:d<a.tmps.size:=by rw[hI.size]; exact h1
   simp_all
  .cases h
theorem Act.FU (a:Act) (d:Option Nat) (v:Value):(a.put d v).defers=a.defers:=by cases d<;>rfl
theorem a0Q (hI:Inv E.n M B out Z a.tmps w) {dst:Option Nat} {Z':ASt} (h:ASt.put E dst (.tuple []) Z=some Z'):Good E.n out M B Z a.tmps w M B Z' (a.put dst undef).tmps w :=(Pre.plain hI (sQ.2 ⟨#[],rfl,dJ.2 rfl⟩) (fun b=>dC rfl _ _) (fA rfl)).put h
theorem RH {ops:Array Oper} {Q:Exit->Act->World->Prop}:∀ (l:List Oper) {M:Mem} {B:aN} {Z:ASt} {a:Act} {w:World} {K:ASt->Prop},Inv E.n M B out Z a.tmps w->lD E ops l K Z ->
 (∀ Z' M' B' a' w',K Z'->Good E.n out M B Z a.tmps w M' B' Z' a'.tmps w'->a'.defers=a.defers->Q .normal a' w')->wpList E.P ops Q l a w
 | [],M,B,Z,a,w,K,hI,h,hQ=>hQ Z M B a w h (Good.refl hI) rfl
 | o::l,M,B,Z,a,w,K,hI,h,hQ=>by
  have run:wU E o (lD E ops l K) Z->o.wp E.P a w (wpList E.P ops Q l) Q:=fun h =>XC hI h fun v Z' M' B' w' hK hG=>RH l hG.inv hK fun Z2 M2 B2 a2 w2 hk hG2 hd=>hQ Z2 M2 B2 a2 w2 hk (hG.trans hG2) (by rw[hd,Act.FU])
  have skip:jB E o.dst (.tuple []) Z (lD E ops l K)->wpList E.P ops Q l (a.put o.dst undef) w:=fun h=>by
   unfold jB at h;split at h
   .rename_i Z' hp;have hG:=a0Q hI hp;exact RH l hG.inv h fun Z2 M2 B2 a2 w2 hk hG2 hd=>hQ Z2 M2 B2 a2 w2 hk (hG.trans hG2) (by rw[hd,Act.FU])
   simp_all
  rw[lD] at h;grind [wpList,Region.wanted,OQ]
theorem a2U {ops:Array Oper} {Q:Exit->Act->World->Prop} {rest:List Oper}:∀ (l:List Oper) {M:Mem} {B:aN} {Z:ASt} {a:Act} {w:World} {K:ASt->Prop},Inv E.n M B out Z a.tmps w->lD E ops l K Z ->
 (∀ Z' M' B' a' w',K Z'->Good E.n out M B Z a.tmps w M' B' Z' a'.tmps w'->a'.defers=a.defers->wpList E.P ops Q rest a' w')->wpList E.P ops Q (l ++ rest) a w
 | [],M,B,Z,a,w,K,hI,h,hQ=>hQ Z M B a w h (Good.refl hI) rfl
 | o::l,M,B,Z,a,w,K,hI,h,hQ=>by
  have run:wU E o (lD E ops l K) Z->o.wp E.P a w (wpList E.P ops Q (l ++ rest)) Q:=fun h =>XC hI h fun v Z' M' B' w' hK hG=>a2U l hG.inv hK fun Z2 M2 B2 a2 w2 hk hG2 hd=>hQ Z2 M2 B2 a2 w2 hk (hG.trans hG2) (by rw[hd,Act.FU])
  have skip:jB E o.dst (.tuple []) Z (lD E ops l K)->wpList E.P ops Q (l ++ rest) (a.put o.dst undef) w:=fun h=>by
   unfold jB at h;split at h
   .rename_i Z' hp;have hG:=a0Q hI hp;exact a2U l hG.inv h fun Z2 M2 B2 a2 w2 hk hG2 hd=>hQ Z2 M2 B2 a2 w2 hk (hG.trans hG2) (by rw[hd,Act.FU])
   simp_all
  rw[lD] at h;rw[gu];grind [wpList,Region.wanted,OQ]
end
def LV:Operand->Option Nat
 | .tmp t=>some t
 | _=>none
def qg (E:AE) (o:Oper):Option Nat :=
 match o.op with
 | .move x=>if dB E.mv o.dst then LV x else none
 | .assign x=>LV x
 | .store _ _ x=>LV x
 | .call c=>match c.callee with
  | .builtin .append=>(match c.args.toList with | [x,_]=>LV x | _=>none)
  | _=>none
 | _=>none
def LG (E:AE):Bool:=E.ln.any fun k=>Nat.ble 1000000 k
def ED (E:AE) (H H':aG):Prop:=∀ i,dB E.ln (some (1000000+i))=true->H[i]? = H'[i]?
def hk (E:AE) (o:Oper):Nat :=
 match o.op with
 | .load _ _=>if dB E.ln o.dst then (if LG E then 5 else 0) else if dB E.mv o.dst then 3 else 1
 | .alloc _=>if dB E.ln o.dst then (if LG E then 6 else 2) else 2
 | .box _ _=>if dB E.fz o.dst then 0 else 2
 | .store _ a _=>if dB E.mu (kD a) then 6 else 2
 | .buildSlice _ _ _=>if dB E.mu o.dst then 2 else 0
 | .makeSlice _ _ _=>if dB E.mu o.dst then 2 else 0
 | .makeMap _ _=>if dB E.ln o.dst then (if LG E then 6 else 2) else 2
 | .lookup _ _ _ _=>2
 | .mapUpdate _ _ _ _=>2
 | .insert _ m _ _=>if dB E.mu ((kD m).map (6000000 + ·)) then 6 else 2
 | .range _ _=>2
 | .next _ _=>2
 | .call c=>match c.callee with
  | .builtin .clear=>2
  | .builtin .copy=>2
  | .value _=>if dB E.sy o.dst then (if LG E then 6 else 2) else 0
  | _=>0
 | _=>0
def vK (c:Option Nat) (s:fD):fD :=
 match c with
 | none=>s
 | some t=>match bT t s with | some p=>iI t p.un s | none=>s
theorem D7 (Z:ASt) (x:Operand):(Z.clr x).s=vK (LV x) Z.s/\(Z.clr x).h=Z.h:=by
 cases x with
 | tmp t=>grind [ASt.clr,vK,LV]
 | _=>exact ⟨rfl,rfl⟩
def nJ (h:aG):aG:=h.map fun o=>o.map fun cs=>cs.map PV.un
def agree (o:Oper) (s s':fD):Prop:=∀ t,Operand.tmp t∈o.op.operands->bT t s'=bT t s
section
variable {E:AE} {o:Oper} {Z Z':ASt}
theorem Nh (h:agree o Z.s Z'.s) {x:Operand} (hx:x∈o.op.operands):Z'.ev x=Z.ev x:=by
 cases x with
 | tmp t=>exact h t hx
 | _=>rfl
theorem lJ (h:agree o Z.s Z'.s) {x:Operand} (hx:x∈o.op.operands):Z'.rd x=Z.rd x:=by grind [ASt.rd,Nh]
theorem Wx {rd rd':Operand->Option PV} {xs:List Operand} (h:∀ x,x∈xs->rd' x=rd x):jc (xs.map rd')=jc (xs.map rd):=by rw[List.map_congr_left h]
theorem a95 {rd rd':Operand->Option PV}:∀ {xs:List (Nat×Operand)},(∀ x,x∈xs.map (·.2)->rd' x=rd x)->tY rd' xs=tY rd xs
 | [],_=>rfl
 | (i,x)::l,h=>by rw[tY,tY,h x (by simp),a95 (xs:=l) (fun y hy=>h y (by simp_all))]
theorem aPP {P:Program} {rd rd':Operand->Option PV} {op:Op} (h:∀ x,x∈op.operands->rd' x=rd x):pop P rd' op=pop P rd op:=by
 cases op with
 | call c =>
  obtain ⟨callee,args,ts⟩:=c;have ha:∀ x,x∈args.toList->rd' x=rd x:=fun x hx=>h x (by grind [Op.operands,Call.operands])
  grind [pop,FQ,Wx]
 | makeFunc fn first caps =>
  have h1:∀ x,x∈first.toList->rd' x=rd x:=fun x hx=>h x (by grind [Op.operands])
  have h2:∀ x,x∈caps.toList->rd' x=rd x:=fun x hx=>h x (by grind [Op.operands])
  grind [pop,Wx]
 | build t ps =>
  have:tY rd' ps.toList=tY rd ps.toList:=a95 fun x hx=>h x (by grind [Op.operands])
  simp only[pop,this]
 | slice t x lo hi mx =>
  cases mx with
  | some m =>
   cases lo with
   | none=>simp[pop]
   | some a =>
    cases hi with
    | none=>simp[pop]
    | some b=>grind [pop,Op.operands]
  | none =>
   have hx:rd' x=rd x:=h x (by simp[Op.operands]);cases lo with
   | none =>grind [pop,Op.operands]
   | some a =>
    cases hi with
    | none=>grind [pop,Op.operands]
    | some b=>grind [pop,Op.operands]
 | _=>simp_all[pop,Op.operands]
theorem bOU {h h':aG} (e:nJ h'=nJ h) {i:Nat} {cs:bTA} (hi:h[i]? = some (some cs)):∃ cs',h'[i]? = some (some cs')/\cs'.map PV.un=cs.map PV.un:=by
 have h1:=congrArg (·[i]?) e;simp only[nJ,kJ,hi,JE] at h1;cases hh:h'[i]? with
 | none=>rw[hh] at h1; simp at h1
 | some x =>rw[hh] at h1;simp_all
theorem bFV {I:TI} {q p:PV} {Z1:ASt} (h:o9 false I q Z=some (p,Z1)) (hh:nJ Z'.h=nJ Z.h):Z1=Z/\o9 false I q Z'=some (p,Z'):=by
 unfold o9 at *;cases q with
 | cst e =>simp_all
 | ptr i off =>
  simp only at h ⊢;cases hi:Z.h[i]? with
  | none=>grind
  | some x =>
   cases x with
   | none=>grind
   | some cs =>
    obtain ⟨cs',h1,h2⟩:=bOU hh hi;have hl:cs'.length=cs.length:=by have:=congrArg List.length h2; grind
    simp only[hi] at h;simp only[h1,hl];split at h
    simp_all
    .rename_i hg;rw[aQ hg];cases hp:cs[off]? with
     | none=>grind
     | some p0 =>simp[hp] at h;obtain ⟨rfl,rfl⟩:=h;have h3:=congrArg (·[off]?) h2;grind
 | _=>simp at h
theorem bOV {h:aG} {i off:Nat} {cs:bTA} {p0:PV} (hi:h[i]? = some (some cs)) (hp:cs[off]? = some p0):nJ (h.set i (some (cs.set off p0.un)))=nJ h:=by
 simp only[nJ];apply MG;intro j;rw[kJ,kJ];by_cases hj:i=j
 .subst hj;rw[zf (iJ.1 hi).1,hi];simp only[JE,a1V];apply MG;grind [bOZ]
 simp_all
theorem bFU {I:TI} {q p:PV} {Z1:ASt} (h:o9 true I q Z=some (p,Z1)):Z1.s=Z.s/\(∀ Z':ASt,Z'.h=Z.h->o9 true I q Z'=some (p,⟨Z'.s,Z1.h⟩))/\nJ Z1.h=nJ Z.h:=by
 have same:∀ Z':ASt,Z'.h=Z.h->(⟨Z'.s,Z.h⟩:ASt)=Z':=fun Z' e=>by cases Z'; simp_all
 unfold o9 at *;cases q with
 | cst e =>simp_all
 | ptr i off =>
  simp only at h ⊢;cases hi:Z.h[i]? with
  | none=>grind
  | some x =>
   cases x with
   | none=>grind
   | some cs =>grind [bOV]
 | _=>simp at h
theorem bL5 {E:AE} {i:Nat} (h:dB E.ln (some (1000000+i))=true):LG E=true:=by grind [LG,dB,Nat.ble_eq]
theorem aNI {I:TI} {q:PV} {Z Z1:ASt} {p:PV} (h:o9 false I q Z=some (p,Z1)):Z1=Z/\∀ τ:ASt,(∀ i off,q = .ptr i off->τ.h[i]? = Z.h[i]?)->o9 false I q τ=some (p,τ):=by
 unfold o9 at h ⊢;cases q with
 | cst e =>simp_all
 | ptr i off =>
  simp only at h ⊢;cases hc:Z.h[i]? with
  | none=>rw[hc] at h; cases h
  | some o =>
   rw[hc] at h;cases o with
   | none=>cases h
   | some cs =>grind
 | _=>cases h
theorem aR' {p:PV} {Z1:ASt} (h:bQ E o Z=some (p,Z1)) (ha:agree o Z.s Z'.s) (hh:hk E o=0\/Z'.h=Z.h\/(hk E o=1/\nJ Z'.h=nJ Z.h)) :
 ∃ Z1',bQ E o Z'=some (p,Z1')/\Z1.s=vK (qg E o) Z.s/\Z1'.s=vK (qg E o) Z'.s/\((hk E o=0\/hk E o=1)->Z1.h=Z.h/\Z1'.h=Z'.h)/\(Z'.h=Z.h->Z1'.h=Z1.h)/\(hk E o=3->nJ Z1.h=nJ Z.h):=by
 obtain ⟨dst,op,type,pos,after,guard⟩:=o;cases op with
 | move x =>
  have hx:Z'.ev x=Z.ev x:=Nh ha (by simp[Op.operands]);simp only[bQ] at h ⊢;split at h
  .rename_i hm;cases he:Z.ev x with
   | none=>grind
   | some q =>grind [D7,qg]
  .rename_i hm;cases he:Z.rd x with
   | none=>grind
   | some q =>
    simp[he] at h; obtain ⟨rfl,rfl⟩:=h;have hr:Z'.rd x=Z.rd x:=lJ ha (by simp[Op.operands]);have ht:qg E ⟨dst,.move x,type,pos,after,guard⟩=none:=by simp[qg,hm]
    rw[aQ hm,hr,he,ht];exact ⟨_,rfl,rfl,rfl,fun _=>⟨rfl,rfl⟩,fun e=>e,fun _=>rfl⟩
 | assign x =>
  have hx:Z'.ev x=Z.ev x:=Nh ha (by simp[Op.operands]);simp only[bQ] at h ⊢;cases he:Z.ev x with
  | none=>grind
  | some q =>grind [D7,qg]
 | alloc t =>
  simp only[bQ] at h ⊢;have hkn:hk E ⟨dst,.alloc t,type,pos,after,guard⟩≠0/\hk E ⟨dst,.alloc t,type,pos,after,guard⟩≠1/\hk E ⟨dst,.alloc t,type,pos,after,guard⟩≠3:=by simp only[hk]; grind
  have hh':Z'.h=Z.h:=by rcases hh with h | h | h<;>first | exact h | omega | omega
  rw[hh'];split at h
  .cases h
  rename_i hro;cases ht:ti E.P t with
  | none=>grind
  | some I =>simp[ht] at h; obtain ⟨rfl,rfl⟩:=h;exact ⟨⟨Z'.s,Z.h ++ [some (JR (dB E.mu dst) t Z.h.length I.zero)]⟩,by rfl,rfl,rfl,fun e=>e.elim (fun e=>absurd e hkn.1) (fun e=>absurd e hkn.2.1),fun e=>rfl,fun e=>absurd e hkn.2.2⟩
 | box t x =>
  simp only[bQ] at h ⊢;have hr:Z'.rd x=Z.rd x:=lJ ha (by simp[Op.operands]);split at h
  .rename_i hm;rw[aS hm];cases hb:(Z.rd x).bind Nv with
   | none=>grind
   | some e =>simp[hb] at h; obtain ⟨rfl,rfl⟩:=h;exact ⟨Z',by grind,rfl,rfl,fun _=>⟨rfl,rfl⟩,fun e=>e,fun _=>rfl⟩
  .rename_i hm;rw[aQ hm];have hh':Z'.h=Z.h:=by rcases hh with h | h | h<;>first | exact h | (simp[hk,hm] at h)
   cases hb:(Z.rd x).bind PV.newCells with
   | none=>grind
   | some cs =>simp[hb] at h; obtain ⟨rfl,rfl⟩:=h;exact ⟨⟨Z'.s,Z'.h ++ [some cs]⟩,by simp_all,rfl,rfl,fun e=>by simp[hk,hm] at e,fun e=>by simp[e],fun e=>by simp[hk,hm] at e⟩
 | load t x =>
  simp only[bQ] at h ⊢;have hr:Z'.rd x=Z.rd x:=lJ ha (by simp[Op.operands]);rw[hr];cases hI:ti E.P t with
  | none=>grind
  | some I =>
   cases hq:Z.rd x with
   | none=>simp_all
   | some q =>
    simp only[hI,hq] at h ⊢;cases hln:dB E.ln dst with
    | true =>
     rw[hln] at h;simp only at h ⊢;split at h
     .rename_i hok;have hp:=aNI h;refine ⟨Z',?_,by rw[hp.1]; rfl,rfl,fun _=>⟨by rw[hp.1],rfl⟩,fun e=>by rw[hp.1]; exact e,fun e=>by simp_all⟩;refine hp.2 Z' ?_;cases q with
      | ptr i off =>
       have hm:dB E.ln (some (1000000+i))=true:=hok;have hro:LG E=true:=bL5 hm;have hne:hk E ⟨dst,.load t x,type,pos,after,guard⟩=5:=by simp only[hk,hln,yY,hro]
       simp_all
      | _=>intro j o' e; cases e
     .cases h
    | false =>
    rw[hln] at h;simp only at h ⊢;cases hm:dB E.mv dst with
    | false =>
     rw[hm] at h;have hun:nJ Z'.h=nJ Z.h:=by
      rcases hh with h | h | h
      .simp[hk,hln,hm] at h
      .rw[h]
      .exact h.2
     obtain ⟨rfl,h2⟩:=bFV h hun;exact ⟨Z',h2,rfl,rfl,fun _=>⟨rfl,rfl⟩,fun e=>e,fun e=>by rfl⟩
    | true =>
     rw[hm] at h;have hh':Z'.h=Z.h:=by rcases hh with h | h | h<;>first | exact h | (simp[hk,hln,hm] at h)
     obtain ⟨k1,k2,k3⟩:=bFU h;exact ⟨⟨Z'.s,Z1.h⟩,k2 Z' hh',k1,rfl,fun e=>by simp[hk,hln,hm] at e,fun _=>rfl,fun _=>k3⟩
 | store t x y =>
  simp only[bQ] at h ⊢;have bQV:hk E ⟨dst,.store t x y,type,pos,after,guard⟩=2\/hk E ⟨dst,.store t x y,type,pos,after,guard⟩=6:=by simp only[hk];simp
  have hh':Z'.h=Z.h:=by rcases hh with h | h | h<;>first | exact h | omega | (exfalso; have:=h.1; omega)
  have hr:Z'.rd x=Z.rd x:=lJ ha (by simp[Op.operands]);have hy:Z'.ev y=Z.ev y:=Nh ha (by simp[Op.operands]);have c1:=D7 Z y;have c2:=D7 Z' y;have ht:qg E ⟨dst,.store t x y,type,pos,after,guard⟩=LV y:=rfl;rw[hr,hy];cases hso:Py E.mu E.ln (kD x) (Z.rd x) with
  | false=>rw[hso] at h; cases h
  | true =>
  rw[hso] at h;simp only at h ⊢;cases hI:ti E.P t with
  | none=>grind
  | some I =>
   cases hq:Z.rd x with
   | none=>simp_all
   | some q =>
    cases hp:Z.ev y with
    | none=>simp_all
    | some p' =>
     cases dst with
     | some d=>simp_all
     | none =>
      simp only[hI,hq,hp] at h ⊢;have key:∀ τ:ASt,τ.h=Z.h->∀ τ1,yL I q p' τ=some τ1->τ1.s=τ.s/\∀ τ':ASt,τ'.h=Z.h->yL I q p' τ'=some ⟨τ'.s,τ1.h⟩:=by
       intro τ hτ τ1 h1;unfold yL at h1 ⊢;cases q with
       | ptr i off =>
        simp only[hτ] at h1;split at h1
        grind
        .cases h1
       | _=>simp at h1
      cases hst:yL I q p' (Z.clr y) with
      | none=>simp_all
      | some τ1 =>simp[hst] at h; obtain ⟨rfl,rfl⟩:=h;obtain ⟨k1,k2⟩:=key (Z.clr y) c1.2 τ1 hst;have k3:=k2 (Z'.clr y) (by rw[c2.2,hh']);refine ⟨⟨(Z'.clr y).s,τ1.h⟩,by rw[k3]; rfl,by rw[k1,ht]; exact c1.1,by rw[ht]; exact c2.1,fun e=>by omega,fun _=>rfl,fun e=>by omega⟩
 | buildSlice t len ps =>
  have hp:∀ zs,tY (Z'.rdT zs) ps.toList=tY (Z.rdT zs) ps.toList:=fun zs=>a95 fun x hx=>by grind [ASt.rdT,lJ,Op.operands]
  simp only[bQ,hp] at h ⊢;cases hT:je E.P t with
  | none=>grind
  | some I =>
   cases hq:tY (Z.rdT (elT E.P t)) ps.toList with
   | none=>simp_all
   | some qs =>
    simp only[hT,hq] at h ⊢;cases he:D9 I.size 0 qs with
    | none=>grind
    | some es =>
     simp only[he] at h ⊢;split at h
     .rename_i hc;rw[aS hc];split at h
      .rename_i hm;have hh':Z'.h=Z.h:=by rcases hh with h | h | h<;>first | exact h | (simp[hk,hm] at h)
       cases h;rw[aS hm];exact ⟨⟨Z'.s,Z'.h ++ [some (dm es)]⟩,by simp[hh'],rfl,rfl,fun e=>by simp[hk,hm] at e,fun e=>by simp[e],fun e=>by simp[hk,hm] at e⟩
      .rename_i hm;rw[aQ hm];split at h
       .split at h
        .cases h;exact ⟨Z',by simp_all,rfl,rfl,fun _=>⟨rfl,rfl⟩,fun e=>e,fun _=>rfl⟩
        .cases h
       .cases h;exact ⟨Z',by simp_all,rfl,rfl,fun _=>⟨rfl,rfl⟩,fun e=>e,fun _=>rfl⟩
     .cases h
 | makeSlice t l c =>
  have hl:Z'.rd l=Z.rd l:=lJ ha (by simp[Op.operands]);have hc:Z'.rd c=Z.rd c:=lJ ha (by simp[Op.operands]);simp only[bQ] at h ⊢;rw[hl,hc];split at h
  .split at h
   .rename_i hcond;rw[aS hcond];split at h
    .rename_i hm;cases h;have hh':Z'.h=Z.h:=by rcases hh with h | h | h<;>first | exact h | (simp[hk,hm] at h)
     rw[aS hm];exact ⟨⟨Z'.s,Z'.h ++ [some (wG _ _)]⟩,by rw[hh'],rfl,rfl,fun e=>by simp[hk,hm] at e,fun e=>by rw[e],fun e=>by simp[hk,hm] at e⟩
    .rename_i hm;rw[aQ hm];split at h
     .rename_i hz;cases h;rw[aS hz];exact ⟨Z',rfl,rfl,rfl,fun _=>⟨rfl,rfl⟩,fun e=>e,fun _=>rfl⟩
     .cases h
   .cases h
  .cases h
 | call c =>
  obtain ⟨callee,args,ts⟩:=c;have hargs:∀ x,x∈args.toList->x∈(Op.call ⟨callee,args,ts⟩).operands:=fun x hx=>by grind [Op.operands,Call.operands]
  simp only[bQ] at h ⊢;split at h
  .have hh':Z'.h=Z.h:=by rcases hh with h | h | h<;>first | exact h | (simp[hk] at h)
   split at h
   .rename_i x y t u h1 h2;have hx:Z'.rd x=Z.rd x:=lJ ha (hargs x (by rw[h1]; simp));have hy:Z'.rd y=Z.rd y:=lJ ha (hargs y (by rw[h1]; simp));have hcs:∀ sz q,En Z' sz q=En Z sz q:=fun sz q=>by unfold En; simp_all
    rw[hx,hy];simp only[hcs,hh'];split at h
    .rename_i I i off m sz q _ _ _;split at h
     .rename_i cs m2 cells _ _;split at h
      .rename_i hc;cases h;exact ⟨⟨Z'.s,Z.h.set i (some (cs.take off ++ cells.take (Nat.min m2 m*sz) ++ cs.drop (off+Nat.min m2 m*sz)))⟩,by rw[aS hc,<- hh'],rfl,rfl,fun e=>by simp[hk] at e,fun e=>rfl,fun e=>by simp[hk] at e⟩
      .cases h
     .cases h
    .cases h
   .cases h
  .have hh':Z'.h=Z.h:=by rcases hh with h | h | h<;>first | exact h | (simp[hk] at h)
   split at h
   .rename_i x t h1 h2;have hx:Z'.rd x=Z.rd x:=lJ ha (hargs x (by rw[h1]; simp));split at h
    .rename_i I j off m sz hT hx1;split at h
     .rename_i cs hcs;split at h
      .rename_i hc;cases h;exact ⟨⟨Z'.s,Z'.h.set j (some (cs.take off ++ (wG m I).map PV.un ++ cs.drop (off+m*sz)))⟩,by rw[hx,hx1,hh',hT]; simp_all,rfl,rfl,fun e=>by simp[hk] at e,fun e=>by rw[e],fun e=>by simp[hk] at e⟩
      .cases h
     .cases h
    .rename_i I o' z' hT hx1;cases h;exact ⟨Z',by rw[hx,hx1,hT],rfl,rfl,fun e=>by grind,fun e=>e,fun e=>by rfl⟩
    .cases h
   .cases h
  .split at h
   .rename_i s x t u h1 h2;have hs:Z'.ev s=Z.ev s:=Nh ha (hargs s (by rw[h1]; simp));have hx:Z'.rd x=Z.rd x:=lJ ha (hargs x (by rw[h1]; simp));rw[hs,hx];split at h
    grind [D7,qg]
    grind [D7,qg]
    grind [D7,qg]
    grind [D7,qg]
    grind [D7,qg]
    .cases h
   .cases h
  .rename_i hne;have hpc:FQ E.P Z'.rd ⟨callee,args,ts⟩=FQ E.P Z.rd ⟨callee,args,ts⟩:=by
    have:=aPP (P:=E.P) (rd:=Z.rd) (rd':=Z'.rd) (op := .call ⟨callee,args,ts⟩) fun x hx=>lJ ha hx
    grind [pop]
   rw[hpc];cases hp:FQ E.P Z.rd ⟨callee,args,ts⟩ with
   | none=>grind
   | some q =>
    simp[hp] at h; obtain ⟨rfl,rfl⟩:=h;have ht:qg E ⟨dst,.call ⟨callee,args,ts⟩,type,pos,after,guard⟩=none:=by simp only[qg]
    rw[ht];exact ⟨Z',rfl,rfl,rfl,fun _=>⟨rfl,rfl⟩,fun e=>e,fun _=>rfl⟩
 | makeMap t r =>
  simp only[bQ] at h ⊢;have hkn:hk E ⟨dst,.makeMap t r,type,pos,after,guard⟩≠0/\hk E ⟨dst,.makeMap t r,type,pos,after,guard⟩≠1/\hk E ⟨dst,.makeMap t r,type,pos,after,guard⟩≠3:=by simp only[hk]; grind
  have hh':Z'.h=Z.h:=by rcases hh with h | h | h<;>first | exact h | omega | omega
  rw[hh'];split at h
  .cases h
  rename_i hro;split at h
  .rename_i ht;cases h;exact ⟨⟨Z'.s,Z.h ++ [some [nU (dB E.mu dst) []]]⟩,by rfl,rfl,rfl,fun e=>e.elim (fun e=>absurd e hkn.1) (fun e=>absurd e hkn.2.1),fun e=>rfl,fun e=>absurd e hkn.2.2⟩
  .cases h
 | lookup t m k ok =>
  have hh':Z'.h=Z.h:=by rcases hh with h | h | h<;>first | exact h | (simp[hk] at h)
  have hm:Z'.rd m=Z.rd m:=lJ ha (by simp[Op.operands]);have hkk:Z'.rd k=Z.rd k:=lJ ha (by simp[Op.operands]);simp only[bQ] at h ⊢;rw[hh',hm,hkk];split at h
  .rename_i s z i q ht h1 h2;split at h
   .rename_i cs hcs;split at h
    .rename_i b L hin;split at h
     .rename_i r hik hg;cases h;exact ⟨Z',by rfl,rfl,rfl,fun e=>by grind,fun _=>hh',fun e=>by rfl⟩
     .cases h
    .cases h
   .cases h
  .cases h
 | mapUpdate t m k x =>
  have hh':Z'.h=Z.h:=by rcases hh with h | h | h<;>first | exact h | (simp[hk] at h)
  have hm:Z'.rd m=Z.rd m:=lJ ha (by simp[Op.operands]);have hkk:Z'.rd k=Z.rd k:=lJ ha (by simp[Op.operands]);have hx:Z'.rd x=Z.rd x:=lJ ha (by simp[Op.operands]);simp only[bQ] at h ⊢;rw[hh',hm,hkk,hx];split at h
  .rename_i s z i q y ht h1 h2 h3;split at h
   .rename_i cs hcs;split at h
    .rename_i b L hin;split at h
     .rename_i hik;cases h;exact ⟨⟨Z'.s,Z.h.set i (some [nU b (jW s L q y)])⟩,by rfl,rfl,rfl,fun e=>by simp[hk] at e,fun _=>rfl,fun e=>by simp[hk] at e⟩
     .cases h
    .cases h
   .cases h
  .cases h
 | insert t m k x =>
  have hkn:hk E ⟨dst,.insert t m k x,type,pos,after,guard⟩≠0/\hk E ⟨dst,.insert t m k x,type,pos,after,guard⟩≠1/\hk E ⟨dst,.insert t m k x,type,pos,after,guard⟩≠3:=by simp only[hk]; split<;>simp
  have hh':Z'.h=Z.h:=by rcases hh with h | h | h<;>first | exact h | omega | omega
  have hm:Z'.rd m=Z.rd m:=lJ ha (by simp[Op.operands]);have hkk:Z'.rd k=Z.rd k:=lJ ha (by simp[Op.operands]);have hx:Z'.rd x=Z.rd x:=lJ ha (by simp[Op.operands]);simp only[bQ] at h ⊢;rw[hh',hm,hkk,hx];split at h
  .cases h
  rename_i hso;split at h
  .rename_i s z i q y ht h1 h2 h3;split at h
   .rename_i cs hcs;split at h
    .rename_i b L hin;split at h
     .rename_i hik;cases h;exact ⟨⟨Z'.s,Z.h.set i (some [nU b (jW s L q y)])⟩,by rfl,rfl,rfl,fun e=>e.elim (fun e=>absurd e hkn.1) (fun e=>absurd e hkn.2.1),fun _=>rfl,fun e=>absurd e hkn.2.2⟩
     .cases h
    .cases h
   .cases h
  .cases h
 | range t x =>
  have hh':Z'.h=Z.h:=by rcases hh with h | h | h<;>first | exact h | (simp[hk] at h)
  have hx:Z'.rd x=Z.rd x:=lJ ha (by simp[Op.operands]);simp only[bQ] at h ⊢;rw[hh',hx];split at h
  .rename_i s ht hs;cases h;exact ⟨⟨Z'.s,Z.h ++ [some [zF s 0]]⟩,by rfl,rfl,rfl,fun e=>by simp[hk] at e,fun _=>rfl,fun e=>by simp[hk] at e⟩
  .cases h
 | next x b =>
  have hh':Z'.h=Z.h:=by rcases hh with h | h | h<;>first | exact h | (simp[hk] at h)
  have hx:Z'.rd x=Z.rd x:=lJ ha (by simp[Op.operands]);simp only[bQ] at h ⊢;rw[hh',hx];split at h
  .rename_i T i hx2;split at h
   .rename_i cs hcs;split at h
    .rename_i s p hin;split at h
     .rename_i hT;split at h
      .rename_i hp;cases h;exact ⟨⟨Z'.s,Z.h.set i (some [zF s (Oe s p)])⟩,by rfl,rfl,rfl,fun e=>by simp[hk] at e,fun _=>rfl,fun e=>by simp[hk] at e⟩
      .rename_i hp;cases h;exact ⟨Z',by rfl,rfl,rfl,fun e=>by grind,fun _=>hh',fun e=>by rfl⟩
     .cases h
    .cases h
   .cases h
  .cases h
 | _ =>
  simp only[bQ] at h ⊢;rw[aPP (P:=E.P) (rd:=Z.rd) (rd':=Z'.rd) fun x hx=>lJ ha hx];generalize pop E.P Z.rd _=r at h ⊢;cases r with
  | none=>simp at h
  | some q =>simp at h; obtain ⟨rfl,rfl⟩:=h;exact ⟨Z',rfl,rfl,rfl,fun _=>⟨rfl,rfl⟩,fun e=>e,fun _=>rfl⟩
end
theorem aRT:∀ {s s':fD},jI s->jI s'->(∀ k,bT k s=bT k s')->s=s'
 | [],[],_,_,_=>rfl
 | [],(j,q)::l,_,_,h=>by have:=h j; simp[bT] at this
 | (j,q)::l,[],_,_,h=>by have:=h j; simp[bT] at this
 | (j,q)::l,(j',q')::l',h1,h2,h=>by
  obtain ⟨a1,a2⟩:=Bq.1 h1;obtain ⟨b1,b2⟩:=Bq.1 h2;have hj:j=j':=by
   rcases Nat.lt_trichotomy j j' with hlt | he | hgt
   .have:=h j;rw[bT,aS rfl,bT,aQ (by omega),Pi (fun a ha=>by have:=b1 a ha; simp at this; omega)] at this;cases this
   .exact he
   .have:=h j';rw[bT,aQ (by omega),Pi (fun a ha=>by have:=a1 a ha; simp at this; omega),bT,aS rfl] at this;cases this
  subst hj;have hq:q=q':=by have:=h j; simpa[bT] using this
  subst hq;congr 1
  refine aRT a2 b2 fun k => ?_
  by_cases e:j=k
  .subst e;rw[Pi (fun a ha=>by have:=a1 a ha; simpa using this),Pi (fun a ha=>by have:=b1 a ha; simpa using this)]
  .have:=h k;rwa [bT,aQ e,bT,aQ e] at this
def tu (d:Option Nat) (p:PV) (s:fD):fD:=match d with | some k=>iI k p s | none=>s
theorem FT {d:Option Nat} {p:PV} {s:fD} (h:jI s):jI (tu d p s):=by cases d<;>first | exact h | exact Bl h
theorem H9 {c:Option Nat} {s:fD} (h:jI s):jI (vK c s):=by unfold vK; grind [Bl]
theorem V7 {d:Option Nat} {p:PV} {s:fD} (h:jI s) (k:Nat):bT k (tu d p s)=if d=some k then some p else bT k s:=by
 cases d with
 | none=>simp[tu]
 | some j=>grind [tu,Bj]
theorem V6 {c:Option Nat} {s:fD} (h:jI s) (k:Nat):bT k (vK c s)=if c=some k then (bT k s).map PV.un else bT k s:=by
 cases c with
 | none=>simp[vK]
 | some j =>grind [vK,Bj]
theorem aY5 {d1 d2 c1 c2:Option Nat} {p1 p2:PV} {s:fD} (h:jI s) (e1:∀ k,d1=some k->d2≠some k/\c2≠some k) (e2:∀ k,c1=some k->d2≠some k/\c2≠some k) :
 tu d1 p1 (vK c1 (tu d2 p2 (vK c2 s)))=tu d2 p2 (vK c2 (tu d1 p1 (vK c1 s))):=by
 have s1:=H9 (c:=c1) h;have s2:=H9 (c:=c2) h;refine aRT (FT (H9 (FT s2))) (FT (H9 (FT s1))) fun k => ?_
 rw[V7 (H9 (FT s2)),V6 (FT s2),V7 s2,V6 h,V7 (H9 (FT s1)),V6 (FT s1),V7 s1,V6 h];grind
def ql (ops:Array Oper) (Z:ASt) (o:Oper):Option Bool :=
 match o.guard with
 | none=>some true
 | some (j,want)=>(zu ops Z j).map fun x=>x==some want
theorem hk5 {E:AE} {o:Oper} (h:hk E o=5):∃ t x,o.op = .load t x/\dB E.ln o.dst=true:=by unfold hk at h;grind
theorem aRZ {E:AE} {o:Oper} {Z Z' Z1:ASt} {p:PV} (h:bQ E o Z=some (p,Z1)) (h5:hk E o=5) (ha:agree o Z.s Z'.s) (hr:ED E Z'.h Z.h):Z1=Z/\bQ E o Z'=some (p,Z')/\qg E o=none:=by
 obtain ⟨t,x,hop,hl⟩:=hk5 h5;obtain ⟨dst,op,type,pos,after,guard⟩:=o;simp only at hop hl;subst hop;simp only[bQ] at h ⊢;have hrd:Z'.rd x=Z.rd x:=lJ ha (by simp[Op.operands]);rw[hrd];cases hI:ti E.P t with
 | none=>grind
 | some I =>
  cases hq:Z.rd x with
  | none=>simp_all
  | some q =>
   simp only[hI,hq,hl] at h ⊢;split at h
   .rename_i hok;have hp:=aNI h;refine ⟨hp.1,?_,rfl⟩;refine hp.2 Z' fun i off e => ?_
    subst e;exact hr i hok
   .cases h
def stepD (E:AE) (o:Oper) (Z Z':ASt):Prop:=∃ p Z1,bQ E o Z=some (p,Z1)/\ja E o Z/\ASt.put E o.dst p Z1=some Z'
def aWS (E:AE) (o:Oper) (f:Operand) (args:List Operand) (Z Z':ASt):Prop :=
 ∃ g first caps az r,Z.rd f=some (.func (.func g) first caps)/\jc (args.map Z.rd)=some az /\
  ((Ev E.P g (first ++ az ++ caps) [] r []/\r.flat=true/\PV.flats (first ++ az ++ caps)=true/\ASt.put E o.dst r Z=some Z') \/
   (dB E.sy o.dst=true/\∃ h',Ev E.P g (first ++ az ++ caps) Z.h r h'/\ED E h' Z.h/\ASt.put E o.dst r { Z with h:=h' }=some Z'))
abbrev zD (o:Oper):Option (Operand×List Operand) :=
 match o.op with
 | .call c=>match c.callee with
  | .value f=>some (f,c.args.toList)
  | _=>none
 | _=>none
theorem hk6 {E:AE} {o:Oper} (h:hk E o=6):zD o≠none\/(∃ t a x,o.op = .store t a x/\dB E.mu (kD a)=true)\/(∃ t,o.op = .alloc t/\dB E.ln o.dst=true)\/(∃ t r,o.op = .makeMap t r/\dB E.ln o.dst=true)\/∃ t m k x,o.op = .insert t m k x/\dB E.mu ((kD m).map (6000000 + ·))=true:=by
 obtain ⟨dst,op,type,pos,after,guard⟩:=o;cases op with
 | call c =>
  left;obtain ⟨callee,XT,ts⟩:=c;cases callee with
  | value f=>grind
  | builtin b =>cases b<;>simp[hk] at h
  | _=>simp[hk] at h
 | store t a x =>right; left;simp only[hk] at h;grind
 | alloc t =>right; right; left;simp only[hk] at h;grind
 | makeMap t r =>right; right; right; left;simp only[hk] at h;grind
 | insert t m k x =>right; right; right; right;simp only[hk] at h;grind
 | load t x =>exfalso;simp only[hk] at h;grind
 | _=>exfalso; simp only[hk] at h<;>first | omega | (split at h<;>omega)
theorem bMU {E:AE} {o:Oper} {Z Z1:ASt} {p:PV} (h:bQ E o Z=some (p,Z1)) (h6:hk E o=6) (hc:zD o=none):ED E Z1.h Z.h:=by
 have far:∀ {n:Nat},aAG E.ln n=true->∀ i,dB E.ln (some (1000000+i))=true->i<n:=fun {n} hro i hi=>by
  have hmi:1000000+i∈E.ln:=by simpa[dB] using hi
  have:=iY.1 hro _ hmi;rw[show Nat.ble 1000000 (1000000+i)=true by rw[Nat.ble_eq]; omega,a1R] at this;simp_all
 rcases hk6 h6 with h' | ⟨t,a,x,hop,hm⟩ | ⟨t,hop,hm⟩ | ⟨t,r,hop,hm⟩ | ⟨t,m,k,x,hop,hm⟩
 simp_all;case inr.inr.inr.inl =>
  obtain ⟨dst,op,type,pos,after,guard⟩:=o;simp only at hop hm;subst hop;simp only[bQ,hm,Aa] at h;split at h
  .cases h
  .rename_i hro;split at h
   .cases h;intro i hi;grind
   .cases h
 case inr.inr.inr.inr =>
  obtain ⟨dst,op,type,pos,after,guard⟩:=o;simp only at hop hm;subst hop;simp only[bQ] at h;split at h
  .cases h
  rename_i hso;unfold VB at hso;rw[hm] at hso;split at h
  .rename_i s z i q y ht h1 h2 h3;rw[h1] at hso;simp only[xW] at hso;split at h
   .split at h
    .split at h
     .cases h;intro j hj;have hne:i≠j:=fun e=>by simp_all
      simp_all
     .cases h
    .cases h
   .cases h
  .cases h
 case inr.inr.inl =>
  obtain ⟨dst,op,type,pos,after,guard⟩:=o;simp only at hop hm;subst hop;simp only[bQ,hm,Aa] at h;split at h
  .cases h
  .rename_i hro;cases ht:ti E.P t with
   | none=>grind
   | some I =>simp[ht] at h; obtain ⟨_,rfl⟩:=h;intro i hi;grind [dB]
 obtain ⟨dst,op,type,pos,after,guard⟩:=o;simp only at hop;subst hop;simp only[bQ] at h;split at h
 .cases h
 rename_i hso;cases hI:ti E.P t with
 | none=>grind
 | some I =>
  cases hq:Z.rd a with
  | none=>simp_all
  | some q =>
   cases hp:Z.ev x with
   | none=>simp_all
   | some p' =>
    cases dst with
    | some d=>simp_all
    | none =>
     simp only[hI,hq,hp] at h;cases hst:yL I q p' (Z.clr x) with
     | none=>simp_all
     | some τ =>
      simp[hst] at h;obtain ⟨_,rfl⟩:=h;have hcl:=(D7 Z x).2;unfold Py at hso;rw[hm,hq] at hso;cases q with
      | ptr i off =>
       simp only[xW] at hso;have key:∃ cs,τ.h=(Z.clr x).h.set i cs:=by grind [yL]
       obtain ⟨cs,hk⟩:=key;intro j hj;have hne:i≠j:=fun e=>by simp_all
       rw[hk,qF hne,hcl]
      | _=>simp at hso
def Bh (E:AE) (o:Oper) (Z Z':ASt):Prop :=
 match zD o with
 | some (f,args)=>aWS E o f args Z Z'
 | none=>stepD E o Z Z'
def lN (E:AE) (ops:Array Oper) (o:Oper) (Z Z':ASt):Prop :=(ql ops Z o=some true/\Bh E o Z Z')\/(ql ops Z o=some false/\ASt.put E o.dst (.tuple []) Z=some Z')
section
variable {E:AE} {ops:Array Oper} {o:Oper} {Z Z' τ:ASt}
theorem a0A {d:Option Nat} {p:PV} (h:ASt.put E d p Z=some Z'):Z'.s=tu d p Z.s/\Z'.h=Z.h/\∀ k,d=some k->k<E.n:=by
 cases d with
 | none=>simp[ASt.put] at h; subst h; exact ⟨rfl,rfl,by simp⟩
 | some k =>
  simp only[ASt.put] at h;split at h
  .rename_i hk; cases h; exact ⟨rfl,rfl,fun j e=>by simp_all⟩
  .cases h
theorem Uo {d:Option Nat} {p:PV} (h:∀ k,d=some k->k<E.n):ASt.put E d p Z=some ⟨tu d p Z.s,Z.h⟩:=by
 cases d with
 | none=>rfl
 | some k=>simp only[ASt.put,aS (h k rfl)]; rfl
theorem a7X {t:Nat} (h:Operand.tmp t∈o.op.operands):t∈o.looksAt ops:=WH _ (List.mem_filterMap.2 ⟨.tmp t,by grind,rfl⟩)
theorem TJ (h:∀ t,t∈o.looksAt ops->bT t τ.s=bT t Z.s):ql ops τ o=ql ops Z o:=by
 unfold ql;cases hg:o.guard with
 | none=>rfl
 | some jw =>
  obtain ⟨j,want⟩:=jw;have:zu ops τ j=zu ops Z j:=by
   unfold zu;cases hd:(ops[j]?).bind (·.dst) with
   | none=>rfl
   | some d=>simp only[h d (WI _ (by grind))]
  simp_all
theorem aRD (h:agree o Z.s τ.s) (hs:ja E o Z):ja E o τ:=by
 obtain ⟨dst,op,type,pos,after,guard⟩:=o;cases op with
 | call c =>
  obtain ⟨callee,args,ts⟩:=c;have hargs:∀ x,x∈args.toList->x∈(Op.call ⟨callee,args,ts⟩).operands:=fun x hx=>by grind [Op.operands,Call.operands]
  grind [ja,Nh,lJ]
 | _=>trivial
theorem X8 (h:lN E ops o Z Z'):∃ c p,(c=none\/c=qg E o)/\Z'.s=tu o.dst p (vK c Z.s)/\((hk E o=0\/hk E o=1\/hk E o=5)->Z'.h=Z.h)/\(hk E o=3->nJ Z'.h=nJ Z.h)/\(hk E o=6->ED E Z'.h Z.h) /\
 ∀ τ:ASt,(∀ t,t∈o.looksAt ops->bT t τ.s=bT t Z.s)->(hk E o=0\/τ.h=Z.h\/(hk E o=1/\nJ τ.h=nJ Z.h)\/(hk E o=5/\ED E τ.h Z.h))->∃ τ',lN E ops o τ τ'/\τ'.s=tu o.dst p (vK c τ.s)/\((hk E o=0\/hk E o=1\/hk E o=5)->τ'.h=τ.h)/\(τ.h=Z.h->τ'.h=Z'.h):=by
 rcases h with ⟨hg,hr⟩ | ⟨hg,hp⟩
 .unfold Bh at hr;cases hc:zD o with
  | some fa =>
   obtain ⟨f,args⟩:=fa;rw[hc] at hr;obtain ⟨g,first,caps,az,r,h1,h2,h3⟩:=hr;have hop:f∈o.op.operands/\∀ x,x∈args->x∈o.op.operands:=by grind [Op.operands,Call.operands]
   rcases h3 with ⟨h3,h4,h5,h6⟩ | ⟨hsy,h',h3,hro,h6⟩
   .obtain ⟨p1,p2,p3⟩:=a0A h6;refine ⟨none,r,.inl rfl,p1,fun _=>p2,fun _=>by rw[p2],fun _ i _=>by rw[p2],fun τ ht _=>⟨⟨tu o.dst r τ.s,τ.h⟩,.inl ⟨by rw[TJ ht]; exact hg,?_⟩,rfl,fun _=>rfl,fun e=>by rw[p2]; exact e⟩⟩;unfold Bh;rw[hc];have hag:agree o Z.s τ.s:=fun t h=>ht t (a7X h)
    exact ⟨g,first,caps,az,r,by rw[lJ hag hop.1]; exact h1,by rw[Wx fun x hx=>lJ hag (hop.2 x hx)]; exact h2,.inl ⟨h3,h4,h5,Uo p3⟩⟩
   .obtain ⟨p1,p2,p3⟩:=a0A h6;have hk2:hk E o=2\/hk E o=6:=by
     obtain ⟨dst,op,type,pos,after,guard⟩:=o;cases op<;>simp[zD] at hc
     rename_i c;obtain ⟨callee,XT,ts⟩:=c;cases callee<;>simp at hc
     simp only at hsy;simp only[hk,hsy,yY];simp
    refine ⟨none,r,.inl rfl,p1,fun e=>by omega,fun e=>by omega,fun _=>by rw[p2]; exact hro,fun τ ht hh => ?_⟩;have hh':τ.h=Z.h:=by grind
    refine ⟨⟨tu o.dst r τ.s,h'⟩,.inl ⟨by rw[TJ ht]; exact hg,?_⟩,rfl,fun e=>by omega,fun _=>by rw[p2]⟩;unfold Bh;rw[hc];have hag:agree o Z.s τ.s:=fun t h=>ht t (a7X h)
    exact ⟨g,first,caps,az,r,by rw[lJ hag hop.1]; exact h1,by rw[Wx fun x hx=>lJ hag (hop.2 x hx)]; exact h2,.inr ⟨hsy,h',by rw[hh']; exact h3,by rw[hh']; exact hro,Uo (Z := { τ with h:=h' }) p3⟩⟩
  | none =>
   rw[hc] at hr;obtain ⟨p,Z1,h1,h2,h3⟩:=hr;obtain ⟨p1,p2,p3⟩:=a0A h3;have hself:=aR' (Z':=Z) h1 (fun _ _=>rfl) (.inr (.inl rfl));obtain ⟨_,_,s1,_,s3,_,s5⟩:=hself;have e5:hk E o=5->Z1.h=Z.h:=fun e=>by rw[(aRZ h1 e (Z':=Z) (fun _ _=>rfl) (fun _ _=>rfl)).1]
   refine ⟨qg E o,p,.inr rfl,by rw[p1,s1],fun e=>by rw[p2];grind,fun e=>by rw[p2]; exact s5 e,fun e=>by rw[p2]; exact bMU h1 e hc,fun τ ht hh => ?_⟩;have hag:agree o Z.s τ.s:=fun t h=>ht t (a7X h)
   by_cases h5:hk E o=5
   .have hro:ED E τ.h Z.h:=by
     rcases hh with h | h | h | h
     .omega
     .intro i _; rw[h]
     .omega
     .exact h.2
    obtain ⟨l0,l1,l2⟩:=aRZ h1 h5 hag hro;refine ⟨⟨tu o.dst p τ.s,τ.h⟩,.inl ⟨by rw[TJ ht]; exact hg,?_⟩,by rw[l2]; rfl,fun _=>rfl,fun e=>by rw[p2,e5 h5]; exact e⟩;unfold Bh;rw[hc];exact ⟨p,τ,l1,aRD hag h2,Uo p3⟩
   have hh3:hk E o=0\/τ.h=Z.h\/(hk E o=1/\nJ τ.h=nJ Z.h):=by simp_all
   obtain ⟨τ1,l1,l2,l3,l4,l5,_⟩:=aR' h1 hag hh3;refine ⟨⟨tu o.dst p τ1.s,τ1.h⟩,.inl ⟨by rw[TJ ht]; exact hg,?_⟩,by grind,fun e=>by simp_all,fun e=>by rw[p2]; exact l5 e⟩;unfold Bh;rw[hc];exact ⟨p,τ1,l1,aRD hag h2,Uo p3⟩
 .obtain ⟨p1,p2,p3⟩:=a0A hp;exact ⟨none,.tuple [],.inl rfl,p1,fun _=>p2,fun _=>by rw[p2],fun _ i _=>by rw[p2],fun τ ht _=>⟨⟨tu o.dst (.tuple []) τ.s,τ.h⟩,.inr ⟨by rw[TJ ht]; exact hg,Uo p3⟩,rfl,fun _=>rfl,fun e=>by rw[p2]; exact e⟩⟩
theorem lN.gp (h:lN E ops o Z Z') (hs:jI Z.s):jI Z'.s:=by grind [X8,FT,H9]
def writes (E:AE) (o:Oper):List Nat:=o.dst.toList ++ (qg E o).toList
def aKK (a b:Nat):Bool:=a==0||b==0||(a==1&&b==1)||(a==1&&b==3)||(a==3&&b==1)||(a==5&&(b==1||b==5||b==6))||(b==5&&(a==1||a==6))
def TZ (o:Oper):Option ByteArray:=match o.op,o.dst,o.guard with
 | .insert _ _ (.const (.string k)) _,none,none=>some k
 | _,_,_=>none
def a6B (x y:Oper):Bool:=match TZ x,TZ y with
 | some a,some b => !(a.data.toList==b.data.toList)
 | _,_=>false
def a3L (E:AE) (ops:Array Oper) (x y:Oper):Bool :=(writes E x).all (fun d => !(y.looksAt ops).contains d && !(writes E y).contains d)&&(writes E y).all (fun d => !(x.looksAt ops).contains d)&&aKK (hk E x) (hk E y)
def JX (E:AE) (ops:Array Oper) (x y:Oper):Bool:=a3L E ops x y||a6B x y
theorem aE8:∀ {a b c:bTB},D5 a b=true->D5 b c=true->D5 a c=true
 | [],[],_,h,_=>by cases h
 | [],_::_,[],_,h=>by cases h
 | [],_::_,_::_,_,_=>rfl
 | _::_,[],_,h,_=>by cases h
 | _::_,_::_,[],_,h=>by cases h
 | a::az,b::bs,c::cs,h1,h2=>by
  simp only[D5,EP,bF,CO,JB] at h1 h2 ⊢;rcases h1 with h1 | ⟨h1,h1'⟩<;>rcases h2 with h2 | ⟨h2,h2'⟩
  .left; omega
  .left; omega
  .left; omega
  .right; exact ⟨by omega,aE8 h1' h2'⟩
theorem a2Y:∀ {a b:bTB},a≠b->D5 b a = !D5 a b
 | [],[],h=>absurd rfl h
 | [],_::_,_=>rfl
 | _::_,[],_=>rfl
 | a::az,b::bs,h=>by
  simp only[D5];rcases Nat.lt_trichotomy a.toNat b.toNat with hl | he | hg
  .rw[show Nat.blt a.toNat b.toNat=true by rw[CO]; exact hl,show Nat.blt b.toNat a.toNat=false by rw[<- a1L,CO]; omega,show Nat.beq b.toNat a.toNat=false by rw[<- a1L,JB]; omega]; rfl
  .have hab:a=b:=UInt8.toNat_inj.1 he;subst hab;have hn:az≠bs:=fun e=>h (by rw[e])
   rw[show Nat.blt a.toNat a.toNat=false by rw[<- a1L,CO]; omega,show Nat.beq a.toNat a.toNat=true by rw[JB],a2Y hn]; rfl
  .rw[show Nat.blt a.toNat b.toNat=false by rw[<- a1L,CO]; omega,show Nat.blt b.toNat a.toNat=true by rw[CO]; exact hg,show Nat.beq a.toNat b.toNat=false by rw[<- a1L,JB]; omega]; rfl
section
variable {a b:ByteArray} {x y:PV}
def vG:bTA->Prop
 | k::_::L=>(∃ c,k = .str c)/\vG L
 | []=>True
 | [_]=>False
theorem a2R:∀ {L:bTA},qo none L (.str a)=true↔vG L
 | []=>⟨fun _=>trivial,fun _=>rfl⟩
 | [_]=>⟨fun h=>(by simp[qo] at h),fun h=>h.elim⟩
 | k::v::L=>by rw[qo,bF,vG,a2R (L:=L)];refine and_congr ⟨fun h => ?_,fun ⟨c,hc⟩=>by subst hc; rfl⟩ Iff.rfl;cases k<;>first | exact ⟨_,rfl⟩ | (simp[eqK] at h)
theorem aKI (hab:a.data.toList≠b.data.toList):∀ {L:bTA},vG L->sF none (nD none L (.str a) x) (.str b)=sF none L (.str b)
 | [],_=>rfl
 | [_],h=>h.elim
 | k::v::L,⟨⟨c,hc⟩,h⟩=>by
  subst hc;simp only[nD,eqK];by_cases hac:a.data.toList=c.data.toList
  .rw[show (a.data.toList==c.data.toList)=true by rw[rM]; exact hac];simp only[sF,eqK];rw[hac]
  .rw[show (a.data.toList==c.data.toList)=false from pX.2 hac];simp only[sF,eqK];rw[aKI hab h]
theorem aKG (hab:a.data.toList≠b.data.toList):∀ {L:bTA},vG L->sF none (oG L (.str a) x) (.str b)=sF none L (.str b)
 | [],_=>by grind [oG,sF,eqK]
 | [_],h=>h.elim
 | k::v::L,⟨⟨c,hc⟩,h⟩=>by
  subst hc;simp only[oG];cases oD (.str a) (.str c) with
  | true =>simp only[sF,eqK];rw[show (b.data.toList==a.data.toList)=false from pX.2 (Ne.symm hab)]
  | false =>simp only[sF];rw[aKG hab h]
theorem aO5 (hab:a.data.toList≠b.data.toList):∀ {L:bTA},vG L->nD none (nD none L (.str a) x) (.str b) y=nD none (nD none L (.str b) y) (.str a) x
 | [],_=>rfl
 | [_],h=>h.elim
 | k::v::L,⟨⟨c,hc⟩,h⟩=>by
  subst hc;by_cases hac:a.data.toList=c.data.toList
  .have hbc:(b.data.toList==c.data.toList)=false:=pX.2 fun e=>hab (hac.trans e.symm)
   have hba:(b.data.toList==a.data.toList)=false:=pX.2 (Ne.symm hab);simp only[nD,eqK,show (a.data.toList==c.data.toList)=true by rw[rM]; exact hac,hbc,hba]
  .have Ju:(a.data.toList==c.data.toList)=false:=pX.2 hac;by_cases hbc:b.data.toList=c.data.toList
   .have hab':(a.data.toList==b.data.toList)=false:=pX.2 hab;simp only[nD,eqK,Ju,show (b.data.toList==c.data.toList)=true by rw[rM]; exact hbc,hab']
   .have bCV:(b.data.toList==c.data.toList)=false:=pX.2 hbc;simp only[nD,eqK,Ju,bCV,aO5 hab h]
theorem aO3 (hab:a.data.toList≠b.data.toList):∀ {L:bTA},vG L->sF none L (.str a)=true->oG (nD none L (.str a) x) (.str b) y=nD none (oG L (.str b) y) (.str a) x
 | [],_,h=>by cases h
 | [_],h,_=>h.elim
 | k::v::L,⟨⟨c,hc⟩,h⟩,hh=>by
  subst hc;have hab':(a.data.toList==b.data.toList)=false:=pX.2 hab;by_cases hac:a.data.toList=c.data.toList
  .have hl:oD (.str b) (.str a)=oD (.str b) (.str c):=by simp only[oD,hac]
   simp only[nD,eqK,show (a.data.toList==c.data.toList)=true by rw[rM]; exact hac,oG,hl];cases oD (.str b) (.str c) with
   | true=>simp only[nD,eqK,hab',show (a.data.toList==c.data.toList)=true by rw[rM]; exact hac]
   | false=>simp only[nD,eqK,show (a.data.toList==c.data.toList)=true by rw[rM]; exact hac]
  .have Ju:(a.data.toList==c.data.toList)=false:=pX.2 hac;simp only[sF,eqK,Ju] at hh;simp only[nD,eqK,Ju,oG];cases oD (.str b) (.str c) with
   | true=>simp only[nD,eqK,hab',Ju]
   | false=>simp only[nD,eqK,Ju,aO3 hab h hh]
theorem aL4 (hab:a.data.toList≠b.data.toList):∀ {L:bTA},vG L->oG (oG L (.str a) x) (.str b) y=oG (oG L (.str b) y) (.str a) x
 | [],_=>by have ht:oD (.str b) (.str a) = !oD (.str a) (.str b):=a2Y hab;grind [oG]
 | [_],h=>h.elim
 | k::v::L,⟨⟨c,hc⟩,h⟩=>by
  subst hc;have ht:oD (.str b) (.str a) = !oD (.str a) (.str b):=a2Y hab;have tr:∀ {p q r:ByteArray},oD (.str p) (.str q)=true->oD (.str q) (.str r)=true->oD (.str p) (.str r)=true:=fun h1 h2=>aE8 h1 h2
  cases ha:oD (.str a) (.str c) with
  | true =>
   cases hb:oD (.str b) (.str c) with
   | true =>simp only[oG,ha,hb,ht];cases oD (.str a) (.str b)<;>simp
   | false =>
    have hn:oD (.str b) (.str a)=false:=by
     cases hh:oD (.str b) (.str a) with
     | false=>rfl
     | true=>rw[tr hh ha] at hb; cases hb
    simp only[oG,ha,hb,hn]
  | false =>
   cases hb:oD (.str b) (.str c) with
   | true =>
    have hn:oD (.str a) (.str b)=false:=by
     cases hh:oD (.str a) (.str b) with
     | false=>rfl
     | true=>rw[tr hh hb] at ha; cases ha
    simp only[oG,ha,hb,hn]
   | false=>simp only[oG,ha,hb,aL4 hab h]
theorem bKB (hab:a.data.toList≠b.data.toList) {L:bTA} (h:vG L):jW none (jW none L (.str a) x) (.str b) y=jW none (jW none L (.str b) y) (.str a) x:=by grind [jW,aKI,aKG,aL4,aO3,aO5]
theorem aO2:∀ {L:bTA},vG L->vG (nD none L (.str a) x)
 | [],_=>trivial
 | [_],h=>h.elim
 | k::v::L,⟨⟨c,hc⟩,h⟩=>by
  subst hc;simp only[nD,eqK];split
  .exact ⟨⟨_,rfl⟩,h⟩
  .exact ⟨⟨_,rfl⟩,aO2 h⟩
theorem aL3:∀ {L:bTA},vG L->vG (oG L (.str a) x)
 | [],_=>⟨⟨_,rfl⟩,trivial⟩
 | [_],h=>h.elim
 | k::v::L,⟨⟨c,hc⟩,h⟩=>by
  subst hc;simp only[oG];cases oD (.str a) (.str c) with
  | true=>exact ⟨⟨_,rfl⟩,⟨_,rfl⟩,h⟩
  | false=>exact ⟨⟨_,rfl⟩,aL3 h⟩
theorem bK9 {L:bTA} (h:vG L):vG (jW none L (.str a) x):=by grind [jW,aO2,aL3]
end
theorem bDE {o:Oper} {k:ByteArray} (h:TZ o=some k):∃ t m v,o.op = .insert t m (.const (.string k)) v/\o.dst=none/\o.guard=none:=by grind [TZ]
theorem OW {o:Oper} {k:ByteArray} (hk:TZ o=some k):lN E ops o Z Z'↔∃ t m v,o.op = .insert t m (.const (.string k)) v/\∃ i q cs b L z,VB E.mu E.ln (kD m) (Z.rd m)=true/\BM E.P t=some (none,z)/\Z.rd m=some (.cO 0 i)/\Z.rd v=some q/\Z.h[i]? = some (some cs)/\zx cs=some (b,L)/\vG L/\(!b||q.flat)=true /\
 Z' = { Z with h:=Z.h.set i (some [nU b (jW none L (.str k) q)]) }:=by
 obtain ⟨t,m,v,h1,h2,h3⟩:=bDE hk;obtain ⟨dst,op,type,pos,after,guard⟩:=o;simp only at h1 h2 h3;subst h1; subst h2; subst h3;have hc:zD ⟨none,Op.insert t m (.const (.string k)) v,type,pos,after,none⟩=none:=rfl;have hr:Z.rd (.const (.string k))=some (.str k):=rfl;constructor
 .rintro (⟨_,h⟩ | ⟨h,_⟩)
  .unfold Bh at h;rw[hc] at h;obtain ⟨p,Z1,hs,_,hp⟩:=h;simp only[ASt.put,a1V] at hp;subst hp;simp only[bQ] at hs;split at hs
   .cases hs
   rename_i hso;split at hs
   .rename_i s z i q y ht g1 gk g3 gd;rw[hr] at gk;cases gk;split at hs
    .rename_i cs hcs;split at hs
     .rename_i b L hin;split at hs
      .rename_i hik;cases hs;simp only[bF] at hik;have hsn:s=none:=by
        cases s with
        | none=>rfl
        | some kd=>have:=hik.1; simp[y8] at this
       subst hsn;exact ⟨t,m,v,rfl,i,y,cs,b,L,z,hso,ht,g1,g3,hcs,hin,a2R.1 hik.2.1,hik.2.2,rfl⟩
      .cases hs
     .cases hs
    .cases hs
   .cases hs
  .simp[ql] at h
 .rintro ⟨t',m',v',e,i,q,cs,b,L,z,hso,ht,g1,g3,hcs,hin,hal,hfl,rfl⟩;cases e;refine .inl ⟨rfl,?_⟩;unfold Bh;rw[hc];refine ⟨.tuple [],{ Z with h:=Z.h.set i (some [nU b (jW none L (.str k) q)]) },?_,trivial,rfl⟩;rw[g1] at hso;grind [bQ,y8,a2R]
theorem aNV {b:Bool} {L:bTA}:zx [nU b L]=some (b,L):=by cases b<;>rfl
theorem aY0 {x y:Oper} {Z1 Z2:ASt} (h1:lN E ops x Z Z1) (h2:lN E ops y Z1 Z2) (hc:a6B x y=true):∃ τ,lN E ops y Z τ/\lN E ops x τ Z2:=by
 unfold a6B at hc;split at hc
 .rename_i a b hx hy;have hab:a.data.toList≠b.data.toList:=by grind
  obtain ⟨t,m,v,e1,i,q,cs,b1,L,z,s1,s2,s3,s4,s5,s6,s7,s8,rfl⟩:=(OW hx).1 h1;obtain ⟨t',m',v',e2,j,q',cs',b2,L',z',u1,u2,u3,u4,u5,u6,u7,u8,rfl⟩:=(OW hy).1 h2;have u1:VB E.mu E.ln (kD m') (Z.rd m')=true:=u1;have u3:Z.rd m'=some (.cO 0 j):=u3;have u4:Z.rd v'=some q':=u4;have u5:(Z.h.set i (some [nU b1 (jW none L (.str a) q)]))[j]? = some (some cs'):=u5;by_cases hij:i=j
  .subst hij;have hlt:i<Z.h.length:=(iJ.1 s5).1;rw[zf hlt] at u5;injection u5 with u5; injection u5 with u5; subst u5
   rw[aNV] at u6;injection u6 with u6; injection u6 with u6a u6b
   subst u6a; subst u6b;refine ⟨{ Z with h:=Z.h.set i (some [nU b1 (jW none L (.str b) q')]) },(OW hy).2 ⟨t',m',v',e2,i,q',cs,b1,L,z',u1,u2,u3,u4,s5,s6,s7,u8,rfl⟩,(OW hx).2 ⟨t,m,v,e1,i,q,[nU b1 (jW none L (.str b) q')],b1,jW none L (.str b) q',z,s1,s2,s3,s4,?_,aNV,bK9 s7,s8,?_⟩⟩;simp_all;grind [List.set_set,bKB]
  .rw[qF hij] at u5;refine ⟨{ Z with h:=Z.h.set j (some [nU b2 (jW none L' (.str b) q')]) },(OW hy).2 ⟨t',m',v',e2,j,q',cs',b2,L',z',u1,u2,u3,u4,u5,u6,u7,u8,rfl⟩,(OW hx).2 ⟨t,m,v,e1,i,q,cs,b1,L,z,s1,s2,s3,s4,?_,s6,s7,s8,?_⟩⟩;grind
   grind [List.set_comm]
 .cases hc
theorem aX' {x y:Oper} {Z1 Z2:ASt} (hs:jI Z.s) (h1:lN E ops x Z Z1) (h2:lN E ops y Z1 Z2) (hc:a3L E ops x y=true):∃ τ,lN E ops y Z τ/\lN E ops x τ Z2:=by
 unfold a3L at hc;simp only[bF,iY,xW,List.contains_eq_mem,MK] at hc;obtain ⟨⟨hw1,hw2⟩,hh⟩:=hc;obtain ⟨c1,p1,k1,e1,a1,b1,r1,t1⟩:=X8 h1;obtain ⟨c2,p2,k2,e2,a2,b2,r2,t2⟩:=X8 h2;have wr:∀ {o:Oper} {c:Option Nat} {k:Nat},(c=none\/c=qg E o)->c=some k->k∈writes E o:=fun hk e=>by
  rcases hk with h | h
  simp_all
  .exact WI _ (by rw[<- h,e]; simp)
 have wd:∀ {o:Oper} {k:Nat},o.dst=some k->k∈writes E o:=fun e=>WH _ (by rw[e]; simp)
 have hsame:∀ {o:Oper} {c:Option Nat} {p:PV} {s:fD} {t:Nat},jI s->(c=none\/c=qg E o)->t∉writes E o->bT t (tu o.dst p (vK c s))=bT t s:=fun hs hk ht=>by rw[V7 (H9 hs),aQ (fun e=>ht (wd e)),V6 hs,aQ (fun e=>ht (wr hk e))]
 unfold aKK at hh;simp only[EP,bF,rM] at hh;have hheap:hk E y=0\/Z.h=Z1.h\/(hk E y=1/\nJ Z.h=nJ Z1.h)\/(hk E y=5/\ED E Z.h Z1.h):=by
  rcases hh with (((((h | h) | h) | h) | h) | h) | h
  simp_all;omega;simp_all;simp_all;simp_all;simp_all
  .rcases h.2 with h2 | h2
   simp_all
   .exact .inr (.inr (.inr ⟨h.1,fun i hi=>(r1 h2 i hi).symm⟩))
 obtain ⟨τ,y1,y2,y3,y4⟩:=t2 Z (fun t ht=>by rw[e1,hsame hs k1 fun hw=>(hw1 t hw).1 ht]) hheap;have hy:=X8 y1;obtain ⟨_,_,_,_,ya,yb,yr,_⟩:=hy;have bCZ:hk E x=0\/τ.h=Z.h\/(hk E x=1/\nJ τ.h=nJ Z.h)\/(hk E x=5/\ED E τ.h Z.h):=by grind
 obtain ⟨τ',x1,x2,x3,x4⟩:=t1 τ (fun t ht=>by rw[y2,hsame hs k2 fun hw=>hw2 t hw ht]) bCZ;refine ⟨τ,y1,?_⟩;have bQY:τ'.s=Z2.s:=by rw[x2,y2,e2,e1];exact aY5 hs (fun k e=>⟨fun e'=>(hw1 k (wd e)).2 (wd e'),fun e'=>(hw1 k (wd e)).2 (wr k2 e')⟩) (fun k e=>⟨fun e'=>(hw1 k (wr k1 e)).2 (wd e'),fun e'=>(hw1 k (wr k1 e)).2 (wr k2 e')⟩)
 have bQU:τ'.h=Z2.h:=by grind
 have:τ'=Z2:=by cases τ'; cases Z2; simp_all
 rw[<- this]; exact x1
theorem aF3 {x y:Oper} {Z1 Z2:ASt} (hs:jI Z.s) (h1:lN E ops x Z Z1) (h2:lN E ops y Z1 Z2) (hc:JX E ops x y=true):∃ τ,lN E ops y Z τ/\lN E ops x τ Z2:=by grind [JX,aX',aY0]
def Chain (E:AE) (ops:Array Oper):List Nat->ASt->ASt->Prop
 | [],Z,Z'=>Z=Z'
 | i::l,Z,Z'=>∃ o,ops[i]? = some o/\∃ Z1,lN E ops o Z Z1/\Chain E ops l Z1 Z'
theorem aEM {i:Nat} {oi:Oper} (hi:ops[i]? = some oi):∀ (p q:List Nat) {Z Z':ASt},jI Z.s->Chain E ops (p ++ i::q) Z Z'->(∀ k,k∈p->∀ ok,ops[k]? = some ok->JX E ops ok oi=true)->∃ Z1,lN E ops oi Z Z1/\Chain E ops (p ++ q) Z1 Z'
 | [],q,Z,Z',hs,h,_=>by obtain ⟨o,ho,Z1,h1,h2⟩:=h;rw[hi] at ho; grind
 | k::p,q,Z,Z',hs,h,hc=>by
  obtain ⟨o,ho,Z1,h1,h2⟩:=h;obtain ⟨Z2,h3,h4⟩:=aEM hi p q (h1.gp hs) h2 fun k hk=>hc k (by simp[hk])
  obtain ⟨τ,d1,d2⟩:=aF3 hs h1 h3 (hc k (by simp) o ho);exact ⟨τ,d1,o,ho,Z2,d2,h4⟩
def aDS (acc:List Nat) (o:Oper):Nat:=o.after.toList.foldl (fun s e=>if Region.binds .any e then s ||| (2 ^ e.on ||| acc.getD e.on 0) else s) 0
def Gx:List Nat->List Oper->List Nat
 | acc,[]=>acc
 | acc,o::l=>Gx (acc ++ [aDS acc o]) l
def Closed (ops:Array Oper) (L:Nat->Prop):Prop:=∀ (j:Nat) o,ops[j]? = some o->L j->∀ e,e∈o.after->Region.binds .any e=true->L e.on
theorem aU' {acc:List Nat} {o:Oper} {k:Nat} (h:(aDS acc o).testBit k=true):∃ e,e∈o.after/\Region.binds .any e=true/\(k=e.on\/(acc.getD e.on 0).testBit k=true):=by
 have key:∀ (l:List Edge) (s:Nat),(l.foldl (fun s e=>if Region.binds .any e then s ||| (2 ^ e.on ||| acc.getD e.on 0) else s) s).testBit k=true->s.testBit k=true\/∃ e,e∈l/\Region.binds .any e=true/\(k=e.on\/(acc.getD e.on 0).testBit k=true):=by
  intro l;induction l with
  | nil=>simp
  | cons e l ih =>grind
 rcases key o.after.toList 0 h with h1 | ⟨e,h1,h2⟩
 grind
 grind
def a1W (ops:Array Oper) (acc:List Nat):Prop:=∀ (j:Nat) o,j<acc.length->ops[j]? = some o->∀ L,Closed ops L->(∀ e,e∈o.after->Region.binds .any e=true->L e.on)->∀ k,(acc.getD j 0).testBit k=true->L k
theorem aDT {ops:Array Oper}:∀ (l:List Oper) (acc:List Nat),a1W ops acc->(∀ j,l[j]? = ops[acc.length+j]?)->a1W ops (Gx acc l)
 | [],acc,h,_=>h
 | o::l,acc,h,hl=>by
  rw[Gx];have ho:ops[acc.length]? = some o:=by have:=hl 0; simp_all
  refine aDT l _ (fun j o' hj ho' L hL hd k hk => ?_) (fun j=>by have:=hl (j+1); grind);rcases yV j acc.length with hlt | hge
  .refine h j o' hlt ho' L hL hd k ?_;rwa [WG,ut hlt,<- WG] at hk
  .have hje:j=acc.length:=by grind
   subst hje;rw[ho] at ho'; cases ho';rw[WG,EQ (cu _)] at hk;simp at hk;obtain ⟨e,he,hb,hkk⟩:=aU' hk;rcases hkk with rfl | hkk
   simp_all
   .have hle:=hd e he hb;rcases yV e.on acc.length with h1 | h1
    .cases hoe:ops[e.on]? with
     | none =>have h2:=(yQ.1 ho).1;rw[Array.getElem?_eq_none_iff] at hoe; omega
     | some oe=>exact h e.on oe h1 hoe L hL (hL e.on oe hoe hle) k (by omega)
    simp_all
def okD (E:AE) (ops:Array Oper):Bool :=
 let A:=Gx [] ops.toList
 (List.range ops.size).all fun j=>match ops[j]? with
  | some oj=>oj.after.toList.all (fun e => !Region.binds .any e||decide (e.on<j))&&(List.range j).all fun i=>match ops[i]? with
   | some oi=>(A.getD j 0).testBit i||JX E ops oi oj
   | none=>true
  | none=>true
theorem bHI (h:okD E ops=true):(∀ (j:Nat) o,ops[j]? = some o->∀ e,e∈o.after->Region.binds .any e=true->e.on<j) /\
 ∀ (i j:Nat) oi oj,i<j->ops[i]? = some oi->ops[j]? = some oj->∀ L,Closed ops L->(∀ e,e∈oj.after->Region.binds .any e=true->L e.on)->¬ L i->JX E ops oi oj=true:=by
 unfold okD at h;simp only[iY,WJ] at h;have hA:a1W ops (Gx [] ops.toList):=aDT ops.toList [] (fun j o hj=>by simp at hj) (fun j=>by simp);have hlen:∀ (l:List Oper) (acc:List Nat),(Gx acc l).length=acc.length+l.length:=by
  intro l;induction l with
  | nil=>intro acc; simp[Gx]
  | cons o l ih=>grind [Gx]
 constructor;grind
 .intro i j oi oj hij hi hj L hL hd hn;have hjs:=(yQ.1 hj).1;have:=h j hjs;simp only[hj,bF,iY,WJ] at this;have:=this.2 i hij;simp only[hi,EP] at this;rcases this with h1 | h1
  .exact absurd (hA j oj (by rw[hlen]; simp_all) hj L hL hd i h1) hn
  .exact h1
theorem aJU {out:Nat->Nat} {M:Mem} {B:aN} {a:Act} {w:World} (hI:Inv E.n M B out Z a.tmps w) {b:Bool} (h:ql ops Z o=some b):Region.wanted o (yielded ops a.tmps)=b:=by unfold ql at h;grind [Region.wanted,zu,OQ]
theorem aT8 {out:Nat->Nat} {M:Mem} {B:aN} {a:Act} {w:World} (hI:Inv E.n M B out Z a.tmps w) {i:Nat} (hi:ops[i]? = some o) (h:lN E ops o Z Z') {K:Act->World->Prop} {Q:Exit->Act->World->Prop}
 (hK:∀ v M' B' w',Good E.n out M B Z a.tmps w M' B' Z' (a.put o.dst v).tmps w'->K (a.put o.dst v) w'):wpOp E.P ops Q i K a w:=by
 unfold wpOp;simp only[hi];rcases h with ⟨hg,hr⟩ | ⟨hg,hp⟩
 .rw[aS (aJU hI hg)];refine .inl ?_;unfold Bh at hr;cases hc:zD o with
  | some fa =>
   obtain ⟨f,args⟩:=fa;rw[hc] at hr;obtain ⟨g,first,caps,az,r,h1,h2,h3⟩:=hr;refine XC (K:=fun τ=>τ=Z') hI ?_ fun v τ M' B' w' e hG=>by grind
   unfold wU;obtain ⟨dst,op,type,pos,after,guard⟩:=o;cases op<;>simp[zD] at hc
   rename_i c;obtain ⟨callee,XT,ts⟩:=c;cases callee<;>simp at hc
   obtain ⟨rfl,rfl⟩:=hc;simp only[h1,h2];rcases h3 with ⟨h3,h4,h5,h6⟩ | ⟨_,h',h3,_,h6⟩
   .refine ⟨r,Z.h,h3.frame' h4 h5 _,?_⟩;unfold jB;simp_all
   .refine ⟨r,h',h3,?_⟩;grind [jB]
  | none =>
   rw[hc] at hr;obtain ⟨p,Z1,h1,h2,h3⟩:=hr;refine aRW (K:=fun τ=>τ=Z') hI ?_ fun v τ M' B' w' e hG=>by grind
   grind [yK,jB]
 .rw[aQ (by rw[aJU hI hg]; simp)];exact hK undef M B w (a0Q hI hp)
def pJ (n:Nat) (L:Array Bool):List Nat:=(List.range n).filter fun i => !L.getD i true
theorem Ox {n:Nat} {L:Array Bool} {i:Nat}:i∈pJ n L↔i<n/\L.getD i true=false:=by grind [pJ]
theorem bP0 {n:Nat} {L:Array Bool} {i:Nat} (hL:L.size=n) (hi:i<n) (hu:L.getD i true=false):∃ p q,pJ n L=p ++ i::q/\pJ n (L.setIfInBounds i true)=p ++ q/\∀ k,k∈p->k<i:=by
 have hr:List.range n=List.range i ++ i::(List.range' (i+1) (n-i-1)):=by
  have:n=i+(n-i-1+1):=by omega
  rw[aCD,aCD,this,<- List.range'_append_1,a1P];simp
 have hne:∀ j,j≠i->(L.setIfInBounds i true).getD j true=L.getD j true:=fun j h=>by simp[aTC (Ne.symm h)]
 have heq:(L.setIfInBounds i true).getD i true=true:=by simp[hL,hi]
 refine ⟨(List.range i).filter fun i => !L.getD i true,(List.range' (i+1) (n-i-1)).filter fun i => !L.getD i true,?_,?_,fun k hk => ?_⟩;grind [pJ]
 grind [pJ,List.filter_congr]
 simp_all
theorem aDV (hok:okD E ops=true) {out:Nat->Nat} {Q:Exit->Act->World->Prop}:∀ (fuel:Nat) (L:Array Bool) {M:Mem} {B:aN} {Z:ASt} {a:Act} {w:World} {K:ASt->Prop} {Z':ASt},L.size=ops.size->(pJ ops.size L).length=fuel->Closed ops (fun i=>L.getD i false=true) ->
 Inv E.n M B out Z a.tmps w->Chain E ops (pJ ops.size L) Z Z'->K Z' ->
 (∀ M' B' a' w',K Z'->Good E.n out M B Z a.tmps w M' B' Z' a'.tmps w'->a'.defers=a.defers->Q .normal a' w')->wpAny E.P .any ops Q fuel L a w:=by
 obtain ⟨hback,hcomm⟩:=bHI hok;have bD3:∀ (L:Array Bool),L.size=ops.size->Region.ready .any ops L = []->pJ ops.size L = []:=by
  intro L hL h;cases hu:pJ ops.size L with
  | nil=>rfl
  | cons i l =>
   exfalso;have him:i∈pJ ops.size L:=by rw[hu]; simp
   obtain ⟨h1,h2⟩:=Ox.1 him;have ho:ops[i]? = some ops[i]:=Array.getElem?_eq_getElem h1;have hmin:∀ k,k<i->L.getD k true=true:=fun k hk=>by grind [pJ,List.filter_sublist,List.pairwise_lt_range]
   have:i∈Region.ready .any ops L:=QT.2 ⟨h2,_,ho,fun e he hb=>by have hlt:=hback i _ ho e he hb;have:=hmin _ hlt;grind⟩;rw[h] at this; cases this
 intro fuel;induction fuel with
 | zero =>
  intro L M B Z a w K Z' hL hlen _ hI hc hk hQ;have hnil:pJ ops.size L = []:=kU hlen;rw[hnil] at hc;have:Z=Z':=hc;subst this;refine ⟨?_,hQ M B a w hk (Good.refl hI) rfl⟩;cases hr:Region.ready .any ops L with
  | nil=>rfl
  | cons i l =>
   exfalso;have hi:i∈Region.ready .any ops L:=by rw[hr]; simp
   obtain ⟨h1,o,ho,_⟩:=QT.1 hi;have:i∈pJ ops.size L:=Ox.2 ⟨(yQ.1 ho).1,h1⟩;rw[hnil] at this; cases this
 | succ fuel ih =>
  intro L M B Z a w K Z' hL hlen hcl hI hc hk hQ;refine ⟨fun h=>by rw[bD3 L hL h] at hlen; simp at hlen,fun i hi => ?_⟩;obtain ⟨h1,o,ho,hd⟩:=QT.1 hi;have his:=(yQ.1 ho).1;obtain ⟨p,q,u1,u2,u3⟩:=bP0 hL his h1;rw[u1] at hc;obtain ⟨Z1,s1,s2⟩:=aEM ho p q hI.gp hc fun k hkp ok hok'=>by
   have tC:k∈pJ ops.size L:=by rw[u1]; simp_all
   obtain ⟨k1,k2⟩:=Ox.1 tC;grind
  refine aT8 hI ho s1 fun v M' B' w' hG => ?_
  refine ih (L.setIfInBounds i true) (by grind) (by rw[u2]; rw[u1] at hlen; grind) (fun j oj hj hlj e he hb => ?_) hG.inv (by rw[u2]; exact s2) hk fun M2 B2 a2 w2 hk2 hG2 hd2=>hQ M2 B2 a2 w2 hk2 (hG.trans hG2) (by rw[hd2,Act.FU])
  by_cases hij:i=j;grind [getD_set_true]
  .have aKL:(L.setIfInBounds i true).getD j false=true:=hlj;rw[getD_set_ne false hij] at aKL;exact getD_set_true (hcl j oj hj aKL e he hb)
def a3C (E:AE) (g:FuncId) (args:bTA) (dst:Option Nat) (K:ASt->Prop) (Z:ASt):Prop:=(∃ r,Ev E.P g args [] r []/\r.flat=true/\PV.flats args=true/\jB E dst r Z K)\/(dB E.sy dst=true/\∃ r h',Ev E.P g args Z.h r h'/\ED E h' Z.h/\jB E dst r { Z with h:=h' } K)
def BB (E:AE) (o:Oper) (K:ASt->Prop) (Z:ASt):Prop :=
 match zD o with
 | some (f,args)=>(match Z.rd f,jc (args.map Z.rd) with
  | some (.func (.func g) first caps),some az=>a3C E g (first ++ az ++ caps) o.dst K Z
  | _,_=>False)
 | none=>yK E o K Z
def rW (E:AE) (ops:Array Oper):List Oper->(ASt->Prop)->ASt->Prop
 | [],Q,Z=>Q Z
 | o::l,Q,Z =>
  match o.guard with
  | none=>BB E o (rW E ops l Q) Z
  | some (j,want)=>match zu ops Z j with
   | some none=>jB E o.dst (.tuple []) Z (rW E ops l Q)
   | some (some b)=>(b=want->BB E o (rW E ops l Q) Z)/\(b≠want->jB E o.dst (.tuple []) Z (rW E ops l Q))
   | none=>False
def X9 (E:AE) (ops:Array Oper) (K:ASt->Prop) (Z:ASt):Prop:=okD E ops=true/\rW E ops ops.toList K Z
theorem VI {d:Option Nat} {p:PV} {K:ASt->Prop} (h:jB E d p Z K):∃ Z',ASt.put E d p Z=some Z'/\K Z':=by grind [jB]
theorem aE4 {K:ASt->Prop} (h:BB E o K Z):∃ Z',Bh E o Z Z'/\K Z':=by
 unfold BB at h;unfold Bh;split at h
 .rename_i f args hc;split at h
  .rename_i g first caps az h1 h2
   rcases h with ⟨r,a1,a2,a3,a4⟩ | ⟨hsy,r,h',a1,aro,a4⟩
   .obtain ⟨Z',a5,a6⟩:=VI a4;exact ⟨Z',⟨g,first,caps,az,r,h1,h2,.inl ⟨a1,a2,a3,a5⟩⟩,a6⟩
   .obtain ⟨Z',a5,a6⟩:=VI a4;exact ⟨Z',⟨g,first,caps,az,r,h1,h2,.inr ⟨hsy,h',a1,aro,a5⟩⟩,a6⟩
  simp_all
 .rename_i hc;unfold yK at h;split at h
  .rename_i p Z1 hs;obtain ⟨Z',a5,a6⟩:=VI h.2;exact ⟨Z',⟨p,Z1,hs,h.1,a5⟩,a6⟩
  simp_all
theorem a2T {K:ASt->Prop}:∀ (l:List Oper) (k:Nat) {Z:ASt},(∀ j,l[j]? = ops[k+j]?)->rW E ops l K Z->∃ Z',Chain E ops (List.range' k l.length) Z Z'/\K Z'
 | [],k,Z,_,h=>⟨Z,rfl,h⟩
 | o::l,k,Z,hl,h=>by
  have ho:ops[k]? = some o:=by have:=hl 0; simp_all
  have go:∀ Z1,lN E ops o Z Z1->rW E ops l K Z1->∃ Z',Chain E ops (List.range' k (o::l).length) Z Z'/\K Z':=fun Z1 h1 h2=>by obtain ⟨Z',h3,h4⟩:=a2T l (k+1) (fun j=>by have:=hl (j+1); grind) h2;exact ⟨Z',by rw[bP,a1P]; exact ⟨o,ho,Z1,h1,h3⟩,h4⟩
  have run:ql ops Z o=some true->BB E o (rW E ops l K) Z->∃ Z',Chain E ops (List.range' k (o::l).length) Z Z'/\K Z':=fun hg h=>by obtain ⟨Z1,h1,h2⟩:=aE4 h;exact go Z1 (.inl ⟨hg,h1⟩) h2
  have skip:ql ops Z o=some false->jB E o.dst (.tuple []) Z (rW E ops l K)->∃ Z',Chain E ops (List.range' k (o::l).length) Z Z'/\K Z':=fun hg h=>by obtain ⟨Z1,h1,h2⟩:=VI h;exact go Z1 (.inr ⟨hg,h1⟩) h2
  rw[rW] at h;split at h
  grind [ql]
  .rename_i j want hg;split at h
   grind [ql]
   .rename_i b hv;by_cases hb:b=want;grind [ql]
    .exact skip (by simp[ql,hg,hv,hb]) (h.2 hb)
   simp_all
theorem aVE (hm:E.P.follows .mixedOrders=true) {out:Nat->Nat} {M:Mem} {B:aN} {a:Act} {w:World} {id:Nat} {Q:Exit->Act->World->Prop} {K:ASt->Prop} (hI:Inv E.n M B out Z a.tmps w) (h:X9 E ops K Z)
 (hQ:∀ Z' M' B' a' w',K Z'->Good E.n out M B Z a.tmps w M' B' Z' a'.tmps w'->a'.defers=a.defers->Q .normal a' w'):(Code.region id ops true).wp E.P Q a w:=by
 obtain ⟨hok,h⟩:=h;obtain ⟨Z',hc,hk⟩:=a2T ops.toList 0 (fun j=>by simp) h;have hd:=hI.drew;have hu:pJ ops.size (Array.replicate ops.size false)=List.range' 0 ops.toList.length:=by unfold pJ;rw[aC5.2 (fun i hi=>by have:=WJ.1 hi; simp[this]),aCD]; simp
 refine wp_region_any hm ?_;refine aDV hok ops.size (Array.replicate ops.size false) (K:=K) (Z':=Z') (by simp) (by rw[hu]; simp) (fun j o _ h => ?_) hd.1 (by rw[hu]; exact hc) hk fun M' B' a' w' hk' hG hd'=>hQ Z' M' B' a' w' hk' (hd.2.trans hG) hd'
 have h':(Array.replicate ops.size false).getD j false=true:=h;simp[Array.getElem?_replicate] at h';split at h'<;>simp at h'
end
def QW (E:AE) (ops:Array Oper) (Kp:ASt->Prop):Nat->Array Bool->ASt->Prop
 | 0,L,Z=>Region.ready .any ops L = []/\Kp Z
 | fuel+1,L,Z=>(Region.ready .any ops L = []->Kp Z)/\∀ i,i∈Region.ready .any ops L->∃ o,ops[i]? = some o/\∃ Z',lN E ops o Z Z'/\QW E ops Kp fuel (L.setIfInBounds i true) Z'
def aF2 (j:Nat) (o:Oper):Bool:=o.after.toList.any fun e=>Region.binds .any e&&e.on==j
def a4H (E:AE) (ops:Array Oper) (L:Array Bool) (j:Nat):Bool:=match ops[j]? with
 | none=>false
 | some o=>(pJ ops.size L).all fun k=>k==j||(match ops[k]? with | none=>false | some ok=>aF2 j ok||JX E ops o ok)
def Hf (E:AE) (ops:Array Oper) (L:Array Bool):List Nat->Option Nat
 | []=>none
 | j::l=>match a4H E ops L j with | true=>some j | false=>Hf E ops L l
def JG (E:AE) (ops:Array Oper) (Kp:ASt->Prop):Nat->Array Bool->ASt->Prop
 | 0,L,Z=>Region.ready .any ops L = []/\Kp Z
 | fuel+1,L,Z=>(Region.ready .any ops L = []->Kp Z)/\∀ i,i∈(match Hf E ops L (Region.ready .any ops L) with | some j => [j] | none=>Region.ready .any ops L)->∃ o,ops[i]? = some o/\∃ Z',lN E ops o Z Z'/\JG E ops Kp fuel (L.setIfInBounds i true) Z'
section
variable {E:AE} {ops:Array Oper} {Kp:ASt->Prop}
theorem aCG {Kq:ASt->Prop} (hm:∀ Z,Kp Z->Kq Z):∀ (fuel:Nat) {L:Array Bool} {Z:ASt},JG E ops Kp fuel L Z->JG E ops Kq fuel L Z
 | 0,L,Z,h=>⟨h.1,hm Z h.2⟩
 | fuel+1,L,Z,h=>⟨fun e=>hm Z (h.1 e),fun i hi=>by obtain ⟨o,ho,Z',h1,h2⟩:=h.2 i hi;exact ⟨o,ho,Z',h1,aCG hm fuel h2⟩⟩
theorem a2P {out:Nat->Nat} {Q:Exit->Act->World->Prop}:∀ (fuel:Nat) (L:Array Bool) {M:Mem} {B:aN} {Z:ASt} {a:Act} {w:World},Inv E.n M B out Z a.tmps w->QW E ops Kp fuel L Z ->
 (∀ Zt M' B' a' w',Kp Zt->Good E.n out M B Z a.tmps w M' B' Zt a'.tmps w'->a'.defers=a.defers->Q .normal a' w')->wpAny E.P .any ops Q fuel L a w
 | 0,L,M,B,Z,a,w,hI,h,hQ=>⟨h.1,hQ Z M B a w h.2 (Good.refl hI) rfl⟩
 | fuel+1,L,M,B,Z,a,w,hI,h,hQ=>by
  refine ⟨fun e=>hQ Z M B a w (h.1 e) (Good.refl hI) rfl,fun i hi => ?_⟩;obtain ⟨o,ho,Z',h1,h2⟩:=h.2 i hi;refine aT8 hI ho h1 fun v M' B' w' hG => ?_
  exact a2P fuel _ hG.inv h2 fun Z3 M3 B3 a3 w3 hk3 hG3 hd=>hQ Z3 M3 B3 a3 w3 hk3 (hG.trans hG3) (by rw[hd,Act.FU])
theorem aGF {L:Array Bool} {j:Nat}:∀ {l:List Nat},Hf E ops L l=some j->j∈l/\a4H E ops L j=true
 | [],h=>by cases h
 | i::l,h=>by
  unfold Hf at h;split at h
  .rename_i hc; cases h; exact ⟨by simp,hc⟩
  .have:=aGF h; exact ⟨by simp[this.1],this.2⟩
theorem bM1 {L:Array Bool} {i j:Nat}:(L.setIfInBounds i true).setIfInBounds j true=(L.setIfInBounds j true).setIfInBounds i true:=by grind
theorem aA5 {L:Array Bool} {i j:Nat} (hi:i∈Region.ready .any ops L) (hne:i≠j):i∈Region.ready .any ops (L.setIfInBounds j true):=by obtain ⟨h1,o,ho,hd⟩:=QT.1 hi;refine QT.2 ⟨?_,o,ho,fun e he hb=>getD_set_true (hd e he hb)⟩;rw[getD_set_ne true (Ne.symm hne)]; exact h1
theorem bO' {n:Nat} {L:Array Bool} {i k:Nat} (h:k∈pJ n (L.setIfInBounds i true)):k∈pJ n L:=by obtain ⟨h1,h2⟩:=Ox.1 h;refine Ox.2 ⟨h1,?_⟩;by_cases hik:i=k;simp_all;simp_all
theorem aZY {j:Nat} {o:Oper} (ho:ops[j]? = some o):∀ (fuel:Nat) {L:Array Bool} {Z Zj:ASt},jI Z.s->j∈Region.ready .any ops L->(∀ k,k∈pJ ops.size L->k≠j->∀ ok,ops[k]? = some ok->aF2 j ok=true\/JX E ops o ok=true) ->
 lN E ops o Z Zj->QW E ops Kp fuel (L.setIfInBounds j true) Zj->QW E ops Kp (fuel+1) L Z:=by
 intro fuel;induction fuel with
 | zero =>
  intro L Z Zj hs hj hc h1 h2;refine ⟨fun e=>(by rw[e] at hj; cases hj),fun i hi => ?_⟩;by_cases hij:i=j;grind
  .have hi':=aA5 hi hij;rw[h2.1] at hi'; cases hi'
 | succ fuel ih =>
  intro L Z Zj hs hj hc h1 h2;refine ⟨fun e=>(by rw[e] at hj; cases hj),fun i hi => ?_⟩;by_cases hij:i=j;grind
  .obtain ⟨oi,hoi,Zji,h3,h4⟩:=h2.2 i (aA5 hi hij);obtain ⟨hi1,oi2,aKO,bCW⟩:=QT.1 hi;rw[hoi] at aKO; cases aKO;have hcomm:=(hc i (Ox.2 ⟨(yQ.1 hoi).1,hi1⟩) hij oi hoi).resolve_left fun hd=>by obtain ⟨e,he,hb⟩:=List.any_eq_true.1 hd;simp only[bF,rM] at hb;have h5:=bCW e (by grind) hb.1;rw[hb.2] at h5;have h6:=(QT.1 hj).1;grind
   grind [aF3,lN.gp,aA5,bO',bM1]
theorem Wv:∀ (fuel:Nat) {L:Array Bool} {Z:ASt},jI Z.s->JG E ops Kp fuel L Z->QW E ops Kp fuel L Z
 | 0,L,Z,_,h=>h
 | fuel+1,L,Z,hs,h=>by
  unfold JG at h;cases hf:Hf E ops L (Region.ready .any ops L) with
  | some j =>rw[hf] at h;obtain ⟨hm,hc⟩:=aGF hf;obtain ⟨o,ho,Zj,h1,h2⟩:=h.2 j (by simp);unfold a4H at hc;rw[ho] at hc;simp only[iY,EP,rM] at hc;refine aZY ho fuel hs hm (fun k hk hkj ok hok => ?_) h1 (Wv fuel (h1.gp hs) h2);have:=(hc k hk).resolve_left hkj;rw[hok] at this;exact (EP _ _).mp this
  | none =>rw[hf] at h;refine ⟨h.1,fun i hi => ?_⟩;obtain ⟨o,ho,Z',h1,h2⟩:=h.2 i hi;exact ⟨o,ho,Z',h1,Wv fuel (h1.gp hs) h2⟩
theorem aVG {o:Oper} {Z:ASt} (h:rW E ops [o] Kp Z):∃ Z',lN E ops o Z Z'/\Kp Z':=by
 have run:ql ops Z o=some true->BB E o Kp Z->∃ Z',lN E ops o Z Z'/\Kp Z':=fun hg h=>by obtain ⟨Z1,h1,h2⟩:=aE4 h;exact ⟨Z1,.inl ⟨hg,h1⟩,h2⟩
 have skip:ql ops Z o=some false->jB E o.dst (.tuple []) Z Kp->∃ Z',lN E ops o Z Z'/\Kp Z':=fun hg h=>by obtain ⟨Z1,h1,h2⟩:=VI h;exact ⟨Z1,.inr ⟨hg,h1⟩,h2⟩
 rw[rW] at h;split at h
 .rename_i hg; exact run (by simp[ql,hg]) h
 .rename_i j want hg;split at h
  .rename_i hv; exact skip (by simp[ql,hg,hv]) h
  .rename_i b hv;by_cases hb:b=want
   .exact run (by simp[ql,hg,hv,hb]) (h.1 hb)
   .exact skip (by simp[ql,hg,hv,hb]) (h.2 hb)
  simp_all
end
def aE3 (E:AE) (ops:Array Oper) (K:ASt->Prop) (Z:ASt):Prop:=X9 E ops K Z\/JG E ops K ops.size (Array.replicate ops.size false) Z
theorem aVC {E:AE} (hm:E.P.follows .mixedOrders=true) {out:Nat->Nat} {M:Mem} {B:aN} {Z:ASt} {a:Act} {w:World} {id:Nat} {ops:Array Oper} {Q:Exit->Act->World->Prop} {K:ASt->Prop} (hI:Inv E.n M B out Z a.tmps w) (h:aE3 E ops K Z)
 (hQ:∀ Z' M' B' a' w',K Z'->Good E.n out M B Z a.tmps w M' B' Z' a'.tmps w'->a'.defers=a.defers->Q .normal a' w'):(Code.region id ops true).wp E.P Q a w:=by
 rcases h with h | h
 grind [aVE]
 .have hd:=hI.drew;exact wp_region_any hm (a2P ops.size _ hd.1 (Wv _ hd.1.gp h) fun Zt M' B' a' w' hk hG hdf=>hQ Zt M' B' a' w' hk (hd.2.trans hG) hdf)
inductive AX where
 | normal
 | ret
 | exit (id:Nat)
def AX.toExit:AX->Exit
 | .normal => .normal
 | .ret => .ret
 | .exit i => .exit i
def ASt.keep (l:List Nat) (Z:ASt):ASt := { Z with s:=Z.s.filter fun kp=>l.contains kp.1 }
def ui (sz:List (Nat×List Nat)):fD->fD
 | [] => []
 | (k,p)::l=>(match sz.lookup k with | some z=>(k,p.zX z) | none=>(k,p))::ui sz l
def a8R (zs:List Nat) (p:PV) (h:aG):aG:=match p with
 | .ptr i 0=>(match h[i]? with | some (some cs)=>h.set i (some (yG zs cs)) | _=>h)
 | _=>h
def a8N (s:fD):List (Nat×List Nat)->aG->aG
 | [],h=>h
 | (k,zs)::l,h=>a8N s l (match bT k s with | some p=>a8R zs p h | none=>h)
def ASt.head (E:AE) (Z:ASt):ASt:=⟨ui E.sz (Z.keep E.vars).s,a8N (ui E.sz (Z.keep E.vars).s) E.pt Z.h⟩
def ASt.gc (l:List Nat) (m:Nat) (Z:ASt):ASt:=⟨Z.s.filter fun kp=>l.contains kp.1,Z.h.take m⟩
def DR (l:List Nat) (m:Nat) (Z:ASt):Bool:=(Z.gc l m).s.all (fun kp=>kp.2.blw m)&&zl m (Z.gc l m).h
def D8 (K:ASt->Prop) (Q:AX->ASt->Prop):AX->ASt->Prop
 | .normal,Z=>K Z
 | e,Z=>Q e Z
def lF (sz:Nat) (cs:bTA) (n:Nat):bTA:=match sz with
 | 1=>(cs.take n).map PV.un
 | _=>(List.range n).map fun j => .agg (((cs.drop (j*sz)).take sz).map PV.un)
def Y8 (k:Nat) (Z:ASt):ASt:=match bT k Z.s with
 | some (.slh i 0 n sz)=>(match Z.h[i]? with
  | some (some cs)=>(match decide (n*sz<=cs.length)&&decide (0<sz)&&cs.all fun p=>p.one&&p.flat with
   | true=>⟨iI k (.sl false sz (lF sz cs n)) Z.s,Z.h.set i none⟩
   | false=>Z)
  | _=>Z)
 | _=>Z
def a4I (k:Nat) (Z:ASt):ASt:=match bT k Z.s with
 | some (.slh i 0 n 1)=>(match Z.h[i]? with
  | some (some cs)=>(match Nat.beq cs.length n&&cs.all fun p=>p.one&&p.flat with
   | true=>⟨iI k (.sl true 1 (cs.map PV.un)) Z.s,Z.h.set i none⟩
   | false=>Z)
  | _=>Z)
 | _=>Z
def Q3 (k:Nat) (Z:ASt):ASt:=match bT k Z.s with
 | some (.gB true n sz cs)=>(match Nat.ble 1 n with
  | true=>⟨iI k (.slh Z.h.length 0 n sz) Z.s,Z.h ++ [some cs]⟩
  | false=>⟨iI k (.sl false sz []) Z.s,Z.h⟩)
 | _=>Z
def VJ (k j:Nat) (Z:ASt):ASt:=match bT k Z.s with
 | some (.ptr i 0)=>(match Z.h[i]? with
  | some (some cs0)=>(match cs0[j]? with
   | some (.gB true n sz cs)=>(match Nat.ble 1 n with
    | true=>⟨Z.s,Z.h.set i (some (cs0.set j (.slh Z.h.length 0 n sz))) ++ [some cs]⟩
    | false=>⟨Z.s,Z.h.set i (some (cs0.set j (.sl false sz [])))⟩)
   | _=>Z)
  | _=>Z)
 | _=>Z
def Y5 (k j:Nat) (Z:ASt):ASt:=match bT k Z.s with
 | some (.ptr i2 0)=>(match Z.h[i2]? with
  | some (some cs0)=>(match cs0[j]? with
   | some (.slh i 0 n sz)=>(match Z.h[i]? with
    | some (some cs)=>(match decide (n*sz<=cs.length)&&decide (0<sz)&&cs.all (fun p=>p.one&&p.flat) && !Nat.beq i i2 with
     | true=>⟨Z.s,(Z.h.set i none).set i2 (some (cs0.set j (.sl false sz (lF sz cs n))))⟩
     | false=>Z)
    | _=>Z)
   | _=>Z)
  | _=>Z)
 | _=>Z
def Y7 (k:Nat) (Z:ASt):ASt:=match bT k Z.s with
 | some (.ptr i 0)=>(match Z.h[i]? with
  | some (some cs)=>(match decide (0<cs.length)&&cs.all fun p=>p.one&&p.flat with
   | true=>⟨iI k (.cst ((lF cs.length cs 1).headD .nilp)) Z.s,Z.h.set i none⟩
   | false=>Z)
  | _=>Z)
 | _=>Z
def ww (k:Nat) (Z:ASt):ASt:=match Nat.ble 9000000 k with
 | true=>Y7 (k-9000000) Z
 | false=>match Nat.ble 5000000 k with
 | true=>Y5 ((k-5000000) / 100) ((k-5000000) % 100) Z
 | false=>match Nat.ble 4000000 k with
 | true=>VJ ((k-4000000) / 100) ((k-4000000) % 100) Z
 | false=>match Nat.ble 3000000 k with
 | true=>Q3 ((k-3000000) % 500000) Z
 | false=>match Nat.ble 1000000 k with
  | true=>Y8 (k-1000000) Z
  | false=>a4I k Z
def xy:List Nat->ASt->ASt
 | [],Z=>Z
 | k::ks,Z=>xy ks (ww k Z)
def jA (m0:Nat) (K:ASt->Prop) (Z:ASt):Prop:=∃ ks,K (xy ks Z)\/∃ l m,m0<=m/\DR l m (xy ks Z)=true/\K ((xy ks Z).gc l m)
def NV (id:Nat) (Q:AX->ASt->Prop):AX->ASt->Prop
 | .exit i,Z=>if i=id then Q .normal Z else Q (.exit i) Z
 | e,Z=>Q e Z
def LH (m0:Nat) (body:(AX->ASt->Prop)->ASt->Prop) (Q:AX->ASt->Prop):Nat->ASt->Prop
 | 0,_=>False
 | n+1,Z=>∃ l m,m0<=m/\DR l m Z=true/\body (D8 (LH m0 body Q n) Q) (Z.gc l m)
def aNN (m0:Nat) (body:(AX->ASt->Prop)->ASt->Prop) (Q:AX->ASt->Prop) (Z:ASt):Prop:=∃ n,LH m0 body Q n Z
def dD (E:AE) (m0:Nat):Code->(AX->ASt->Prop)->ASt->Prop
 | .skip,Q,Z=>Q .normal Z
 | .region _ ops draw,Q,Z=>if draw then aE3 E ops (Q .normal) (Z.head E) else lD E ops ops.toList (Q .normal) (Z.head E)
 | .seq x y,Q,Z=>dD E m0 x (D8 (jA m0 (dD E m0 y Q)) Q) Z
 | .cond c x y,Q,Z=>match Z.rd c with
  | some (.bool b)=>(b=true->dD E m0 x Q Z)/\(b=false->dD E m0 y Q Z)
  | _=>False
 | .block id x,Q,Z=>dD E m0 x (NV id Q) Z
 | .loop x,Q,Z=>aNN m0 (dD E m0 x) Q Z
 | .exit id,Q,Z=>Q (.exit id) Z
 | .ret,Q,Z=>Q .ret Z
 | .scope x,Q,Z=>dD E m0 x Q Z
 | .label _,Q,Z=>Q .normal Z
 | .rangeFunc _ _ _ _,_,_=>False
 | .goto _,_,_=>False
 | .refuse _,_,_=>False
structure bz (n:Nat) (out:Nat->Nat) (m0:Nat) (M:Mem) (B:aN) (Z:ASt) (t:Array Value) (w:World) (M':Mem) (B':aN) (Z':ASt) (t':Array Value) (w':World):Prop where
 inv:Inv n M' B' out Z' t' w'
 mem:∀ (b o:Nat) (v:Value),M b o=some v->M' b o=some v
 pre:∀ (i:Nat) (c:Nat×Nat×TypeId),i<m0->B[i]? = some c->B'[i]? = some c
 fr:Fr (fp B Z t w) M w M' w'
 own:∀ b,b<w.heap.size->fp B' Z' t' w' b<=fp B Z t w b
section
variable {n:Nat} {out:Nat->Nat} {m0:Nat} {M M1 M2:Mem} {B B1 B2:aN} {Z Z1 Z2:ASt} {t t1 t2:Array Value} {w w1 w2:World} {E:AE}
theorem bz.trans (h:bz n out m0 M B Z t w M1 B1 Z1 t1 w1) (k:bz n out m0 M1 B1 Z1 t1 w1 M2 B2 Z2 t2 w2):bz n out m0 M B Z t w M2 B2 Z2 t2 w2 :=⟨k.inv,fun b o v e=>k.mem b o v (h.mem b o v e),fun i c hi e=>k.pre i c hi (h.pre i c hi e),h.fr.trans k.fr (fun b hb h0=>by have:=h.own b hb; omega),fun b hb=>mP (k.own b (QR hb h.fr.size)) (h.own b hb)⟩
theorem Good.c (h:Good n out M B Z t w M1 B1 Z1 t1 w1):bz n out m0 M B Z t w M1 B1 Z1 t1 w1:=⟨h.inv,h.le.mem,fun i c _ e=>h.le.blk i c e,h.fr,h.own⟩
theorem bz.refl (h:Inv n M B out Z t w):bz n out m0 M B Z t w M B Z t w:=(Good.refl h).c
theorem a8S (f:Nat×PV->Bool) (b:Nat):∀ s:fD,iP (s.filter f) t b<=iP s t b
 | []=>cu _
 | (k,p)::l=>by have:=a8S f b l;rw[List.filter_cons];grind [iP]
theorem a0N (f:Nat->Bool) {k:Nat} {p:PV}:∀ {s:fD},bT k (s.filter fun kp=>f kp.1)=some p->bT k s=some p
 | [],h=>by simp_all
 | (j,q)::l,h=>by
  rw[List.filter_cons] at h;split at h
  .rw[bT] at h ⊢;split at h
   simp_all
   .rename_i e; rw[aQ e]; exact a0N f h
  .rename_i hf;have:=a0N f h;rw[bT];split
   .rename_i e; subst e;have hm:=a0O h;rw[List.mem_filter] at hm;simp_all
   omega
theorem a8Q (m:Nat) (b:Nat):∀ (h:aG) (B:aN),aP w (h.take m) (B.take m) b<=aP w h B b:=by
 induction m with
 | zero=>intro h B; simp[aP]
 | succ m ih =>
  intro h B;cases h with
  | nil=>simp[aP]
  | cons x h =>
   cases B with
   | nil=>cases x<;>simp[aP]
   | cons c B =>have:=ih h B;cases x<;>simp only[List.take_succ_cons,aP]<;>omega
theorem bF4 (hI:Inv n M B out Z t w) (l:List Nat):Good n out M B Z t w M B (Z.keep l) t w:=by
 have hle:∀ b,fp B (Z.keep l) t w b<=fp B Z t w b:=fun b=>by have:=a8S (t:=t) (fun kp=>l.contains kp.1) b Z.s;grind [fp,ASt.keep]
 exact ⟨⟨hI.size,hI.mem,List.Pairwise.sublist List.filter_sublist hI.gp,fun k p hp=>hI.slots k p (a0N (fun k=>l.contains k) hp),hI.heap,fun b=>by have:=hle b; have:=hI.cnt b; omega,fun b hb=>by have:=hle b; have:=hI.new b hb; omega⟩,dG.refl _ _,Fr.refl _ _ _,fun b _=>hle b⟩
theorem Ug {k:Nat} {p:PV} {b:Nat} (hk:k<t.size) (hs:jI Z.s):iP (iI k p Z.s) t b+oq Z.s t k b=iP Z.s t b+bK p (t.getD k undef) b:=by
 have hset:t.setIfInBounds k (t.getD k undef)=t:=by apply Array.ext (by simp);intro i h1 h2;by_cases h:k=i;simp_all;simp_all
 have:=Uh (p:=p) (v:=t.getD k undef) (b:=b) hk hs;rwa [hset] at this
theorem Dw {b:Nat}:∀ {h:aG} {B:aN} {i:Nat} {cs:bTA} {c:Nat×Nat×TypeId},h[i]? = some (some cs)->B[i]? = some c->aP w (h.set i none) B b+((if c.1=b then 1 else 0)+dQ cs (gZ w c.1) b)=aP w h B b
 | [],_,_,_,_,h,_=>by simp at h
 | _::_,[],_,_,_,_,h=>by simp at h
 | some ds::h,d::B,0,cs,c,h1,h2=>by grind [aP]
 | none::h,d::B,0,cs,c,h1,h2=>by simp at h1
 | some ds::h,d::B,i+1,cs,c,h1,h2=>by have:=Dw (b:=b) (h:=h) (B:=B) (i:=i) (cs:=cs) (c:=c) (by grind) (by grind); grind [aP]
 | none::h,d::B,i+1,cs,c,h1,h2=>by have:=Dw (b:=b) (h:=h) (B:=B) (i:=i) (cs:=cs) (c:=c) (by grind) (by grind); grind [aP]
theorem aZZ (hI:Inv n M B out Z t w) (k:Nat):∃ M',bz n out m0 M B Z t w M' B (a4I k Z) t w:=by
 unfold a4I;split;case h_2=>exact ⟨M,bz.refl hI⟩
 rename_i i m hk;split;case h_2=>exact ⟨M,bz.refl hI⟩
 rename_i cs hi;split;case h_2=>exact ⟨M,bz.refl hI⟩
 rename_i hb;simp only[bF,iY] at hb;obtain ⟨hb1,hb2⟩:=hb;have hm:cs.length=m:=nZ hb1;obtain ⟨hkn,hrep,_⟩:=hI.slots k _ hk;obtain ⟨c,cap,⟨hc,hcm⟩,hv,hle,hcap⟩:=sN.1 hrep;obtain ⟨vs,ty,r1,o2,o3,o4,o5⟩:=hI.heap.at hi hc;obtain ⟨ty,rfl,o1⟩:=EE r1 (by rw[o2.2]; exact hcm);have hkt:k<t.size:=by rw[hI.size]; exact hkn
 have hown:1<=aP w Z.h B c.1:=by have:=kR (w:=w) c.1 hi hc;grind
 obtain ⟨M',hM'⟩:∃ M':Mem,∀ b o,M' b o=if b=c.1 then (if o<m then vs[o]? else none) else M b o:=⟨yE _ _,BO (TM o5)⟩
 have hmem:dG M M' B B:=⟨fun b o v h=>by
  have:b≠c.1:=fun e=>by simp_all
  rw[hM']; simp_all,fun _ _ h=>h⟩
 have hne:∀ b,b≠c.1->∀ o,M' b o=M b o:=fun b h o=>by rw[hM']; simp_all
 have hcell:∀ o,w.cell? ⟨c.1,o,none⟩=vs[o]? := fun o=>by simp[World.cell?,o1]
 have hS:=fun b=>Ug (t:=t) (p := .sl true 1 (cs.map PV.un)) (b:=b) hkt hI.gp
 have hH:=fun b=>Dw (w:=w) (b:=b) hi hc
 have hvo:∀ b,bK (.sl true 1 (cs.map PV.un)) (t.getD k undef) b=if c.1=b then 1 else 0:=fun b=>by rw[hv]; rfl
 have hfp:∀ b,fp B ⟨iI k (.sl true 1 (cs.map PV.un)) Z.s,Z.h.set i none⟩ t w b<=fp B Z t w b:=fun b=>by have h1:=hS b;have h2:=hH b;rw[hvo] at h1;simp only[fp]; omega
 have hfc:∀ b,1<=iP Z.s t b->b≠c.1:=fun b h e=>by subst e;have:=hI.cnt c.1;grind [fp]
 have OU:∀ (j:Nat) e,(cs.map PV.un)[j]? = some e->Loc M' [] e c.1 (0+j*1):=fun j e he=>by
  rw[kJ] at he;cases hcj:cs[j]? with
  | none=>rw[hcj] at he; cases he
  | some q =>
   rw[hcj] at he;cases he;obtain ⟨v,hv',hr,_,_⟩:=o4 j q hcj;have hj:j<m:=by rw[<- hm]; grind
   have hq:=hb2 q (nK hcj);have h1:M' c.1 (0+j*1)=some v:=by rw[hM']; simp_all
   have hone:q.isAgg=false/\∀ ds,q ≠ .tuple ds:=by have:=hq.1;cases q<;>first | (simp[PV.one] at this; done) | exact ⟨rfl,fun ds h=>by cases h⟩
   rw[a7V,vV hone.1 hone.2];exact ⟨v,h1,Rep.flat [] hq.2 (hr.mono hmem)⟩
 refine ⟨M',⟨⟨hI.size,fun b o v h => ?_,Bl hI.gp,fun j p hj => ?_,⟨by simp[hI.heap.1],fun i' cs' hi' => ?_⟩,fun b=>by have:=hfp b; have:=hI.cnt b; omega,fun b hb=>by have:=hfp b; have:=hI.new b hb; omega⟩,hmem.mem,fun _ _ _ h=>h,⟨rfl,rfl,rfl,cu _,fun b hb h0=>⟨rfl,fun o=>hne b (fun e=>by grind [fp]) o⟩⟩,fun b _=>hfp b⟩⟩
 .by_cases e:b=c.1
  .subst e;rw[hM'] at h;simp only[yY] at h;split at h
   .rename_i ho;rw[hcell];refine ⟨h,?_⟩;obtain ⟨q,hq⟩:∃ q,cs[o]? = some q:=⟨_,jF (by omega)⟩;grind
   .cases h
  .rw[hne b e] at h; exact hI.mem b o v h
 .rw[Bj j hI.gp] at hj;split at hj
  .rename_i e; subst e; injection hj with hj; subst hj
   refine ⟨hkn,?_,?_⟩
   .rw[hv];refine jE.2 ⟨some ⟨c.1,0,none⟩,cap,by simp[hm],by simp_all,fun e he => ?_,(fun h=>by cases h),fun _=>⟨c.1,0,rfl,zK OU⟩⟩;obtain ⟨q,hq,rfl⟩:=qR.1 he;have:=(hb2 q hq).1;rw[aBV];cases q<;>first | (simp[PV.one] at this; done) | rfl
   .refine Q7 (fun l h=>by cases h) ?_;intro sz es A n' cap' e1 e2;rw[hv] at e2;grind
  .rename_i hjk;obtain ⟨s1,s2,s3⟩:=hI.slots j p hj;refine ⟨s1,s2.mono hmem,s3.kept fun b ho=>⟨rfl,hne b (hfc b ?_)⟩⟩;have:=Dx (s:=Z.s) (t:=t) (k:=j) (b:=b);grind [oq]
 .have hii:i'≠i:=fun e=>by grind
  simp only at hi';rw[qF (Ne.symm hii)] at hi';obtain ⟨c',hc',vs',ty',q1,q2,q3,q4,q5⟩:=hI.heap.2 i' cs' hi';have hoc:∀ b,1<=(if c'.1=b then 1 else 0)+dQ cs' (gZ w c'.1) b->b≠c.1:=fun b h e=>by subst e;have h2:=Dw (w:=w) (b:=c.1) hi hc;have h3:=kR (w:=w) (h:=Z.h.set i none) c.1 (by rw[qF (Ne.symm hii)]; exact hi') hc';have:=hI.cnt c.1;grind [fp]
  refine ⟨c',hc',vs',ty',q1,q2,q3,fun j p hj => ?_,fun o => ?_⟩
  .obtain ⟨v,a1,a2,a3,a4⟩:=q4 j p hj;refine ⟨v,a1,a2.mono hmem,a3.kept fun b ho=>⟨rfl,hne b (hoc b ?_)⟩,a4⟩;have:=xH b hj (by rw[qK q1]; grind:(gZ w c'.1)[j]? = some v);omega
  simp_all
theorem XY {sz:Nat} {cs:bTA} {n:Nat} (h0:0<sz) (hn:n*sz<=cs.length) (h1:∀ p,p∈cs->p.one=true):(lF sz cs n).length=n/\(∀ e,e∈lF sz cs n->e.size=sz) /\
 ∀ (M:Mem) (b:Nat),(∀ (j:Nat) p,cs[j]? = some p->j<n*sz->Loc M [] p b j)->jr M [] sz (lF sz cs n) b 0:=by
 by_cases h:sz=1
 .subst h;have e:lF 1 cs n=(cs.take n).map PV.un:=rfl;rw[e];refine ⟨by simp; omega,fun e he => ?_,fun M b hc=>zK fun j p hj => ?_⟩
  .obtain ⟨q,hq,rfl⟩:=qR.1 he;have:=h1 q (QP hq);rw[aBV];cases q<;>first | (simp[PV.one] at this; done) | rfl
  grind [a7V]
 .have e:lF sz cs n=(List.range n).map fun j => .agg (((cs.drop (j*sz)).take sz).map PV.un):=by grind [lF]
  rw[e];have hfit:∀ j,j<n->j*sz+sz<=cs.length:=fun j hj=>by have:(j+1)*sz<=n*sz:=uu _ hj;rw[GV] at this; omega
  refine ⟨by simp,fun e he => ?_,fun M b hc=>zK fun j p hj => ?_⟩;grind [PV.size]
  .rw[kJ] at hj;cases hq:(List.range n)[j]? with
   | none=>simp_all
   | some q =>
    obtain ⟨hlt,hq'⟩:=iJ.1 hq;simp at hlt hq';subst hq';rw[hq] at hj; injection hj with hj; subst hj
    refine yD.2 (Ei fun k r hr => ?_);rw[kJ] at hr;cases hd:((cs.drop (j*sz)).take sz)[k]? with
    | none=>simp_all
    | some r' =>simp[hd] at hr; subst hr;have hk:=(iJ.1 hd).1;simp at hk;rw[lM,aS (by omega),aC9] at hd;have hone:=h1 r' (nK hd);have:=hc (j*sz+k) r' hd (by have:(j+1)*sz<=n*sz:=uu _ hlt;rw[GV] at this; omega);obtain ⟨u,hu,hr⟩:=(BJ hone).1 this;exact ⟨u,by rw[qU]; exact hu,oL.2 hr⟩
theorem a'2 (hI:Inv n M B out Z t w) (k:Nat):∃ M',bz n out m0 M B Z t w M' B (Y8 k Z) t w:=by
 unfold Y8;split;case h_2=>exact ⟨M,bz.refl hI⟩
 rename_i i m sz hk;split;case h_2=>exact ⟨M,bz.refl hI⟩
 rename_i cs hi;split;case h_2=>exact ⟨M,bz.refl hI⟩
 rename_i hb;simp only[bF,iY,lw] at hb;obtain ⟨⟨hb1,hb0⟩,hb2⟩:=hb;obtain ⟨hkn,hrep,_⟩:=hI.slots k _ hk;obtain ⟨c,cap,⟨hc,hcm⟩,hv,hle,hcap⟩:=sN.1 hrep;obtain ⟨vs,ty,r1,o2,o3,o4,o5⟩:=hI.heap.at hi hc;obtain ⟨ty,rfl,o1⟩:=EE r1 (by rw[o2.2]; exact hcm);have hkt:k<t.size:=by rw[hI.size]; exact hkn
 have hown:1<=aP w Z.h B c.1:=by have:=kR (w:=w) c.1 hi hc;grind
 obtain ⟨M',hM'⟩:∃ M':Mem,∀ b o,M' b o=if b=c.1 then (if o<m*sz then vs[o]? else none) else M b o:=⟨yE _ _,BO (TM o5)⟩
 have hmem:dG M M' B B:=⟨fun b o v h=>by
  have:b≠c.1:=fun e=>by simp_all
  rw[hM']; simp_all,fun _ _ h=>h⟩
 have hne:∀ b,b≠c.1->∀ o,M' b o=M b o:=fun b h o=>by rw[hM']; simp_all
 have hcell:∀ o,w.cell? ⟨c.1,o,none⟩=vs[o]? := fun o=>by simp[World.cell?,o1]
 obtain ⟨k1,k2,k3⟩:=XY hb0 hb1 fun p hp=>(hb2 p hp).1
 have hH:=fun b=>Dw (w:=w) (b:=b) hi hc
 have hS:=fun b=>Ug (t:=t) (p := .sl false sz (lF sz cs m)) (b:=b) hkt hI.gp
 have hfp:∀ b,fp B ⟨iI k (.sl false sz (lF sz cs m)) Z.s,Z.h.set i none⟩ t w b<=fp B Z t w b:=fun b=>by have h1:=hS b;have h2:=hH b;rw[dC rfl] at h1;simp only[fp]; omega
 have hfc:∀ b,1<=iP Z.s t b->b≠c.1:=fun b h e=>by subst e;have:=hI.cnt c.1;grind [fp]
 refine ⟨M',⟨⟨hI.size,fun b o v h => ?_,Bl hI.gp,fun j p hj => ?_,⟨by simp[hI.heap.1],fun i' cs' hi' => ?_⟩,fun b=>by have:=hfp b; have:=hI.cnt b; omega,fun b hb=>by have:=hfp b; have:=hI.new b hb; omega⟩,hmem.mem,fun _ _ _ h=>h,⟨rfl,rfl,rfl,cu _,fun b hb h0=>⟨rfl,hne b (fun e=>by grind [fp])⟩⟩,fun b _=>hfp b⟩⟩
 .by_cases e:b=c.1
  .subst e;rw[hM'] at h;simp only[yY] at h;split at h
   .rename_i ho;rw[hcell];refine ⟨h,?_⟩;obtain ⟨q,hq⟩:∃ q,cs[o]? = some q:=⟨_,jF (by omega)⟩;grind
   .cases h
  .rw[hne b e] at h; exact hI.mem b o v h
 .rw[Bj j hI.gp] at hj;split at hj
  .rename_i e; subst e; injection hj with hj; subst hj
   refine ⟨hkn,?_,fA rfl⟩;rw[hv];refine jE.2 ⟨some ⟨c.1,0,none⟩,cap,by rw[k1],by rw[k1]; exact hle,k2,(fun h=>by omega),fun _=>⟨c.1,0,rfl,k3 M' c.1 fun j q hq hlt => ?_⟩⟩;obtain ⟨v,hv',hr,_,_⟩:=o4 j q hq;have hq':=hb2 q (nK hq);refine (BJ hq'.1).2 ⟨v,?_,Rep.flat [] hq'.2 (hr.mono hmem)⟩;rw[hM']; simp_all
  .rename_i hjk;obtain ⟨s1,s2,s3⟩:=hI.slots j p hj;refine ⟨s1,s2.mono hmem,s3.kept fun b ho=>⟨rfl,hne b (hfc b ?_)⟩⟩;have:=Dx (s:=Z.s) (t:=t) (k:=j) (b:=b);grind [oq]
 .have hii:i'≠i:=fun e=>by grind
  simp only at hi';rw[qF (Ne.symm hii)] at hi';obtain ⟨c',hc',vs',ty',q1,q2,q3,q4,q5⟩:=hI.heap.2 i' cs' hi';have hoc:∀ b,1<=(if c'.1=b then 1 else 0)+dQ cs' (gZ w c'.1) b->b≠c.1:=fun b h e=>by subst e;have h2:=Dw (w:=w) (b:=c.1) hi hc;have h3:=kR (w:=w) (h:=Z.h.set i none) c.1 (by rw[qF (Ne.symm hii)]; exact hi') hc';have:=hI.cnt c.1;grind [fp]
  refine ⟨c',hc',vs',ty',q1,q2,q3,fun j p hj => ?_,fun o => ?_⟩
  .obtain ⟨v,a1,a2,a3,a4⟩:=q4 j p hj;refine ⟨v,a1,a2.mono hmem,a3.kept fun b ho=>⟨rfl,hne b (hoc b ?_)⟩,a4⟩;have:=xH b hj (by rw[qK q1]; grind:(gZ w c'.1)[j]? = some v);omega
  simp_all
theorem a'0 (hI:Inv n M B out Z t w) (k:Nat):∃ M',bz n out m0 M B Z t w M' B (Y7 k Z) t w:=by
 unfold Y7;split;case h_2=>exact ⟨M,bz.refl hI⟩
 rename_i i hk;split;case h_2=>exact ⟨M,bz.refl hI⟩
 rename_i cs hi;split;case h_2=>exact ⟨M,bz.refl hI⟩
 rename_i hb;simp only[bF,iY,lw] at hb;obtain ⟨hb0,hb2⟩:=hb;generalize hsz:cs.length=sz at hb0 ⊢;have hb1:1*sz<=cs.length:=by omega
 obtain ⟨hkn,hrep,_⟩:=hI.slots k _ hk;obtain ⟨c,⟨hc,hcm⟩,hv⟩:=vZ.1 hrep;obtain ⟨vs,ty,r1,o2,o3,o4,o5⟩:=hI.heap.at hi hc;obtain ⟨ty,rfl,o1⟩:=EE r1 (by rw[o2.2]; exact hcm);have hkt:k<t.size:=by rw[hI.size]; exact hkn
 have hown:1<=aP w Z.h B c.1:=by have:=kR (w:=w) c.1 hi hc;grind
 obtain ⟨M',hM'⟩:∃ M':Mem,∀ b o,M' b o=if b=c.1 then (if o<1*sz then vs[o]? else none) else M b o:=⟨yE _ _,BO (TM o5)⟩
 have hmem:dG M M' B B:=⟨fun b o v h=>by
  have:b≠c.1:=fun e=>by simp_all
  rw[hM']; simp_all,fun _ _ h=>h⟩
 have hne:∀ b,b≠c.1->∀ o,M' b o=M b o:=fun b h o=>by rw[hM']; simp_all
 have hcell:∀ o,w.cell? ⟨c.1,o,none⟩=vs[o]? := fun o=>by simp[World.cell?,o1]
 obtain ⟨k1,k2,k3⟩:=XY hb0 hb1 fun p hp=>(hb2 p hp).1
 obtain ⟨x,hx⟩:∃ x,lF sz cs 1 = [x]:=by
  match hh:lF sz cs 1,k1 with
  | [x],_=>simp
 rw[hx] at k3 ⊢;show ∃ M',bz n out m0 M B Z t w M' B ⟨iI k (.cst x) Z.s,Z.h.set i none⟩ t w;have hH:=fun b=>Dw (w:=w) (b:=b) hi hc
 have hS:=fun b=>Ug (t:=t) (p := .cst x) (b:=b) hkt hI.gp
 have hfp:∀ b,fp B ⟨iI k (.cst x) Z.s,Z.h.set i none⟩ t w b<=fp B Z t w b:=fun b=>by have h1:=hS b;have h2:=hH b;rw[dC rfl] at h1;simp only[fp]; omega
 have hfc:∀ b,1<=iP Z.s t b->b≠c.1:=fun b h e=>by subst e;have:=hI.cnt c.1;grind [fp]
 refine ⟨M',⟨⟨hI.size,fun b o v h => ?_,Bl hI.gp,fun j p hj => ?_,⟨by simp[hI.heap.1],fun i' cs' hi' => ?_⟩,fun b=>by have:=hfp b; have:=hI.cnt b; omega,fun b hb=>by have:=hfp b; have:=hI.new b hb; omega⟩,hmem.mem,fun _ _ _ h=>h,⟨rfl,rfl,rfl,cu _,fun b hb h0=>⟨rfl,hne b (fun e=>by grind [fp])⟩⟩,fun b _=>hfp b⟩⟩
 .by_cases e:b=c.1
  .subst e;rw[hM'] at h;simp only[yY] at h;split at h
   .rename_i ho;rw[hcell];refine ⟨h,?_⟩;obtain ⟨q,hq⟩:∃ q,cs[o]? = some q:=⟨_,jF (by omega)⟩;grind
   .cases h
  .rw[hne b e] at h; exact hI.mem b o v h
 .rw[Bj j hI.gp] at hj;split at hj
  .rename_i e; subst e; injection hj with hj; subst hj
   refine ⟨hkn,?_,fA rfl⟩;rw[hv];refine AP.2 ⟨c.1,0,rfl,(KI.1 (k3 M' c.1 fun j q hq hlt => ?_)).1⟩;obtain ⟨v,hv',hr,_,_⟩:=o4 j q hq;have hq':=hb2 q (nK hq);refine (BJ hq'.1).2 ⟨v,?_,Rep.flat [] hq'.2 (hr.mono hmem)⟩;rw[hM']; simp_all
  .rename_i hjk;obtain ⟨s1,s2,s3⟩:=hI.slots j p hj;refine ⟨s1,s2.mono hmem,s3.kept fun b ho=>⟨rfl,hne b (hfc b ?_)⟩⟩;have:=Dx (s:=Z.s) (t:=t) (k:=j) (b:=b);grind [oq]
 .have hii:i'≠i:=fun e=>by grind
  simp only at hi';rw[qF (Ne.symm hii)] at hi';obtain ⟨c',hc',vs',ty',q1,q2,q3,q4,q5⟩:=hI.heap.2 i' cs' hi';have hoc:∀ b,1<=(if c'.1=b then 1 else 0)+dQ cs' (gZ w c'.1) b->b≠c.1:=fun b h e=>by subst e;have h2:=Dw (w:=w) (b:=c.1) hi hc;have h3:=kR (w:=w) (h:=Z.h.set i none) c.1 (by rw[qF (Ne.symm hii)]; exact hi') hc';have:=hI.cnt c.1;grind [fp]
  refine ⟨c',hc',vs',ty',q1,q2,q3,fun j p hj => ?_,fun o => ?_⟩
  .obtain ⟨v,a1,a2,a3,a4⟩:=q4 j p hj;refine ⟨v,a1,a2.mono hmem,a3.kept fun b ho=>⟨rfl,hne b (hoc b ?_)⟩,a4⟩;have:=xH b hj (by rw[qK q1]; grind:(gZ w c'.1)[j]? = some v);omega
  simp_all
theorem aNE {p:PV} (h:p.lit=true):p.own=false:=by cases p<;>first | rfl | (simp[PV.lit] at h)
theorem aP6 {cs:bTA} {us:List Value} {b:Nat} (h:∀ p,p∈cs->p.own=false):dQ cs us b=0:=by
 induction cs generalizing us with
 | nil=>cases us<;>rfl
 | cons p cs ih =>
  cases us with
  | nil=>rfl
  | cons u us=>rw[dQ,dC (h p (by simp)),ih fun q hq=>h q (by simp[hq])]
theorem aP9 {p0 q:PV} {v:Value} {b:Nat} (hq:q.own=false):∀ (cs:bTA) (us:List Value) (j:Nat),cs[j]? = some p0->us[j]? = some v->dQ (cs.set j q) us b+bK p0 v b=dQ cs us b:=by
 intro cs;induction cs with
 | nil=>simp
 | cons c cs ih =>
  intro us j h1 h2;cases us with
  | nil=>simp at h2
  | cons u us =>
   cases j with
   | zero=>grind [dQ,dC]
   | succ j=>have:=ih us j (by grind) (by grind); grind [dQ]
theorem a8P {cs cs':bTA} {c:Nat×Nat×TypeId} {k b:Nat} (hk:dQ cs' (gZ w c.1) b+k=dQ cs (gZ w c.1) b):∀ (h:aG) (B:aN) (i:Nat),h[i]? = some (some cs)->B[i]? = some c->aP w (h.set i (some cs')) B b+k=aP w h B b:=by
 intro h;induction h with
 | nil=>simp
 | cons x h ih =>
  intro B i h1 h2;cases B with
  | nil=>simp at h2
  | cons d B =>
   cases i with
   | zero=>grind [aP]
   | succ i =>simp at h1 h2;have:=ih B i h1 h2;cases x<;>simp only[List.set_cons_succ,aP]<;>omega
theorem aRL {M:Mem} {w:World} {k sz:Nat} {cs:bTA} {v:Value} (hr:Rep M B (.gB true k sz cs) v) (hT:Tl M w (.gB true k sz cs) v) (hk:1<=k) :
 ∃ g cap vs ty,v = .slice (some ⟨g,0,none⟩) k cap/\k<=cap/\w.heap[g]? = some (.cells vs ty (0,0))/\cap*sz<=vs.size/\cs.length=k*sz/\0<sz/\(∀ (j:Nat) p,cs[j]? = some p->p.lit=true/\∃ u,vs[j]? = some u/\Rep KU [] p u/\u.oneCell'=true)/\∀ o,M g o=none:=by
 obtain ⟨A,cap,e1,hle⟩:=FX.1 hr;obtain ⟨⟨h1,h2⟩,h3,h4⟩:=hT.p _ _ _ _ _ _ rfl e1;cases A with
 | none=>have:=h3 rfl; omega
 | some ad =>obtain ⟨vs,ty,g1,g2,g3,g4,g5,g6⟩:=h4 ad rfl;obtain ⟨g,off,spot⟩:=ad;simp only at g1 g4 g5 g6;subst g5; subst g6;exact ⟨g,cap,vs,ty,e1,hle,g1,g2,h1,h2,g3,g4⟩
theorem aRK {M:Mem} {w:World} {k sz:Nat} {cs:bTA} {v:Value} (hr:Rep M B (.gB true k sz cs) v) (hT:Tl M w (.gB true k sz cs) v) (hk:k=0):Rep M B (.sl false sz []) v:=by obtain ⟨A,cap,e1,hle⟩:=FX.1 hr;obtain ⟨⟨h1,h2⟩,h3,h4⟩:=hT.p _ _ _ _ _ _ rfl e1;subst hk;exact jE.2 ⟨A,cap,e1,zg _,by simp,fun h=>by omega,by simp⟩
theorem bNF (hI:Inv n M B out Z t w) (k:Nat):∃ B',bz n out m0 M B Z t w M B' (Q3 k Z) t w:=by
 unfold Q3;split;case h_2=>exact ⟨B,bz.refl hI⟩
 rename_i m sz cs hk;obtain ⟨hkn,hrep,hT⟩:=hI.slots k _ hk;have hkt:k<t.size:=by rw[hI.size]; exact hkn
 split
 .rename_i hm;have hm:=MI hm;obtain ⟨g,cap,vs,ty,hv,hle,r1,r2,r3,r4,r5,r6⟩:=aRL hrep hT hm;have hBl:Z.h.length=B.length:=hI.heap.1;have hle2:dG M M B (B ++ [(g,vs.size,ty+1)]):=⟨fun _ _ _ h=>h,fun i c h=>by rw[ut (iJ.1 h).1]; exact h⟩;have hown:∀ p,p∈cs->p.own=false:=fun p hp=>by obtain ⟨j,hj⟩:=yR.1 hp;grind [aNE]
  have hfp:∀ b,fp (B ++ [(g,vs.size,ty+1)]) ⟨iI k (.slh Z.h.length 0 m sz) Z.s,Z.h ++ [some cs]⟩ t w b=fp B Z t w b:=fun b=>by have h1:=Ug (t:=t) (p := .slh Z.h.length 0 m sz) (b:=b) hkt hI.gp;rw[dC rfl,oq,hk] at h1;grind [bK,PV.own,fp,PH,aP6]
  refine ⟨B ++ [(g,vs.size,ty+1)],⟨⟨hI.size,hI.mem,Bl hI.gp,fun j p hj => ?_,⟨by simp[hBl],fun i cs' hi => ?_⟩,fun b=>by rw[hfp]; exact hI.cnt b,fun b hb=>by rw[hfp]; exact hI.new b hb⟩,fun _ _ _ h=>h,fun i c _ h=>hle2.blk i c h,Fr.refl _ _ _,fun b _=>by rw[hfp]; omega⟩⟩
  .rw[Bj j hI.gp] at hj;split at hj
   .rename_i e; subst e; injection hj with hj; subst hj
    exact ⟨hkn,by rw[hv]; exact sN.2 ⟨(g,vs.size,ty+1),cap,⟨by rw[hBl]; simp,by simp⟩,rfl,hle,by grind⟩,fA rfl⟩
   .obtain ⟨s1,s2,s3⟩:=hI.slots j p hj;exact ⟨s1,s2.mono hle2,s3⟩
  .rcases yV i Z.h.length with hlt | hge
   .simp only at hi;rw[ut hlt] at hi;obtain ⟨c,hc,vs',ty',q1,q2,q3,q4,q5⟩:=hI.heap.2 i cs' hi;exact ⟨c,hle2.blk _ _ hc,vs',ty',q1,q2,q3,fun j p hj=>by obtain ⟨v,a1,a2,a3,a4⟩:=q4 j p hj; exact ⟨v,a1,a2.mono hle2,a3,a4⟩,q5⟩
   .simp only at hi;rw[EQ hge] at hi;have:i-Z.h.length=0:=by grind
    rw[this] at hi;simp at hi; subst hi;have hi':i=B.length:=by omega
    subst hi';refine ⟨(g,vs.size,ty+1),by simp,vs,ty+1,Bg r1,⟨rfl,rfl⟩,?_,fun j p hj => ?_,r6⟩
    .rw[r3]; exact mP (uu _ hle) r2
    grind [aNC,fA]
 .rename_i hm;have hm0:m=0:=by grind [Nat.ble_eq_true_of_le]
  have hfp:∀ b,fp B ⟨iI k (.sl false sz []) Z.s,Z.h⟩ t w b<=fp B Z t w b:=fun b=>by have h1:=Ug (t:=t) (p := .sl false sz []) (b:=b) hkt hI.gp;rw[dC rfl] at h1;simp only[fp]; omega
  refine ⟨B,⟨⟨hI.size,hI.mem,Bl hI.gp,fun j p hj => ?_,hI.heap,fun b=>by have:=hfp b; have:=hI.cnt b; omega,fun b hb=>by have:=hfp b; have:=hI.new b hb; omega⟩,fun _ _ _ h=>h,fun i c _ h=>h,Fr.refl _ _ _,fun b _=>hfp b⟩⟩;rw[Bj j hI.gp] at hj;split at hj
  .rename_i e; subst e; injection hj with hj; subst hj
   exact ⟨hkn,aRK hrep hT hm0,fA rfl⟩
  .exact hI.slots j p hj
theorem bNE (hI:Inv n M B out Z t w) (k j:Nat):∃ B',bz n out m0 M B Z t w M B' (VJ k j Z) t w:=by
 unfold VJ;split;case h_2=>exact ⟨B,bz.refl hI⟩
 rename_i i hk;split;case h_2=>exact ⟨B,bz.refl hI⟩
 rename_i cs0 hi;split;case h_2=>exact ⟨B,bz.refl hI⟩
 rename_i m sz cs hj;obtain ⟨c,hc,vs0,ty0,o1,o2,o3,o4,o5⟩:=hI.heap.2 i cs0 hi;obtain ⟨v,hv0,hrep,hT,hone⟩:=o4 j _ hj;have hBl:Z.h.length=B.length:=hI.heap.1;have hil:=(iJ.1 hi).1;have hcs:∀ (q:PV) (b:Nat),q.own=false->dQ (cs0.set j q) (gZ w c.1) b+bK (.gB true m sz cs) v b=dQ cs0 (gZ w c.1) b:=fun q b hq=>by rw[qK o1]; grind [aP9]
 split
 .rename_i hm;have hm:=MI hm;obtain ⟨g,cap,vs,ty,hv,hle,r1,r2,r3,r4,r5,r6⟩:=aRL hrep hT hm;have hle2:dG M M B (B ++ [(g,vs.size,ty+1)]):=⟨fun _ _ _ h=>h,fun i c h=>by rw[ut (iJ.1 h).1]; exact h⟩;have hown:∀ p,p∈cs->p.own=false:=fun p hp=>by obtain ⟨j,hj⟩:=yR.1 hp;grind [aNE]
  have hfp:∀ b,fp (B ++ [(g,vs.size,ty+1)]) ⟨Z.s,Z.h.set i (some (cs0.set j (.slh Z.h.length 0 m sz))) ++ [some cs]⟩ t w b=fp B Z t w b:=fun b=>by have h1:=a8P (hcs (.slh Z.h.length 0 m sz) b rfl) Z.h B i hi hc;grind [bK,PV.own,fp,PH,aP6]
  refine ⟨B ++ [(g,vs.size,ty+1)],⟨⟨hI.size,hI.mem,hI.gp,fun j p hj => ?_,⟨by simp[hBl],fun i' cs' hi' => ?_⟩,fun b=>by rw[hfp]; exact hI.cnt b,fun b hb=>by rw[hfp]; exact hI.new b hb⟩,fun _ _ _ h=>h,fun i c _ h=>hle2.blk i c h,Fr.refl _ _ _,fun b _=>by rw[hfp]; omega⟩⟩
  .obtain ⟨s1,s2,s3⟩:=hI.slots j p hj;exact ⟨s1,s2.mono hle2,s3⟩
  .simp only at hi';rcases yV i' Z.h.length with hlt | hge
   .rw[ut (by rw[J9]; exact hlt)] at hi';by_cases hii:i'=i
    .subst hii;rw[zf hil] at hi';injection hi' with hi'; injection hi' with hi'; subst hi'
     refine ⟨c,hle2.blk _ _ hc,vs0,ty0,o1,o2,by rw[J9]; exact o3,fun j' p hj' => ?_,o5⟩;by_cases hjj:j=j'
     .subst hjj;rw[zf (iJ.1 hj).1] at hj';injection hj' with hj'; subst hj'
      exact ⟨v,hv0,by rw[hv]; exact sN.2 ⟨(g,vs.size,ty+1),cap,⟨by rw[hBl]; simp,by simp⟩,rfl,hle,by grind⟩,fA rfl,hone⟩
     .rw[qF hjj] at hj';obtain ⟨u,a1,a2,a3,a4⟩:=o4 j' p hj';exact ⟨u,a1,a2.mono hle2,a3,a4⟩
    .rw[qF (Ne.symm hii)] at hi';obtain ⟨c,hc,vs',ty',q1,q2,q3,q4,q5⟩:=hI.heap.2 i' cs' hi';exact ⟨c,hle2.blk _ _ hc,vs',ty',q1,q2,q3,fun j p hj=>by obtain ⟨v,a1,a2,a3,a4⟩:=q4 j p hj; exact ⟨v,a1,a2.mono hle2,a3,a4⟩,q5⟩
   .rw[EQ (by rw[J9]; exact hge),J9] at hi';have:i'-Z.h.length=0:=by grind
    rw[this] at hi';simp at hi'; subst hi';have hi2:i'=B.length:=by omega
    subst hi2;refine ⟨(g,vs.size,ty+1),by simp,vs,ty+1,Bg r1,⟨rfl,rfl⟩,?_,fun j p hj => ?_,r6⟩
    .rw[r3]; exact mP (uu _ hle) r2
    grind [aNC,fA]
 .rename_i hm;have hm0:m=0:=by grind [Nat.ble_eq_true_of_le]
  have hfp:∀ b,fp B ⟨Z.s,Z.h.set i (some (cs0.set j (.sl false sz [])))⟩ t w b<=fp B Z t w b:=fun b=>by have h1:=a8P (hcs (.sl false sz []) b rfl) Z.h B i hi hc;simp only[fp]; omega
  refine ⟨B,⟨⟨hI.size,hI.mem,hI.gp,hI.slots,⟨by simp[hBl],fun i' cs' hi' => ?_⟩,fun b=>by have:=hfp b; have:=hI.cnt b; omega,fun b hb=>by have:=hfp b; have:=hI.new b hb; omega⟩,fun _ _ _ h=>h,fun i c _ h=>h,Fr.refl _ _ _,fun b _=>hfp b⟩⟩;simp only at hi';by_cases hii:i'=i
  .subst hii;rw[zf hil] at hi';injection hi' with hi'; injection hi' with hi'; subst hi'
   refine ⟨c,hc,vs0,ty0,o1,o2,by rw[J9]; exact o3,fun j' p hj' => ?_,o5⟩;by_cases hjj:j=j'
   .subst hjj;rw[zf (iJ.1 hj).1] at hj';injection hj' with hj'; subst hj'
    exact ⟨v,hv0,aRK hrep hT hm0,fA rfl,hone⟩
   simp_all
  .rw[qF (Ne.symm hii)] at hi';exact hI.heap.2 i' cs' hi'
theorem aZ' (hI:Inv n M B out Z t w) (k j:Nat):∃ M',bz n out m0 M B Z t w M' B (Y5 k j Z) t w:=by
 unfold Y5;split;case h_2=>exact ⟨M,bz.refl hI⟩
 rename_i i2 hk;split;case h_2=>exact ⟨M,bz.refl hI⟩
 rename_i cs0 hi2;split;case h_2=>exact ⟨M,bz.refl hI⟩
 rename_i i m sz hj;split;case h_2=>exact ⟨M,bz.refl hI⟩
 rename_i cs hi;split;case h_2=>exact ⟨M,bz.refl hI⟩
 rename_i hb;simp only[bF,iY,lw,xW] at hb;obtain ⟨⟨⟨hb1,hb0⟩,hb2⟩,hbn⟩:=hb;have hii2:i≠i2:=fun e=>by simp_all
 obtain ⟨c2,hc2,vs2,ty2,p1,p2,p3,p4,p5⟩:=hI.heap.2 i2 cs0 hi2;obtain ⟨v,hv0,hrep,_,hone⟩:=p4 j _ hj;obtain ⟨c,cap,⟨hc,hcm⟩,hv,hle,hcap⟩:=sN.1 hrep;obtain ⟨vs,ty,r1,o2,o3,o4,o5⟩:=hI.heap.at hi hc;obtain ⟨ty,rfl,o1⟩:=EE r1 (by rw[o2.2]; exact hcm);have hown:1<=aP w Z.h B c.1:=by have:=kR (w:=w) c.1 hi hc;grind
 obtain ⟨M',hM'⟩:∃ M':Mem,∀ b o,M' b o=if b=c.1 then (if o<m*sz then vs[o]? else none) else M b o:=⟨yE _ _,BO (TM o5)⟩
 have hmem:dG M M' B B:=⟨fun b o v h=>by
  have:b≠c.1:=fun e=>by simp_all
  rw[hM']; simp_all,fun _ _ h=>h⟩
 have hne:∀ b,b≠c.1->∀ o,M' b o=M b o:=fun b h o=>by rw[hM']; simp_all
 have hcell:∀ o,w.cell? ⟨c.1,o,none⟩=vs[o]? := fun o=>by simp[World.cell?,o1]
 obtain ⟨k1,k2,k3⟩:=XY hb0 hb1 fun p hp=>(hb2 p hp).1
 have hH:=fun b=>Dw (w:=w) (b:=b) hi hc
 have bD0:(Z.h.set i none)[i2]? = some (some cs0):=by rw[qF hii2]; exact hi2
 have hcs:∀ b,dQ (cs0.set j (.sl false sz (lF sz cs m))) (gZ w c2.1) b+bK (.slh i 0 m sz) v b=dQ cs0 (gZ w c2.1) b:=fun b=>by rw[qK p1]; exact aP9 rfl cs0 vs2.toList j hj (by simp_all)
 have hfp:∀ b,fp B ⟨Z.s,(Z.h.set i none).set i2 (some (cs0.set j (.sl false sz (lF sz cs m))))⟩ t w b<=fp B Z t w b:=fun b=>by have h1:=a8P (hcs b) (Z.h.set i none) B i2 bD0 hc2;have h2:=hH b;simp only[fp]; omega
 have hfc:∀ b,1<=iP Z.s t b->b≠c.1:=fun b h e=>by subst e;have:=hI.cnt c.1;grind [fp]
 have hother:∀ {i':Nat} {cs':bTA} {c':Nat×Nat×TypeId} {b:Nat},i'≠i->Z.h[i']? = some (some cs')->B[i']? = some c'->1<=(if c'.1=b then 1 else 0)+dQ cs' (gZ w c'.1) b->b≠c.1:=fun {i' cs' c' b} hii hi' hc' h e=>by subst e;have h2:=Dw (w:=w) (b:=c.1) hi hc;have h3:=kR (w:=w) (h:=Z.h.set i none) c.1 (by rw[qF (Ne.symm hii)]; exact hi') hc';have:=hI.cnt c.1;grind [fp]
 refine ⟨M',⟨⟨hI.size,fun b o v h => ?_,hI.gp,fun j p hj => ?_,⟨by simp[hI.heap.1],fun i' cs' hi' => ?_⟩,fun b=>by have:=hfp b; have:=hI.cnt b; omega,fun b hb=>by have:=hfp b; have:=hI.new b hb; omega⟩,hmem.mem,fun _ _ _ h=>h,⟨rfl,rfl,rfl,cu _,fun b hb h0=>⟨rfl,hne b (fun e=>by grind [fp])⟩⟩,fun b _=>hfp b⟩⟩
 .by_cases e:b=c.1
  .subst e;rw[hM'] at h;simp only[yY] at h;split at h
   .rename_i ho;rw[hcell];refine ⟨h,?_⟩;obtain ⟨q,hq⟩:∃ q,cs[o]? = some q:=⟨_,jF (by omega)⟩;grind
   .cases h
  .rw[hne b e] at h; exact hI.mem b o v h
 .obtain ⟨s1,s2,s3⟩:=hI.slots j p hj;refine ⟨s1,s2.mono hmem,s3.kept fun b ho=>⟨rfl,hne b (hfc b ?_)⟩⟩;have:=Dx (s:=Z.s) (t:=t) (k:=j) (b:=b);grind [oq]
 .by_cases hi22:i'=i2
  .subst hi22;simp only at hi';rw[zf (by rw[J9]; grind)] at hi';injection hi' with hi'; injection hi' with hi'; subst hi'
   refine ⟨c2,hc2,vs2,ty2,p1,p2,by rw[J9]; exact p3,fun j' p hj' => ?_,fun o => ?_⟩
   .by_cases hjj:j=j'
    .subst hjj;rw[zf (iJ.1 hj).1] at hj';injection hj' with hj'; subst hj'
     refine ⟨v,hv0,?_,fA rfl,hone⟩;rw[hv];refine jE.2 ⟨some ⟨c.1,0,none⟩,cap,by rw[k1],by rw[k1]; exact hle,k2,(fun h=>by omega),fun _=>⟨c.1,0,rfl,k3 M' c.1 fun j q hq hlt => ?_⟩⟩;obtain ⟨v,hv',hr,_,_⟩:=o4 j q hq;have hq':=hb2 q (nK hq);refine (BJ hq'.1).2 ⟨v,?_,Rep.flat [] hq'.2 (hr.mono hmem)⟩;rw[hM']; simp_all
    .rw[qF hjj] at hj';obtain ⟨u,a1,a2,a3,a4⟩:=p4 j' p hj';refine ⟨u,a1,a2.mono hmem,a3.kept fun b ho=>⟨rfl,hne b (hother (Ne.symm hii2) hi2 hc2 ?_)⟩,a4⟩;have:=xH b hj' (by rw[qK p1]; grind:(gZ w c2.1)[j']? = some u);omega
   grind
  .have hii:i'≠i:=fun e=>by grind
   simp only at hi';rw[qF (Ne.symm hi22),qF (Ne.symm hii)] at hi';obtain ⟨c',hc',vs',ty',q1,q2,q3,q4,q5⟩:=hI.heap.2 i' cs' hi';refine ⟨c',hc',vs',ty',q1,q2,q3,fun j p hj => ?_,fun o => ?_⟩
   .obtain ⟨v,a1,a2,a3,a4⟩:=q4 j p hj;refine ⟨v,a1,a2.mono hmem,a3.kept fun b ho=>⟨rfl,hne b (hother hii hi' hc' ?_)⟩,a4⟩;have:=xH b hj (by rw[qK q1]; grind:(gZ w c'.1)[j]? = some v);omega
   grind
theorem a'1 (hI:Inv n M B out Z t w) (k:Nat):∃ M' B',bz n out m0 M B Z t w M' B' (ww k Z) t w:=by
 unfold ww;split
 .obtain ⟨M',h⟩:=a'0 (m0:=m0) hI (k-9000000);grind
 split
 .obtain ⟨M',h⟩:=aZ' (m0:=m0) hI ((k-5000000) / 100) ((k-5000000) % 100);grind
 split
 .obtain ⟨B',h⟩:=bNE (m0:=m0) hI ((k-4000000) / 100) ((k-4000000) % 100);grind
 split
 .obtain ⟨B',h⟩:=bNF (m0:=m0) hI ((k-3000000) % 500000);grind
 split
 .obtain ⟨M',h⟩:=a'2 (m0:=m0) hI (k-1000000);grind
 .obtain ⟨M',h⟩:=aZZ (m0:=m0) hI k;grind
theorem Y6:∀ (ks:List Nat) {M:Mem} {B:aN} {Z:ASt},Inv n M B out Z t w->∃ M' B',bz n out m0 M B Z t w M' B' (xy ks Z) t w
 | [],M,B,_,hI=>⟨M,B,bz.refl hI⟩
 | k::ks,M,B,Z,hI=>by obtain ⟨M1,B1,h1⟩:=a'1 (m0:=m0) hI k;obtain ⟨M2,B2,h2⟩:=Y6 ks h1.inv;exact ⟨M2,B2,h1.trans h2⟩
theorem Ez (hI:Inv n M B out Z t w) {l:List Nat} {m:Nat} (hm:m0<=m) (hg:DR l m Z=true):bz n out m0 M B Z t w M (B.take m) (Z.gc l m) t w:=by
 unfold DR at hg;simp only[bF,iY] at hg;obtain ⟨g1,g2⟩:=hg;have hle:∀ b,fp (B.take m) (Z.gc l m) t w b<=fp B Z t w b:=fun b=>by have h1:=a8S (t:=t) (fun kp=>l.contains kp.1) b Z.s;have h2:=a8Q (w:=w) m b Z.h B;grind [fp,ASt.gc]
 refine ⟨⟨hI.size,hI.mem,List.Pairwise.sublist List.filter_sublist hI.gp,fun k p hp => ?_,⟨by simp[ASt.gc,hI.heap.1],fun i cs hi => ?_⟩,fun b=>by have:=hle b; have:=hI.cnt b; omega,fun b hb=>by have:=hle b; have:=hI.new b hb; omega⟩,fun _ _ _ h=>h,fun i c hi hc=>by rw[lM,aS (by omega)]; exact hc,Fr.refl _ _ _,fun b _=>hle b⟩
 .obtain ⟨s1,s2,s3⟩:=hI.slots k p (a0N (fun k=>l.contains k) hp);exact ⟨s1,s2.blw (g1 _ (a0O hp)),s3⟩
 .have hi0:=hi;simp only[ASt.gc] at hi;rw[lM] at hi;split at hi
  .rename_i hlt;obtain ⟨c,hc,vs,ty,o1,o2,o3,o4,o5⟩:=hI.heap.2 i cs hi;refine ⟨c,by rw[lM,aS hlt]; exact hc,vs,ty,o1,o2,o3,fun j p hj => ?_,o5⟩;obtain ⟨v,a1,a2,a3,a4⟩:=o4 j p hj;refine ⟨v,a1,a2.blw ?_,a3,a4⟩;have:=iY.1 g2 _ (nK hi0);exact XI.1 this p (nK hj)
  .cases hi
theorem bKX (sz:List (Nat×List Nat)) {s:fD} (h:jI s):jI (ui sz s):=by
 induction s with
 | nil=>exact h
 | cons a l ih =>
  obtain ⟨k,p⟩:=a;obtain ⟨h1,h2⟩:=Bq.1 h;have hm:∀ (l:fD) (b:Nat×PV),b∈ui sz l->∃ c,c∈l/\c.1=b.1:=by
   intro l;induction l with
   | nil=>grind [ui]
   | cons a l ih =>grind [ui]
  rw[ui];refine Bq.2 ⟨fun b hb => ?_,ih h2⟩;grind
theorem aR4 {sz:List (Nat×List Nat)} {k:Nat} {p:PV}:∀ {s:fD},bT k (ui sz s)=some p->∃ q,bT k s=some q/\(p=q\/∃ z,p=q.zX z)
 | [],h=>by simp[ui,bT] at h
 | (j,q)::l,h=>by
  rw[ui] at h;by_cases e:j=k
  .refine ⟨q,by rw[bT,aS e],?_⟩;split at h<;>(rw[bT,aS e] at h; injection h with h)
   .exact .inr ⟨_,h.symm⟩
   .exact .inl h.symm
  .have h':bT k (ui sz l)=some p:=by split at h<;>(rw[bT,aQ e] at h; exact h)
   obtain ⟨r,h1,h2⟩:=aR4 h';exact ⟨r,by rw[bT,aQ e]; exact h1,h2⟩
theorem aPB {sz:List (Nat×List Nat)} {t:Array Value} {b:Nat}:∀ {s:fD},iP (ui sz s) t b=iP s t b
 | []=>rfl
 | (j,q)::l=>by rw[ui];split<;>simp only[iP,aPC,aPB]
theorem bKY (hI:Inv n M B out Z t w) (sz:List (Nat×List Nat)):Good n out M B Z t w M B { Z with s:=ui sz Z.s } t w:=by
 have hle:∀ b,fp B { Z with s:=ui sz Z.s } t w b=fp B Z t w b:=fun b=>by simp only[fp,aPB]
 refine ⟨⟨hI.size,hI.mem,bKX _ hI.gp,fun k p hp => ?_,hI.heap,fun b=>by have:=hle b; have:=hI.cnt b; omega,fun b hb=>by have:=hle b; have:=hI.new b hb; omega⟩,dG.refl _ _,Fr.refl _ _ _,fun b _=>by rw[hle b]; omega⟩;obtain ⟨q,h1,h2⟩:=aR4 hp;obtain ⟨g1,g2,g3⟩:=hI.slots k q h1;grind [Uy,aSM]
theorem aP3:∀ {zs:List Nat} {cs:bTA} {j:Nat} {p:PV},(yG zs cs)[j]? = some p->∃ q,cs[j]? = some q/\(p=q\/∃ z,p=q.IM z)
 | [],cs,j,p,h=>by cases cs<;>exact ⟨p,h,.inl rfl⟩
 | z::zs,[],j,p,h=>by simp[yG] at h
 | z::zs,c::cs,0,p,h=>by grind [yG]
 | z::zs,c::cs,j+1,p,h=>by rw[yG,aC8] at h; simpa using aP3 h
theorem aP4:∀ (zs:List Nat) (cs:bTA),(yG zs cs).length=cs.length
 | [],cs=>by cases cs<;>rfl
 | _::_,[]=>rfl
 | z::zs,c::cs=>by simp[yG,aP4 zs cs]
theorem aP7:∀ {zs:List Nat} {cs:bTA} {vs:List Value} {b:Nat},(∀ (j:Nat) p v,cs[j]? = some p->vs[j]? = some v->Rep M B p v)->dQ (yG zs cs) vs b=dQ cs vs b
 | [],cs,vs,b,_=>by cases cs<;>rfl
 | _::_,[],vs,b,_=>rfl
 | z::zs,c::cs,[],b,_=>by rfl
 | z::zs,c::cs,v::vs,b,h=>by rw[yG,dQ,dQ,bHS (M:=M) (B:=B) z (h 0 c v rfl rfl),aP7 fun j p u hp hu=>h (j+1) p u (by grind) (by grind)]
theorem bHE (hI:Inv n M B out Z t w) {i:Nat} {cs:bTA} (hi:Z.h[i]? = some (some cs)) (zs:List Nat):Good n out M B Z t w M B { Z with h:=Z.h.set i (some (yG zs cs)) } t w:=by
 obtain ⟨c,hc,vs,ty,o1,o2,o3,o4,o5⟩:=hI.heap.2 i cs hi;have hrep:∀ (j:Nat) p v,cs[j]? = some p->vs.toList[j]? = some v->Rep M B p v:=fun j p v hp hv=>by grind
 have hown:∀ b,aP w (Z.h.set i (some (yG zs cs))) B b=aP w Z.h B b:=fun b=>by
  have key:∀ (h:aG) (B':aN) (i:Nat),h[i]? = some (some cs)->B'[i]? = some c->aP w (h.set i (some (yG zs cs))) B' b=aP w h B' b:=by
   intro h;induction h with
   | nil=>simp
   | cons x h ih =>
    intro B' i h1 h2;cases B' with
    | nil=>simp at h2
    | cons d B' =>
     cases i with
     | zero =>simp at h1 h2; subst h1; subst h2;simp only[List.set_cons_zero,aP];rw[qK o1,aP7 hrep]
     | succ i =>
      simp at h1 h2;cases x with
      | none=>grind [aP]
      | some ds=>grind [aP]
  simp_all
 have hfp:∀ b,fp B { Z with h:=Z.h.set i (some (yG zs cs)) } t w b=fp B Z t w b:=fun b=>by simp only[fp,hown]
 refine ⟨⟨hI.size,hI.mem,hI.gp,hI.slots,⟨by simp[hI.heap.1],fun i' cs' hi' => ?_⟩,fun b=>by rw[hfp]; exact hI.cnt b,fun b hb=>by rw[hfp]; exact hI.new b hb⟩,dG.refl _ _,Fr.refl _ _ _,fun b _=>by rw[hfp]; omega⟩;by_cases hii:i'=i
 .subst hii;rw[zf (iJ.1 hi).1] at hi';injection hi' with hi'; injection hi' with hi'; subst hi'
  refine ⟨c,hc,vs,ty,o1,o2,by rw[aP4]; exact o3,fun j p hp => ?_,o5⟩;grind [aP3,bKQ,bNG]
 .rw[qF (Ne.symm hii)] at hi';exact hI.heap.2 i' cs' hi'
theorem aP5 (s:fD):∀ (l:List (Nat×List Nat)) {Z:ASt},Inv n M B out Z t w->Good n out M B Z t w M B { Z with h:=a8N s l Z.h } t w
 | [],Z,hI=>Good.refl hI
 | (k,zs)::l,Z,hI=>by
  have h1:Good n out M B Z t w M B { Z with h:=match bT k s with | some p=>a8R zs p Z.h | none=>Z.h } t w:=by
   split
   .rename_i p hp;unfold a8R;split
    .rename_i i;split;grind [bHE]
     .exact Good.refl hI
    .exact Good.refl hI
   .exact Good.refl hI
  exact h1.trans (aP5 s l h1.inv)
theorem ZB {E:AE} (hI:Inv n M B out Z t w):Good n out M B Z t w M B (Z.head E) t w:=by have hk:=bF4 hI E.vars;have h2:=bKY hk.inv E.sz;exact (hk.trans h2).trans (aP5 (ui E.sz (Z.keep E.vars).s) E.pt h2.inv)
def lift (E:AE) (out:Nat->Nat) (m0:Nat) (M:Mem) (B:aN) (Z:ASt) (t:Array Value) (w:World) (ds:List Deferred) (Q:AX->ASt->Prop) (e:Exit) (a':Act) (w':World):Prop :=∃ ax Z' M' B',e=ax.toExit/\Q ax Z'/\a'.defers=ds/\bz E.n out m0 M B Z t w M' B' Z' a'.tmps w'
theorem Zo {ds:List Deferred} {Q:AX->ASt->Prop} (h:bz E.n out m0 M B Z t w M1 B1 Z1 t1 w1) {e:Exit} {a':Act} {w':World} (k:lift E out m0 M1 B1 Z1 t1 w1 ds Q e a' w'):lift E out m0 M B Z t w ds Q e a' w':=by obtain ⟨ax,Z',M',B',h1,h2,h3,h4⟩:=k;exact ⟨ax,Z',M',B',h1,h2,h3,h.trans h4⟩
theorem wV (hm:E.P.follows .mixedOrders=true):∀ (c:Code) {M:Mem} {B:aN} {Z:ASt} {a:Act} {w:World} {Q:AX->ASt->Prop},Inv E.n M B out Z a.tmps w->dD E m0 c Q Z->c.wp E.P (lift E out m0 M B Z a.tmps w a.defers Q) a w
 | .skip,M,B,Z,a,w,Q,hI,h=>wp_skip ⟨.normal,Z,M,B,rfl,h,rfl,bz.refl hI⟩
 | .label l,M,B,Z,a,w,Q,hI,h=>wp_label ⟨.normal,Z,M,B,rfl,h,rfl,bz.refl hI⟩
 | .exit id,M,B,Z,a,w,Q,hI,h=>wp_exit ⟨.exit id,Z,M,B,rfl,h,rfl,bz.refl hI⟩
 | .ret,M,B,Z,a,w,Q,hI,h=>wp_ret ⟨.ret,Z,M,B,rfl,h,rfl,bz.refl hI⟩
 | .region id ops draw,M,B,Z,a,w,Q,hI,h=>by
  have hk:=ZB (E:=E) hI;rw[dD] at h;cases draw with
  | false =>simp only[GM,GY] at h;exact wp_region_list (RH _ hk.inv h fun Z' M' B' a' w' hq hG hd=>⟨.normal,Z',M',B',rfl,hq,hd,(hk.trans hG).c⟩)
  | true =>simp only[yY] at h;exact aVC hm hk.inv h fun Z' M' B' a' w' hq hG hd=>⟨.normal,Z',M',B',rfl,hq,hd,(hk.trans hG).c⟩
 | .seq x y,M,B,Z,a,w,Q,hI,h=>by
  rw[dD] at h;refine wp_seq (uy (wV hm x hI h) fun e a' w' hl => ?_);obtain ⟨ax,Z',M',B',rfl,hq,hd,hG⟩:=hl;cases ax with
  | normal =>
   obtain ⟨ks,hq⟩:=hq;obtain ⟨M2,B2,hz⟩:=Y6 (m0:=m0) ks hG.inv;have hG:=hG.trans hz;rcases hq with hq | ⟨l,m,hm0,hg,hq⟩
   .exact uy (wV hm y hG.inv hq) fun e a2 w2 hl2=>by rw[hd] at hl2; exact Zo hG hl2
   .have hgc:=hG.trans (Ez hG.inv hm0 hg);exact uy (wV hm y hgc.inv hq) fun e a2 w2 hl2=>by rw[hd] at hl2; exact Zo hgc hl2
  | ret=>exact ⟨.ret,Z',M',B',rfl,hq,hd,hG⟩
  | exit i=>exact ⟨.exit i,Z',M',B',rfl,hq,hd,hG⟩
 | .cond c x y,M,B,Z,a,w,Q,hI,h=>by
  rw[dD] at h;split at h
  .rename_i b hb;have he:=jo.1 (hI.rd _ _ hb).1;refine wp_cond_split he (fun hb=>wV hm x hI (h.1 hb)) (fun hb=>wV hm y hI (h.2 hb))
  simp_all
 | .block id x,M,B,Z,a,w,Q,hI,h=>by
  rw[dD] at h;refine wp_block (uy (wV hm x hI h) fun e a' w' hl => ?_);obtain ⟨ax,Z',M',B',rfl,hq,hd,hG⟩:=hl;cases ax with
  | normal=>exact ⟨.normal,Z',M',B',rfl,hq,hd,hG⟩
  | ret=>exact ⟨.ret,Z',M',B',rfl,hq,hd,hG⟩
  | exit i =>
   simp only[AX.toExit,Exit.inBlock];simp only[NV] at hq;split
   .rename_i e; rw[aS e] at hq; exact ⟨.normal,Z',M',B',rfl,hq,hd,hG⟩
   .rename_i e; rw[aQ e] at hq; exact ⟨.exit i,Z',M',B',rfl,hq,hd,hG⟩
 | .scope x,M,B,Z,a,w,Q,hI,h=>by rw[dD] at h;refine wp_scope_straight (uy (wV hm x hI h) fun e a' w' hl => ?_);obtain ⟨ax,Z',M',B',rfl,hq,hd,hG⟩:=hl;cases ax<;>exact ⟨_,Z',M',B',rfl,hq,hd,hG⟩
 | .loop x,M,B,Z,a,w,Q,hI,h=>by
  rw[dD] at h;obtain ⟨k,hk⟩:=h;refine wp_loop_rounds k ?_;have key:∀ (k:Nat) (M1:Mem) (B1:aN) (Z1:ASt) (a1:Act) (w1:World),bz E.n out m0 M B Z a.tmps w M1 B1 Z1 a1.tmps w1->a1.defers=a.defers->LH m0 (dD E m0 x) Q k Z1->Code.rounds E.P x (lift E out m0 M B Z a.tmps w a.defers Q) k a1 w1:=by
   intro k;induction k with
   | zero=>intro M1 B1 Z1 a1 w1 _ _ h; exact h.elim
   | succ k ih =>
    intro M1 B1 Z1 a1 w1 hG hd h;obtain ⟨l,m,hm0,hg,hb⟩:=h;have hgc:=Ez hG.inv hm0 hg;rw[rounds_succ];refine uy (wV hm x hgc.inv hb) fun e a' w' hl => ?_
    obtain ⟨ax,Z',M',B',rfl,hq,hd',hG'⟩:=hl;have hG2:=(hG.trans hgc).trans hG';cases ax with
    | normal=>exact ih M' B' Z' a' w' hG2 (by rw[hd',hd]) hq
    | ret=>exact ⟨.ret,Z',M',B',rfl,hq,by rw[hd',hd],hG2⟩
    | exit i=>exact ⟨.exit i,Z',M',B',rfl,hq,by rw[hd',hd],hG2⟩
  exact key k M B Z a w (bz.refl hI) rfl hk
 | .rangeFunc f ps az b,_,_,_,_,_,_,_,h=>by rw[dD] at h; exact h.elim
 | .goto l,_,_,_,_,_,_,_,h=>by rw[dD] at h; exact h.elim
 | .refuse l,_,_,_,_,_,_,_,h=>by rw[dD] at h; exact h.elim
end
def lh:Nat->bTA->fD
 | _,[] => []
 | k,p::ps=>(k,p.un)::lh (k+1) ps
def resV (P:Program) (Z:ASt):ResultVar->Option PV
 | .tmp t=>bT t Z.s
 | .cell t ty=>match ti P ty,bT t Z.s with
  | some I,some q=>(o9 false I q Z).map (·.1)
  | _,_=>none
def LD (P:Program) (rs:List ResultVar) (m0:Nat) (r:PV) (h':aG) (Z:ASt):Prop :=
 m0<=h'.length/\Z.h.take h'.length=h'/\r.blw h'.length=true/\zl h'.length h'=true /\
  match rs with
  | [x]=>resV P Z x=some r
  | rs=>(jc (rs.map (resV P Z))).map (fun ps=>PV.tuple (ps.map PV.un))=some r
section
variable {n:Nat} {out:Nat->Nat} {m0:Nat} {M:Mem} {B:aN} {Z:ASt} {a:Act} {w:World} {P:Program}
def a0I (tmps:Array Value):ResultVar->Sem Value
 | .tmp t=>pure (tmps.getD t undef)
 | .cell a t=>do loadVar t (<- asAddr (tmps.getD a undef))
theorem bKZ (fn:Func) (tmps:Array Value):results fn tmps=(do let vs<-fn.results.mapM (a0I tmps); pure (if h:vs.size=1 then vs[0] else .tuple vs)):=by rfl
theorem aQ8 (hI:Inv n M B out Z a.tmps w) {x:ResultVar} {p:PV} (h:resV P Z x=some p) :
 ∃ v,(a0I a.tmps x).run P w = .ok v w/\Rep M B p v/\Tl M w p v/\∀ b,bK p v b<=iP Z.s a.tmps b:=by
 cases x with
 | tmp t =>obtain ⟨h1,h2,h3⟩:=hI.slots t p h;refine ⟨_,rfl,h2,h3,fun b => ?_⟩;have:=Dx (s:=Z.s) (t:=a.tmps) (k:=t) (b:=b);have h':bT t Z.s=some p:=h;grind [oq]
 | cell c t =>
  simp only[resV] at h;split at h
  .rename_i I q hI' hq;cases hl:o9 false I q Z with
   | none=>grind
   | some pZ =>
    obtain ⟨p',Z1⟩:=pZ;simp[hl] at h; subst h;have hrd:Z.rd (.tmp c)=some q.un:=by simp[ASt.rd,ASt.ev,hq]
    have hl':o9 false I q.un Z=some (p',Z1):=by
     have:o9 false I q.un Z=o9 false I q Z:=by cases q<;>rfl
     rw[this,hl]
    obtain ⟨v,h1,h2⟩:=a7U hI hI' hrd hl';have bD2:p'.own=false:=by
     unfold o9 at hl;split at hl
     grind [qE]
     .split at hl
      .split at hl
       .split at hl
        .cases hl; rfl
        .cases hl
       grind [qE]
      .cases hl
     .cases hl
    refine ⟨v,?_,h2.rep,h2.tl,fun b=>by rw[dC bD2]; omega⟩;show (do loadVar t (<- asAddr (a.tmps.getD c undef)):Sem Value).run P w=_;have he:a.eval (.tmp c)=a.tmps.getD c undef:=rfl;rw[he] at h1;have hr:=(hI.rd _ _ hrd).1;rw[he] at hr;have bQX:∃ ad,a.tmps.getD c undef = .pointer (some ad):=by
     unfold o9 at hl';split at hl'
     .rename_i e hq'; rw[hq'] at hr; obtain ⟨b,off,e1,_⟩:=AP.1 hr; simp_all
     .rename_i i off hq'; rw[hq'] at hr; obtain ⟨cc,_,e1⟩:=vZ.1 hr; simp_all
     .cases hl'
    grind [Instr.loadAt,Instr.sureAddr,asAddr]
  .cases h
theorem aQA (hI:Inv n M B out Z a.tmps w):∀ {rs:List ResultVar} {ps:bTA},jc (rs.map (resV P Z))=some ps ->
 ∃ vs,(rs.mapM (a0I a.tmps)).run P w = .ok vs w/\aj M B ps vs
 | [],ps,h=>by simp[jc] at h; subst h; exact ⟨[],by simp,dJ.2 rfl⟩
 | x::rs,ps,h=>by
  have h':=Wy h;cases ps with
  | nil=>simp at h'
  | cons p ps =>
   simp only[oN,List.cons.injEq] at h';obtain ⟨v,h1,h2,_,_⟩:=aQ8 hI h'.1;have hall:∀ ps:bTA,jc (ps.map some)=some ps:=by
    intro ps; induction ps with
    | nil=>rfl
    | cons a l ih=>simp[jc,ih]
   obtain ⟨vs,h3,h4⟩:=aQA hI (rs:=rs) (ps:=ps) (by rw[h'.2]; exact hall ps);refine ⟨v::vs,?_,bg.2 ⟨v,vs,rfl,h2,h4⟩⟩;rw[List.mapM_cons,lu,h1,rJ,lu,h3]; rfl
theorem aQE (hI:Inv n M B out Z a.tmps w) {fn:Func} {m0:Nat} {r:PV} {h':aG} (hr:LD P fn.results.toList m0 r h' Z) :
 ∃ v,(results fn a.tmps).run P w = .ok v w/\Rep M B r v/\Tl M w r v/\∀ b,bK r v b<=iP Z.s a.tmps b:=by
 obtain ⟨_,_,_,_,hres⟩:=hr;have hst:∀ vs:List Value,(fn.results.toList.mapM (a0I a.tmps)).run P w = .ok vs w->(results fn a.tmps).run P w = .ok (if h:vs.toArray.size=1 then vs.toArray[0] else .tuple vs.toArray) w:=fun vs h=>by rw[bKZ,Array.mapM_eq_mapM_toList,lu,Sem.run_map,h]; rfl
 split at hres
 .rename_i x hx;obtain ⟨v,h1,h2,h3,h4⟩:=aQ8 hI hres;simp_all
 .rename_i hx;obtain ⟨ps,hps,rfl⟩:=JD.1 hres;obtain ⟨vs,h1,h2⟩:=aQA hI hps;have hne:vs.length≠1:=by
   have e1:=nG h2;have e2:=congrArg List.length (Wy hps);simp only[aX] at e2;intro h;generalize fn.results.toList=L at *;match L with
   | []=>simp_all
   | [x]=>grind
   | x::y::l=>simp_all
  refine ⟨.tuple vs.toArray,?_,sQ.2 ⟨_,rfl,by simpa using Ii h2⟩,fA rfl,fun b=>by rw[dC rfl]; omega⟩;rw[hst vs h1,dif_neg (by omega)]
theorem aB0:∀ {args:bTA} {k j:Nat} {p:PV},bT j (lh k args)=some p->∃ i q,j=k+i/\args[i]? = some q/\p=q.un
 | [],_,_,_,h=>by simp[lh,bT] at h
 | q::qs,k,j,p,h=>by
  rw[lh,bT] at h;split at h
  simp_all
  .obtain ⟨i,q',h1,h2,h3⟩:=aB0 h;exact ⟨i+1,q',by omega,by grind,h3⟩
theorem aB1:∀ {args:bTA} {k:Nat},jI (lh k args)/\∀ x,x∈lh k args->k<=x.1
 | [],k=>⟨by simp[lh,jI],by simp[lh]⟩
 | q::qs,k=>by
  obtain ⟨h1,h2⟩:=aB1 (args:=qs) (k:=k+1);rw[lh];refine ⟨Bq.2 ⟨fun x hx=>by have:=h2 x hx; show k<x.1; omega,h1⟩,fun x hx => ?_⟩;rcases jV.1 hx with rfl | hx
  .exact cu _
  .have:=h2 x hx; omega
theorem VA {t:Array Value} {b:Nat}:∀ {args:bTA} {k:Nat},iP (lh k args) t b=0
 | [],_=>rfl
 | q::qs,k=>by rw[lh,iP,PM,VA]
def fin1 (p:PV) (z:List Nat×Bool):PV:=match z.2 with | true=>p.zX z.1 | false=>(p.zX z.1).un
def a4A:List (List Nat×Bool)->bTA->bTA
 | z::zs,p::ps=>fin1 p z::a4A zs ps
 | _,ps=>ps
def wu (ro:List (List Nat×Bool)) (r:PV):PV:=match ro,r with
 | [],r=>r
 | _,.tuple ps => .tuple (a4A ro ps)
 | z::_,r=>fin1 r z
theorem aFW {p:PV} {z:List Nat×Bool} {v:Value} (h:Rep M B p v):Rep M B (fin1 p z) v:=by
 unfold fin1; split
 .exact Uy _ h
 .exact oL.2 (Uy _ h)
theorem aFX:∀ {zs:List (List Nat×Bool)} {ps:bTA} {vs:List Value},aj M B ps vs->aj M B (a4A zs ps) vs
 | [],ps,vs,h=>by cases ps<;>exact h
 | z::zs,[],vs,h=>h
 | z::zs,p::ps,vs,h=>by obtain ⟨u,us,rfl,h1,h2⟩:=bg.1 h;exact bg.2 ⟨u,us,rfl,aFW h1,aFX h2⟩
theorem aFZ {ro:List (List Nat×Bool)} {r:PV} {v:Value} (h:Rep M B r v):Rep M B (wu ro r) v:=by
 unfold wu; split
 .exact h
 .obtain ⟨vs,rfl,hr⟩:=sQ.1 h;exact sQ.2 ⟨vs,rfl,aFX hr⟩
 .exact aFW h
theorem aZ8 {p:PV} {z:List Nat×Bool} {v:Value} (hr:Rep M B p v) (h:Tl M w p v):Tl M w (fin1 p z) v:=by grind [fin1,aSM,fA,qE]
theorem aF' {ro:List (List Nat×Bool)} {r:PV} {v:Value} (hr:Rep M B r v) (h:Tl M w r v):Tl M w (wu ro r) v:=by
 unfold wu; split
 .exact h
 .exact fA rfl
 .exact aZ8 hr h
theorem aFY {ro:List (List Nat×Bool)} {r:PV} {v:Value} {b:Nat}:bK (wu ro r) v b<=bK r v b:=by
 unfold wu; split;omega
 .rw[dC rfl]; omega
 grind [fin1,aPC,PM]
theorem aL9 {n:Nat} {h:aG} {args:bTA} {vals:Array Value} {out:Nat->Nat} {M:Mem} {B:aN} {w:World} (hlen:args.length<=n) (hmem:vW M w) (hheap:qH M B w h) (hcnt:∀ b,aP w h B b+out b<=1) (hnew:∀ b,w.heap.size<=b->aP w h B b+out b=0)
 (hv:aj M B args vals.toList):Inv n M B out ⟨lh 0 args,h⟩ (vals ++ Array.replicate (n-vals.size) undef) w:=by
 have hvl:=nG hv;simp only[Array.length_toList] at hvl;have hfp:∀ t b,fp B ⟨lh 0 args,h⟩ t w b=aP w h B b:=fun t b=>by grind [fp,VA]
 refine ⟨by simp; omega,hmem,aB1.1,fun k p hk => ?_,hheap,fun b=>by rw[hfp]; exact hcnt b,fun b hb=>by rw[hfp]; simp_all⟩;obtain ⟨i,q,rfl,hq,rfl⟩:=aB0 hk;obtain ⟨v,hv1,hv2⟩:=uh hv hq;have hi:=(iJ.1 hq).1;refine ⟨by omega,?_,fA (qE _)⟩;have hvi:vals[i]? = some v:=by simp_all
 have:(vals ++ Array.replicate (n-vals.size) undef).getD (0+i) undef=v:=by rw[qU,aC2,a1K (by omega),hvi]; rfl
 rw[this]; exact oL.2 hv2
theorem aG0 {n:Nat} {fn:Func} {h h':aG} {args:bTA} {out:Nat->Nat} {M M':Mem} {B B':aN} {w w':World} {t:Array Value} {a':Act} {Z':ASt} {r0:PV} {ro:List (List Nat×Bool)} (hheap:qH M B w h)
 (hG:bz n out h.length M B ⟨lh 0 args,h⟩ t w M' B' Z' a'.tmps w') (hret:LD P fn.results.toList h.length r0 h' Z'):∃ v,(results fn a'.tmps).run P w' = .ok v w'/\∃ M'' B'',Post h B out M w (wu ro r0) h' v M'' B'' w':=by
 have hfp:∀ t b,fp B ⟨lh 0 args,h⟩ t w b=aP w h B b:=fun t b=>by grind [fp,VA]
 obtain ⟨v,hrun,hrep,htl,hown⟩:=aQE hG.inv hret;obtain ⟨hm0,hht,hb1,hb2,_⟩:=hret;generalize hm':h'.length=m at *;subst hht;have hpost:Post h B out M w (wu ro r0) (Z'.h.take m) v M' (B'.take m) w':=by
  have hBl:B.length=h.length:=hheap.1.symm;have htake:=fun b=>a8Q (w:=w') m b Z'.h B'
  have hfin:∀ b,aP w' (Z'.h.take m) (B'.take m) b+bK (wu ro r0) v b<=fp B' Z' a'.tmps w' b:=fun b=>by have:=htake b; have:=hown b; have:=aFY (ro:=ro) (r:=r0) (v:=v) (b:=b); simp only[fp]; omega
  refine ⟨hG.inv.mem,⟨hG.mem,fun i c hc => ?_⟩,hG.fr.mono fun b hb h0=>by rw[hfp]; exact h0,⟨by simp[hG.inv.heap.1],fun i cs hi => ?_⟩,aFZ (hrep.blw hb1),aF' (hrep.blw hb1) htl,fun b hb => ?_,fun b => ?_,fun b hb => ?_⟩
  .have hlt:=(iJ.1 hc).1;rw[lM,aS (by omega)];exact hG.pre i c (by omega) hc
  .have hi0:=hi;rw[lM] at hi;split at hi
   .rename_i hlt;obtain ⟨c,hc,vs,ty,o1,o2,o3,o4,o5⟩:=hG.inv.heap.2 i cs hi;refine ⟨c,by rw[lM,aS hlt]; exact hc,vs,ty,o1,o2,o3,fun j p hj => ?_,o5⟩;obtain ⟨u,a1,a2,a3,a4⟩:=o4 j p hj;refine ⟨u,a1,a2.blw ?_,a3,a4⟩;have:=iY.1 hb2 _ (nK hi0);exact XI.1 this p (nK hj)
   .cases hi
  .have h1:=hG.own b hb; rw[hfp] at h1; grind
  .have h1:=hG.inv.cnt b; have:=hfin b; omega
  .have h1:=hG.inv.new b hb; have:=hfin b; omega
 grind
theorem rO.a8K {cp:CP} {g:FuncId} {fn:Func} {c:Code} (hcp:∀ {vals:Array Value} {w:World} {R:Ending->World->Prop},c.wp P (bodyPost P fn R) { tmps:=vals ++ Array.replicate (fn.ntmps-vals.size) undef,defers := [] } w->cp g vals w R) (hm:P.follows .mixedOrders=true) (hf:P.funcs[g]? = some fn) (hb:fn.body=some c) (hn:(fn.name != "runtime.NumGoroutine")=true) {args:bTA} {h:aG} {r:PV} {h':aG} (vars mv mu:List Nat) (sz jt lt pt:List (Nat×List Nat)) (fz:List Nat) (ro:List (List Nat×Bool)) (ft:List (Nat×List Nat)) (sy ln:List Nat) (hlen:args.length<=fn.ntmps)
 (hA:dD ⟨P,fn.ntmps,vars,mv,mu,sz,jt,lt,pt,fz,ft,sy,ln⟩ h.length c (fun e Z'=>(match e with | .exit _=>False | _=>True)/\∃ r0,LD P fn.results.toList h.length r0 h' Z'/\wu ro r0=r) ⟨lh 0 args,h⟩):rO P cp g args h r h':=by
 refine ⟨by grind [callable],fun out M B w vals hmem hheap hcnt hnew hv => ?_⟩;have hI:=aL9 (n:=fn.ntmps) hlen hmem hheap hcnt hnew hv;refine hcp (uy (wV (E:=⟨P,fn.ntmps,vars,mv,mu,sz,jt,lt,pt,fz,ft,sy,ln⟩) (out:=out) (a := { tmps:=vals ++ Array.replicate (fn.ntmps-vals.size) undef,defers := [] }) hm c hI hA) fun e a' w' hl => ?_);obtain ⟨ax,Z',M',B',rfl,⟨hax,r0,hret,rfl⟩,hd,hG⟩:=hl;obtain ⟨v,hrun,M'',B'',hpost⟩:=aG0 (ro:=ro) hheap hG hret;cases ax with
 | normal=>exact ⟨hd,v,hrun,v,M'',B'',rfl,hpost⟩
 | ret=>exact ⟨hd,v,hrun,v,M'',B'',rfl,hpost⟩
 | exit i=>grind
end
theorem Ev.frame {P:Program} {g:FuncId} {args:bTA} {r:PV} (h:Ev P g args [] r []) (hr:r.flat=true) (ha:PV.flats args=true) (hh:aG):Ev P g args hh r hh:=h.frame' hr ha hh
theorem a3D {E:AE} {g:FuncId} {args:bTA} {dst:Option Nat} {K:ASt->Prop} {Z:ASt} {r:PV} (h:Ev E.P g args [] r []) (hr:r.flat=true) (ha:PV.flats args=true) (hk:jB E dst r Z K):RQ E g args dst K Z:=⟨r,Z.h,h.frame hr ha _,hk⟩
theorem wrap64 {n:Int} (h1 : -9223372036854775808<=n) (h2:n<=9223372036854775807):i64.wrap n=n:=IntWalk.i64_in n ⟨h1,h2⟩
theorem xO {E:AE} {dst:Option Nat} {p:PV} {Z:ASt} {K K':ASt->Prop} (hk:∀ Z,K Z->K' Z) (h:jB E dst p Z K):jB E dst p Z K':=by grind [jB]
theorem aRV {E:AE} {o:Oper} {Z:ASt} {K K':ASt->Prop} (hk:∀ Z,K Z->K' Z) (h:yK E o K Z):yK E o K' Z:=by grind [yK,xO]
theorem aRX {E:AE} {o:Oper} {Z:ASt} {K K':ASt->Prop} (hk:∀ Z,K Z->K' Z) (h:Pz E o K Z):Pz E o K' Z:=by
 rcases h with h | h
 .exact .inl (aRV hk h)
 .refine .inr ?_;unfold UV at *;split at h
  .exact fun b hb=>xO hk (h b hb)
  omega
theorem XB {E:AE} {o:Oper} {Z:ASt} {K K':ASt->Prop} (hk:∀ Z,K Z->K' Z) (h:wU E o K Z):wU E o K' Z:=by
 unfold wU at *;split
 .rename_i c hc;simp only[hc] at h;split
  .rename_i f hf;simp only[hf] at h;split at h
   .rename_i h1 h2;obtain ⟨r,h',a,b⟩:=h;exact ⟨r,h',a,xO hk b⟩
   omega
  grind [aRX]
 grind [aRX]
theorem Cm {E:AE} {ops:Array Oper} {K K':ASt->Prop} (hk:∀ Z,K Z->K' Z):∀ (l:List Oper) {Z:ASt},lD E ops l K Z->lD E ops l K' Z
 | [],Z,h=>hk Z h
 | o::l,Z,h=>by
  rw[lD] at h ⊢;split
  .rename_i hg;simp only[hg] at h;exact XB (fun Z hZ=>Cm hk l hZ) h
  .rename_i j want hg;simp only[hg] at h;split
   .rename_i hv;rw[hv] at h;exact xO (fun Z hZ=>Cm hk l hZ) h
   .rename_i b hv;rw[hv] at h;exact ⟨fun e=>XB (fun Z hZ=>Cm hk l hZ) (h.1 e),fun e=>xO (fun Z hZ=>Cm hk l hZ) (h.2 e)⟩
   .rename_i hv;rw[hv] at h;exact h.elim
theorem XA {E:AE} {o:Oper} {Z:ASt} {K K':ASt->Prop} (hk:∀ Z,K Z->K' Z) (h:BB E o K Z):BB E o K' Z:=by
 unfold BB at *;split
 .rename_i f args hc;simp only[hc] at h;split at h
  .rename_i h1 h2;rcases h with ⟨r,a,b,c,d⟩ | ⟨hsy,r,h',a,ro,d⟩
   .exact .inl ⟨r,a,b,c,xO hk d⟩
   .exact .inr ⟨hsy,r,h',a,ro,xO hk d⟩
  omega
 grind [aRV]
theorem RG {E:AE} {ops:Array Oper} {K K':ASt->Prop} (hk:∀ Z,K Z->K' Z):∀ (l:List Oper) {Z:ASt},rW E ops l K Z->rW E ops l K' Z
 | [],Z,h=>hk Z h
 | o::l,Z,h=>by
  rw[rW] at h ⊢;split
  .rename_i hg;simp only[hg] at h;exact XA (fun Z hZ=>RG hk l hZ) h
  .rename_i j want hg;simp only[hg] at h;split
   .rename_i hv;rw[hv] at h;exact xO (fun Z hZ=>RG hk l hZ) h
   .rename_i b hv;rw[hv] at h;exact ⟨fun e=>XA (fun Z hZ=>RG hk l hZ) (h.1 e),fun e=>xO (fun Z hZ=>RG hk l hZ) (h.2 e)⟩
   .rename_i hv;rw[hv] at h;exact h.elim
theorem aVD {E:AE} {ops:Array Oper} {Z:ASt} {K K':ASt->Prop} (hk:∀ Z,K Z->K' Z) (h:X9 E ops K Z):X9 E ops K' Z:=⟨h.1,RG hk _ h.2⟩
theorem aQG {m0:Nat} {b:(AX->ASt->Prop)->ASt->Prop} {Q Q':AX->ASt->Prop} (hb:∀ (Q Q':AX->ASt->Prop) (Z:ASt),(∀ e Z,Q e Z->Q' e Z)->b Q Z->b Q' Z) (hq:∀ e Z,Q e Z->Q' e Z):∀ (k:Nat) (Z:ASt),LH m0 b Q k Z->LH m0 b Q' k Z
 | 0,_,h=>h.elim
 | k+1,Z,⟨l,m,h1,h2,h3⟩=>⟨l,m,h1,h2,hb _ _ _ (fun e Z he=>by
  cases e with
  | normal=>exact aQG hb hq k Z he
  | ret=>exact hq _ _ he
  | exit i=>exact hq _ _ he) h3⟩
theorem xw {E:AE} {m0:Nat}:∀ (c:Code) {Q Q':AX->ASt->Prop} {Z:ASt},(∀ e Z,Q e Z->Q' e Z)->dD E m0 c Q Z->dD E m0 c Q' Z
 | .skip,_,_,_,hq,h=>hq _ _ h
 | .label _,_,_,_,hq,h=>hq _ _ h
 | .exit _,_,_,_,hq,h=>hq _ _ h
 | .ret,_,_,_,hq,h=>hq _ _ h
 | .region _ ops draw,_,_,_,hq,h=>by
  rw[dD] at h ⊢;cases draw with
  | false=>grind [Cm]
  | true=>simp only[yY] at h ⊢; exact h.elim (fun h => .inl (aVD (fun Z=>hq _ Z) h)) fun h => .inr (aCG (fun Z=>hq _ Z) _ h)
 | .seq x y,Q,Q',_,hq,h=>by
  rw[dD] at h ⊢;refine xw x (fun e Z he => ?_) h;cases e with
  | normal =>
   obtain ⟨ks,he⟩:=he;rcases he with he | ⟨l,m,a1,a2,he⟩
   .exact ⟨ks,.inl (xw y hq he)⟩
   .exact ⟨ks,.inr ⟨l,m,a1,a2,xw y hq he⟩⟩
  | ret=>exact hq _ _ he
  | exit i=>exact hq _ _ he
 | .cond c x y,_,_,_,hq,h=>by
  rw[dD] at h ⊢;split
  .rename_i b hb;rw[hb] at h;exact ⟨fun e=>xw x hq (h.1 e),fun e=>xw y hq (h.2 e)⟩
  .rename_i hb;split at h
   .rename_i b hb'; exact absurd hb' (hb b)
   .exact h
 | .block id x,_,_,_,hq,h=>by
  rw[dD] at h ⊢;refine xw x (fun e Z he => ?_) h;cases e with
  | normal=>exact hq _ _ he
  | ret=>exact hq _ _ he
  | exit i =>grind [NV]
 | .loop x,_,_,_,hq,h=>by rw[dD] at h ⊢;obtain ⟨k,hk⟩:=h;exact ⟨k,aQG (b:=dD E m0 x) (fun _ _ _ hq hb=>xw x hq hb) hq k _ hk⟩
 | .scope x,_,_,_,hq,h=>by rw[dD] at h ⊢; exact xw x hq h
 | .rangeFunc ..,_,_,_,_,h=>by rw[dD] at h; exact h.elim
 | .goto _,_,_,_,_,h=>by rw[dD] at h; exact h.elim
 | .refuse _,_,_,_,_,h=>by rw[dD] at h; exact h.elim
theorem aED {E:AE} {g:FuncId} {args:bTA} {dst:Option Nat} {K:ASt->Prop} {Z:ASt} {r:PV} (h:Ev E.P g args [] r []) (hr:r.flat=true) (ha:PV.flats args=true) (hk:jB E dst r Z K):a3C E g args dst K Z := .inl ⟨r,h,hr,ha,hk⟩
section
variable {E:AE} {m0:Nat} {Q:AX->ASt->Prop} {Z:ASt}
end
section
variable {E:AE} {ops:Array Oper} {l:List Oper} {Q:ASt->Prop} {Z:ASt} {o:Oper}
@[simp] theorem bPW : lD E ops [] Q Z = Q Z := rfl
@[simp] theorem bPV : rW E ops [] Q Z = Q Z := rfl
theorem aVF (hc:zD o=none):wU E o Q Z=Pz E o Q Z:=by grind [wU]
end
@[simp] theorem bSU (k : IntKind) (n : Int) : PV.un (.int k n) = .int k n := rfl
@[simp] theorem size_int (k : IntKind) (n : Int) : PV.size (.int k n) = 1 := rfl
@[simp] theorem bR5 (k : IntKind) (n : Int) : PV.isAgg (.int k n) = false := rfl
@[simp] theorem bS6 (k : IntKind) (n : Int) : PV.one (.int k n) = true := rfl
@[simp] theorem bRT (k : IntKind) (n : Int) : PV.okE (.int k n) = true := rfl
@[simp] theorem bRH (k : IntKind) (n : Int) : PV.newCells (.int k n) = some [.int k n] := rfl
@[simp] theorem bQ0 (m : Nat) (k : IntKind) (n : Int) : PV.blw m (.int k n) = true := by rfl
@[simp] theorem bQF (k : IntKind) (n : Int) : PV.flat (.int k n) = true := by rfl
@[simp] theorem bSR (b : Bool) : PV.un (.bool b) = .bool b := rfl
@[simp] theorem size_bool (b : Bool) : PV.size (.bool b) = 1 := rfl
@[simp] theorem bR0 (b : Bool) : PV.isAgg (.bool b) = false := rfl
@[simp] theorem bS3 (b : Bool) : PV.one (.bool b) = true := rfl
@[simp] theorem bRQ (b : Bool) : PV.okE (.bool b) = true := rfl
@[simp] theorem bRE (b : Bool) : PV.newCells (.bool b) = some [.bool b] := rfl
@[simp] theorem bPY (m : Nat) (b : Bool) : PV.blw m (.bool b) = true := by rfl
@[simp] theorem bQC (b : Bool) : PV.flat (.bool b) = true := by rfl
@[simp] theorem bS' (s : ByteArray) : PV.un (.str s) = .str s := rfl
@[simp] theorem bSM (s : ByteArray) : PV.size (.str s) = 1 := rfl
@[simp] theorem bRB (s : ByteArray) : PV.isAgg (.str s) = false := rfl
@[simp] theorem bSC (s : ByteArray) : PV.one (.str s) = true := rfl
@[simp] theorem bRZ (s : ByteArray) : PV.okE (.str s) = true := rfl
@[simp] theorem bRN (s : ByteArray) : PV.newCells (.str s) = some [.str s] := rfl
@[simp] theorem bQ6 (m : Nat) (s : ByteArray) : PV.blw m (.str s) = true := by rfl
@[simp] theorem bQL (s : ByteArray) : PV.flat (.str s) = true := by rfl
@[simp] theorem bSV : PV.un (.nilp) = .nilp := rfl
@[simp] theorem bSH : PV.size (.nilp) = 1 := rfl
@[simp] theorem bR6 : PV.isAgg (.nilp) = false := rfl
@[simp] theorem bS7 : PV.one (.nilp) = true := rfl
@[simp] theorem bRU : PV.okE (.nilp) = true := rfl
@[simp] theorem bRI : PV.newCells (.nilp) = some [.nilp] := rfl
@[simp] theorem bQ1 (m : Nat) : PV.blw m (.nilp) = true := by rfl
@[simp] theorem bQG : PV.flat (.nilp) = true := by rfl
@[simp] theorem bSX (v : Value) : PV.un (.raw v) = .raw v := rfl
@[simp] theorem bSJ (v : Value) : PV.size (.raw v) = 1 := rfl
@[simp] theorem bR8 (v : Value) : PV.isAgg (.raw v) = false := rfl
@[simp] theorem bS9 (v : Value) : PV.one (.raw v) = true := rfl
@[simp] theorem bRW (v : Value) : PV.okE (.raw v) = true := rfl
@[simp] theorem bRK (v : Value) : PV.newCells (.raw v) = some [.raw v] := rfl
@[simp] theorem bQ3 (m : Nat) (v : Value) : PV.blw m (.raw v) = true := by rfl
@[simp] theorem bQI (v : Value) : PV.flat (.raw v) = true := by rfl
@[simp] theorem bSW (i off : Nat) : PV.un (.ptr i off) = .ptr i off := rfl
@[simp] theorem bSI (i off : Nat) : PV.size (.ptr i off) = 1 := rfl
@[simp] theorem bR7 (i off : Nat) : PV.isAgg (.ptr i off) = false := rfl
@[simp] theorem bS8 (i off : Nat) : PV.one (.ptr i off) = true := rfl
@[simp] theorem bRV (i off : Nat) : PV.okE (.ptr i off) = false := rfl
@[simp] theorem bRJ (i off : Nat) : PV.newCells (.ptr i off) = some [.ptr i off] := rfl
@[simp] theorem bQ2 (m : Nat) (i off : Nat) : PV.blw m (.ptr i off) = decide (i < m) := by rfl
@[simp] theorem bQH (i off : Nat) : PV.flat (.ptr i off) = false := by rfl
@[simp] theorem bSS (e : PV) : PV.un (.cst e) = .cst e := rfl
@[simp] theorem bSF (e : PV) : PV.size (.cst e) = 1 := rfl
@[simp] theorem bR3 (e : PV) : PV.isAgg (.cst e) = false := rfl
@[simp] theorem bS4 (e : PV) : PV.one (.cst e) = true := rfl
@[simp] theorem bRR (e : PV) : PV.okE (.cst e) = true := rfl
@[simp] theorem bRF (e : PV) : PV.newCells (.cst e) = some [.cst e] := rfl
@[simp] theorem bPZ (m : Nat) (e : PV) : PV.blw m (.cst e) = true := by rfl
@[simp] theorem bQD (e : PV) : PV.flat (.cst e) = true := by rfl
@[simp] theorem bSY (o : Bool) (z : Nat) (es : bTA) : PV.un (.sl o z es) = .sl false z es := rfl
@[simp] theorem bSK (o : Bool) (z : Nat) (es : bTA) : PV.size (.sl o z es) = 1 := rfl
@[simp] theorem bR9 (o : Bool) (z : Nat) (es : bTA) : PV.isAgg (.sl o z es) = false := rfl
@[simp] theorem bSA (o : Bool) (z : Nat) (es : bTA) : PV.one (.sl o z es) = true := rfl
@[simp] theorem bRX (o : Bool) (z : Nat) (es : bTA) : PV.okE (.sl o z es) = true := rfl
@[simp] theorem bRL (o : Bool) (z : Nat) (es : bTA) : PV.newCells (.sl o z es) = some [.sl false z es] := rfl
@[simp] theorem bQ4 (m : Nat) (o : Bool) (z : Nat) (es : bTA) : PV.blw m (.sl o z es) = true := by rfl
@[simp] theorem bQJ (o : Bool) (z : Nat) (es : bTA) : PV.flat (.sl o z es) = true := by rfl
@[simp] theorem bSZ (i off n z : Nat) : PV.un (.slh i off n z) = .slh i off n z := rfl
@[simp] theorem bSL (i off n z : Nat) : PV.size (.slh i off n z) = 1 := rfl
@[simp] theorem bRA (i off n z : Nat) : PV.isAgg (.slh i off n z) = false := rfl
@[simp] theorem bSB (i off n z : Nat) : PV.one (.slh i off n z) = true := rfl
@[simp] theorem bRY (i off n z : Nat) : PV.okE (.slh i off n z) = false := rfl
@[simp] theorem bRM (i off n z : Nat) : PV.newCells (.slh i off n z) = some [.slh i off n z] := rfl
@[simp] theorem bQ5 (m : Nat) (i off n z : Nat) : PV.blw m (.slh i off n z) = decide (i < m) := by rfl
@[simp] theorem bQK (i off n z : Nat) : PV.flat (.slh i off n z) = false := by rfl
@[simp] theorem bST (f : Fn) (a c : bTA) : PV.un (.func f a c) = .func f a c := rfl
@[simp] theorem bSG (f : Fn) (a c : bTA) : PV.size (.func f a c) = 1 := rfl
@[simp] theorem bR4 (f : Fn) (a c : bTA) : PV.isAgg (.func f a c) = false := rfl
@[simp] theorem bS5 (f : Fn) (a c : bTA) : PV.one (.func f a c) = true := rfl
@[simp] theorem bRS (f : Fn) (a c : bTA) : PV.okE (.func f a c) = (PV.flats a && PV.flats c) := rfl
@[simp] theorem bRG (f : Fn) (a c : bTA) : PV.newCells (.func f a c) = some [.func f a c] := rfl
@[simp] theorem bP' (m : Nat) (f : Fn) (a c : bTA) : PV.blw m (.func f a c) = (PV.blws m a && PV.blws m c) := by rfl
@[simp] theorem bQE (f : Fn) (a c : bTA) : PV.flat (.func f a c) = (PV.flats a && PV.flats c) := by rfl
@[simp] theorem bSQ (cs : bTA) : PV.un (.agg cs) = .agg cs := rfl
@[simp] theorem bSE (cs : bTA) : PV.size (.agg cs) = cs.length := rfl
@[simp] theorem bQ' (cs : bTA) : PV.isAgg (.agg cs) = true := rfl
@[simp] theorem bS0 (cs : bTA) : PV.one (.agg cs) = false := rfl
@[simp] theorem bRP (cs : bTA) : PV.okE (.agg cs) = (cs.all PV.one && PV.flats cs) := rfl
@[simp] theorem bRD (cs : bTA) : PV.newCells (.agg cs) = if cs.all PV.one then some (cs.map PV.un) else none := rfl
@[simp] theorem bPX (m : Nat) (cs : bTA) : PV.blw m (.agg cs) = PV.blws m cs := by rfl
@[simp] theorem flat_agg (cs : bTA) : PV.flat (.agg cs) = PV.flats cs := by rfl
@[simp] theorem bT0 (cs : bTA) : PV.un (.tuple cs) = .tuple cs := rfl
@[simp] theorem bSN (cs : bTA) : PV.size (.tuple cs) = 1 := rfl
@[simp] theorem bRC (cs : bTA) : PV.isAgg (.tuple cs) = false := rfl
@[simp] theorem bSD (cs : bTA) : PV.one (.tuple cs) = false := rfl
@[simp] theorem bR' (cs : bTA) : PV.okE (.tuple cs) = false := rfl
@[simp] theorem bRO (cs : bTA) : PV.newCells (.tuple cs) = none := rfl
@[simp] theorem bQ7 (m : Nat) (cs : bTA) : PV.blw m (.tuple cs) = PV.blws m cs := by rfl
@[simp] theorem bQM (cs : bTA) : PV.flat (.tuple cs) = PV.flats cs := by rfl
@[simp] theorem bQ9 (m : Nat) : PV.blws m [] = true := rfl
@[simp] theorem bQ8 (m : Nat) (p : PV) (ps : bTA) : PV.blws m (p :: ps) = (p.blw m && PV.blws m ps) := by rw [PV.blws]
@[simp] theorem bQO : PV.flats [] = true := rfl
@[simp] theorem bQN (p : PV) (ps : bTA) : PV.flats (p :: ps) = (p.flat && PV.flats ps) := by rw [PV.flats]
attribute [simp] ASt.rdT D8 NV ASt.keep yK bQ ASt.put jB iI lh ja tY pop FQ ASt.rd ASt.ev bT Ep D9 a03 mM Value.oneCell' yL ASt.clr dB LD resV o9 xN VF OX Pm VE a2Z BP BC a1I Xy Zg Rf Zv Zu vw jc DR ASt.gc zl zD zu dm
mutual
def jh (f:Nat->Nat):PV->PV
 | .ptr i o => .ptr (f i) o
 | .cO T i => .cO T (f i)
 | .slh i o n z => .slh (f i) o n z
 | .func fn a c => .func fn (kF f a) (kF f c)
 | .agg cs => .agg (kF f cs)
 | .tuple cs => .tuple (kF f cs)
 | .int k n => .int k n
 | .bool b => .bool b
 | .str s => .str s
 | .nilp => .nilp
 | .raw v => .raw v
 | .cst e => .cst e
 | .cZ l => .cZ l
 | .gB o n z cs => .gB o n z cs
 | .mp l => .mp l
 | .sl o z es => .sl o z es
def kF (f:Nat->Nat):bTA->bTA
 | [] => []
 | p::ps=>jh f p::kF f ps
end
mutual
def PV.allI (D:Nat->Bool):PV->Bool
 | .ptr i _=>D i
 | .cO _ i=>D i
 | .slh i _ _ _=>D i
 | .func _ a c=>PV.nO D a&&PV.nO D c
 | .agg cs=>PV.nO D cs
 | .tuple cs=>PV.nO D cs
 | _=>true
def PV.nO (D:Nat->Bool):bTA->Bool
 | []=>true
 | p::ps=>p.allI D&&PV.nO D ps
end
def lg (f:Nat->Nat):Option (bTA)->Option (bTA)
 | some cs=>some (kF f cs)
 | none=>none
def tq:List Nat->Nat->Nat
 | [],_=>0
 | j::l,i=>bif Nat.beq j i then 0 else tq l i+1
def mg:List Nat->Nat->Bool
 | [],_=>false
 | j::l,i=>Nat.beq j i||mg l i
def qf (ids:List Nat) (n m:Nat):Nat:=match ids[m]? with | some i=>i | none=>n+(m-ids.length)
def sS:List Nat->aG->aG->aG
 | i::is,o::os,H=>sS is os (H.set i o)
 | _,_,H=>H
def nodupB:List Nat->Bool
 | []=>true
 | i::l => !(mg l i)&&nodupB l
def qA (H:aG) (i:Nat):Option (bTA):=match H[i]? with | some o=>o | none=>none
def xx (ids:List Nat) (H h':aG):aG:=sS ids ((h'.take ids.length).map (lg (qf ids H.length))) H ++ (h'.drop ids.length).map (lg (qf ids H.length))
theorem ZF {l:List Nat} {i:Nat}:mg l i=true↔i∈l:=by
 induction l with
 | nil=>simp[mg]
 | cons j l ih =>
  rw[mg,EP,ih,jV];constructor;grind [Nat.eq_of_beq_eq_true]
  .rintro (h | h);simp_all;simp_all
theorem bJ' {l:List Nat} {i:Nat} (h:i∈l):l[tq l i]? = some i:=by
 induction l with
 | nil=>simp at h
 | cons j l ih =>
  rw[tq];cases hb:Nat.beq j i with
  | true=>have:=nZ hb; simp_all
  | false =>
   have hne:j≠i:=fun e=>by simp_all
   grind
section
variable {M:Mem} {B B':aN} {w w':World}
mutual
theorem aQ2 {f:Nat->Nat} {D:Nat->Bool} (hf:∀ i c,D i=true->B[i]? = some c->B'[f i]? = some c):∀ p:PV,p.allI D=true->∀ v,(ah M B p).1 v->(ah M B' (jh f p)).1 v
 | .int _ _,_,v,h=>by simpa only[jh,ah] using h
 | .bool _,_,v,h=>by simpa only[jh,ah] using h
 | .str _,_,v,h=>by simpa only[jh,ah] using h
 | .nilp,_,v,h=>by simpa only[jh,ah] using h
 | .raw _,_,v,h=>by simpa only[jh,ah] using h
 | .cst _,_,v,h=>by simpa only[jh,ah] using h
 | .sl _ _ _,_,v,h=>by simpa only[jh,ah] using h
 | .cZ _,_,v,h=>by simpa only[jh,ah] using h
 | .gB _ _ _ _,_,v,h=>by simpa only[jh,ah] using h
 | .mp _,_,v,h=>by simpa only[jh,ah] using h
 | .ptr i o,hd,v,h=>by simp only[ah,jD] at h;simp only[jh,ah,jD];obtain ⟨c,hc,e⟩:=h;exact ⟨c,⟨hf i c (by simpa only[PV.allI] using hd) hc.1,hc.2⟩,e⟩
 | .cO T i,hd,v,h=>by simp only[ah,jD] at h;simp only[jh,ah,jD];obtain ⟨c,hc,e⟩:=h;exact ⟨c,hf i c (by simpa only[PV.allI] using hd) hc,e⟩
 | .slh i o n z,hd,v,h=>by simp only[ah,jD] at h;simp only[jh,ah,jD];obtain ⟨c,cap,hc,e⟩:=h;exact ⟨c,cap,⟨hf i c (by simpa only[PV.allI] using hd) hc.1,hc.2⟩,e⟩
 | .func fn a c,hd,v,h=>by simp only[PV.allI,bF] at hd;simp only[ah,jD] at h;simp only[jh,ah,jD];obtain ⟨x,y,e,h1,h2⟩:=h;exact ⟨x,y,e,PW hf a hd.1 _ h1,PW hf c hd.2 _ h2⟩
 | .agg cs,hd,v,h=>by simp only[ah] at h;simp only[jh,ah];obtain ⟨vs,e,h1⟩:=h;exact ⟨vs,e,PW hf cs (by simpa only[PV.allI] using hd) _ h1⟩
 | .tuple cs,hd,v,h=>by simp only[ah] at h;simp only[jh,ah];obtain ⟨vs,e,h1⟩:=h;exact ⟨vs,e,PW hf cs (by simpa only[PV.allI] using hd) _ h1⟩
theorem PW {f:Nat->Nat} {D:Nat->Bool} (hf:∀ i c,D i=true->B[i]? = some c->B'[f i]? = some c):∀ ps:bTA,PV.nO D ps=true->∀ vs,ny (iC M B ps) vs->ny (iC M B' (kF f ps)) vs
 | [],_,vs,h=>by simpa only[kF,iC] using h
 | p::ps,hd,vs,h=>by
  simp only[PV.nO,bF] at hd;cases vs with
  | nil=>simp[iC,ny] at h
  | cons v vs =>simp only[iC,ny] at h;simp only[kF,iC,ny];exact ⟨aQ2 hf p hd.1 v h.1,PW hf ps hd.2 vs h.2⟩
end
theorem aAA {f:Nat->Nat} {D:Nat->Bool} (hf:∀ i c,D i=true->B[i]? = some c->B'[f i]? = some c) {p:PV} (hd:p.allI D=true) {v:Value} (h:Rep M B p v):Rep M B' (jh f p) v:=aQ2 hf p hd v h
theorem bKW {f:Nat->Nat} {D:Nat->Bool} (hf:∀ i c,D i=true->B[i]? = some c->B'[f i]? = some c) {ps:bTA} (hd:PV.nO D ps=true) {vs:List Value} (h:aj M B ps vs):aj M B' (kF f ps) vs:=PW hf ps hd vs h
mutual
theorem a2Q:∀ p:PV,p.allI (fun _=>true)=true
 | .func _ a c=>by simp only[PV.allI,Qy a,Qy c,J6]
 | .agg cs=>by simp only[PV.allI,Qy cs]
 | .tuple cs=>by simp only[PV.allI,Qy cs]
 | .ptr _ _=>rfl
 | .cO _ _=>rfl
 | .slh _ _ _ _=>rfl
 | .int _ _=>rfl
 | .bool _=>rfl
 | .str _=>rfl
 | .nilp=>rfl
 | .raw _=>rfl
 | .cst _=>rfl
 | .sl _ _ _=>rfl
 | .cZ _=>rfl
 | .gB _ _ _ _=>rfl
 | .mp _=>rfl
theorem Qy:∀ ps:bTA,PV.nO (fun _=>true) ps=true
 | []=>rfl
 | p::ps=>by simp only[PV.nO,a2Q p,Qy ps,J6]
end
theorem bKN (f:Nat->Nat) (p:PV):(jh f p).own=p.own:=by cases p<;>rfl
theorem a06 (f:Nat->Nat) (p:PV) (v:Value) (b:Nat):bK (jh f p) v b=bK p v b:=by unfold bK; rw[bKN]
theorem aBD {f:Nat->Nat} {p:PV} {v:Value} (h:Tl M w p v):Tl M w (jh f p) v:=by cases p<;>first | exact h | exact fA rfl
theorem aA6 {f:Nat->Nat}:∀ {ps:bTA} {j:Nat},(kF f ps)[j]? =(ps[j]?).map (jh f)
 | [],j=>by simp[kF]
 | p::ps,0=>by simp[kF]
 | p::ps,j+1=>by rw[kF,aC8,aC8]; exact aA6
theorem aA7 {f:Nat->Nat}:∀ ps:bTA,(kF f ps).length=ps.length
 | []=>rfl
 | p::ps=>by simp[kF,aA7 ps]
theorem aP8 {f:Nat->Nat} {b:Nat}:∀ (cs:bTA) (vs:List Value),dQ (kF f cs) vs b=dQ cs vs b
 | [],_=>by rfl
 | p::ps,[]=>by rfl
 | p::ps,v::vs=>by rw[kF,dQ,dQ,a06,aP8 ps vs]
theorem Ue {f:Nat->Nat} {b:Nat}:∀ (h:aG) (B:aN),aP w (h.map (lg f)) B b=aP w h B b
 | [],_=>by simp[aP]
 | some cs::h,[]=>by rfl
 | none::h,[]=>by rfl
 | some cs::h,c::B=>by simp only[oN,lg,aP,aP8,Ue h B]
 | none::h,c::B=>by simp only[oN,lg,aP,Ue h B]
def o1 (w:World) (b:Nat) (o:Option (bTA)) (c:Nat×Nat×TypeId):Nat:=match o with | some cs=>(if c.1=b then 1 else 0)+dQ cs (gZ w c.1) b | none=>0
theorem IP (o:Option (bTA)) (h:aG) (c:Nat×Nat×TypeId) (B:aN) (b:Nat):aP w (o::h) (c::B) b=o1 w b o c+aP w h B b:=by
 cases o with
 | none=>grind [aP,o1]
 | some cs=>rfl
theorem aPA {b:Nat} {o:Option (bTA)}:∀ {H:aG} {B:aN} {i:Nat} {old:Option (bTA)} {c:Nat×Nat×TypeId},H[i]? = some old->B[i]? = some c->aP w (H.set i o) B b+o1 w b old c=aP w H B b+o1 w b o c
 | [],_,_,_,_,h,_=>by simp at h
 | _::_,[],_,_,_,_,h=>by simp at h
 | x::H,d::B,0,old,c,h1,h2=>by grind [IP]
 | x::H,d::B,i+1,old,c,h1,h2=>by have:=aPA (b:=b) (o:=o) (H:=H) (B:=B) (i:=i) (by simpa using h1) (by simpa using h2);rw[List.set_cons_succ,IP,IP]; omega
theorem a8O {b:Nat}:∀ {h k:aG} {B C:aN},h.length=B.length->aP w (h ++ k) (B ++ C) b=aP w h B b+aP w k C b
 | [],k,[],C,_=>by simp[aP]
 | o::h,k,c::B,C,e=>by rw[gu,gu,IP,IP,a8O (by grind)]; omega
 | [],_,_::_,_,e=>by simp at e
 | _::_,_,[],_,e=>by simp at e
theorem LQ:∀ (is:List Nat) (os H:aG),(sS is os H).length=H.length
 | [],os,H=>by cases os<;>rfl
 | i::is,[],H=>rfl
 | i::is,o::os,H=>by rw[sS,LQ]; simp
theorem V5 {i:Nat}:∀ {is:List Nat} {os H:aG},i∉is->(sS is os H)[i]? = H[i]?
 | [],os,H,_=>by cases os<;>rfl
 | j::is,[],H,_=>rfl
 | j::is,o::os,H,h=>by rw[sS,V5 (fun e=>h (by simp[e])),qF (fun e=>h (by simp[e]))]
theorem aR3:∀ {is:List Nat} {os H:aG} {j i:Nat} {o:Option (bTA)},is.Nodup->is[j]? = some i->os[j]? = some o->i<H.length->(sS is os H)[i]? = some o
 | [],_,_,_,_,_,_,h,_,_=>by simp at h
 | _::_,[],_,_,_,_,_,_,h,_=>by simp at h
 | k::is,q::os,H,0,i,o,hn,h1,h2,hi=>by grind [sS,V5]
 | k::is,q::os,H,j+1,i,o,hn,h1,h2,hi=>by rw[sS]; exact aR3 (a1O.1 hn).2 (by simpa using h1) (by simpa using h2) (by simpa using hi)
theorem a0M {b:Nat}:∀ {is:List Nat} {os H:aG},is.Nodup->os.length=is.length->(∀ i,i∈is->i<H.length/\i<B.length) ->
 aP w (sS is os H) B b+aP w (is.map (qA H)) (is.map fun i=>B.getD i (0,0,0)) b=aP w H B b+aP w os (is.map fun i=>B.getD i (0,0,0)) b
 | [],[],H,_,_,_=>by rfl
 | [],_::_,_,_,h,_=>by simp at h
 | _::_,[],_,_,h,_=>by simp at h
 | i::is,o::os,H,hn,hl,hb=>by
  obtain ⟨hn1,hn2⟩:=a1O.1 hn;obtain ⟨b1,b2⟩:=hb i (by simp);have ih:=a0M (b:=b) (is:=is) (os:=os) (H:=H.set i o) hn2 (by simpa using hl) fun j hj=>by simpa using hb j (by simp[hj])
  have e1:is.map (qA (H.set i o))=is.map (qA H):=List.map_congr_left fun j hj=>by unfold qA; rw[qF (fun e=>hn1 (by rw[e]; exact hj))]
  rw[e1] at ih;have hB:B[i]? = some (B.getD i (0,0,0)):=by rw[WG,jF b2]; rfl
  have hH:H[i]? = some (qA H i):=by unfold qA; rw[jF b1]
  have e2:=aPA (w:=w) (b:=b) (o:=o) hH hB;rw[sS,oN,oN,IP,IP];omega
theorem bH9 {l:List Nat} (h:nodupB l=true):l.Nodup:=by
 induction l with
 | nil=>simp
 | cons i l ih =>simp only[nodupB,bF,xW] at h;refine a1O.2 ⟨fun hm => ?_,ih h.2⟩;rw[ZF.2 hm] at h; simp_all
theorem a5L {H:aG} {i:Nat} {cs:bTA}:qA H i=some cs↔H[i]? = some (some cs):=by grind [qA]
end
theorem rO.sub {P:Program} {cp:CP} (hm:QX cp) {g:FuncId} {ids:List Nat} {H:aG} {big:bTA} {r:PV} {h':aG}
 (k:rO P cp g (kF (tq ids) big) ((ids.map (qA H)).map (lg (tq ids))) r h') (hnd:nodupB ids=true) (hlt:∀ i,i∈ids->i<H.length)
 (hbig:PV.nO (mg ids) big=true) (hcs:∀ i cs,i∈ids->H[i]? = some (some cs)->PV.nO (mg ids) cs=true):rO P cp g big H (jh (qf ids H.length) r) (xx ids H h'):=by
 have hnd:=bH9 hnd;refine ⟨k.1,fun out M B w vals hmem hheap hcnt hnew hv => ?_⟩;have hBH:H.length=B.length:=hheap.1;let Bs:aN:=ids.map fun i=>B.getD i (0,0,0)
 let Hc:aG:=sS ids (ids.map fun _=>none) H
 have hBi:∀ i,i∈ids->B[i]? = some (B.getD i (0,0,0)):=fun i hi=>by rw[WG,jF (by rw[<- hBH]; grind)]; rfl
 have hin:∀ i,i∈ids->i<H.length/\i<B.length:=fun i hi=>⟨hlt i hi,by rw[<- hBH]; grind⟩
 have hpos:∀ i c,mg ids i=true->B[i]? = some c->Bs[tq ids i]? = some c:=fun i c hi hc=>by have hm:=ZF.1 hi;grind [bJ']
 have hnone:∀ (l:List Nat) (C:aN) (w:World) b,aP w (l.map fun _=>(none:Option (bTA))) C b=0:=by
  intro l;induction l with
  | nil=>grind [aP]
  | cons i l ih=>intro C w b; cases C with
   | nil=>simp[aP]
   | cons c C=>rw[oN,IP,ih]; simp[o1]
 have hsum:∀ (w:World) (os:aG),os.length=ids.length->∀ b,aP w (sS ids os H) B b=aP w Hc B b+aP w os Bs b:=fun w os hl b=>by have e1:=a0M (w:=w) (b:=b) (is:=ids) (os:=os) hnd hl hin;have e2:=a0M (w:=w) (b:=b) (is:=ids) (os:=ids.map fun _=>none) hnd (by simp) hin;rw[hnone] at e2;grind
 have hs1:∀ b,aP w Hc B b+aP w ((ids.map (qA H)).map (lg (tq ids))) Bs b=aP w H B b:=fun b=>by have e2:=a0M (w:=w) (b:=b) (is:=ids) (os:=ids.map fun _=>none) hnd (by simp) hin;rw[hnone] at e2;rw[Ue];omega
 have bC':qH M Bs w ((ids.map (qA H)).map (lg (tq ids))):=by
  refine ⟨by simp[Bs],fun j cs' hj => ?_⟩;rw[kJ,kJ] at hj;cases hi:ids[j]? with
  | none=>simp_all
  | some i =>
   have hm:i∈ids:=nK hi;cases ho:qA H i with
   | none=>grind [lg]
   | some cs =>
    simp[hi,ho,lg] at hj; subst hj;have hHi:=a5L.1 ho;obtain ⟨c,hc,vs,ty,h1,h2,h3,h4,h5⟩:=hheap.2 i cs hHi;refine ⟨c,by grind,vs,ty,h1,h2,by rw[aA7]; exact h3,fun l p hp => ?_,h5⟩;rw[aA6] at hp;cases hq:cs[l]? with
    | none=>simp_all
    | some q =>
     simp[hq] at hp; subst hp;obtain ⟨u,a1,a2,a3,a4⟩:=h4 l q hq;have hd:q.allI (mg ids)=true:=by
      have:=hcs i cs hm hHi;have key:∀ (cs:bTA) (l:Nat),PV.nO (mg ids) cs=true->cs[l]? = some q->q.allI (mg ids)=true:=by
       intro cs;induction cs with
       | nil=>simp
       | cons c cs ih =>grind [PV.nO]
      grind
     grind [aAA,aBD]
 refine hm (k.2 (fun b=>out b+aP w Hc B b) M Bs w vals hmem bC' (fun b=>by have:=hs1 b; have:=hcnt b; omega) (fun b hb=>by have:=hs1 b; have:=hnew b hb; omega) (bKW hpos hbig hv)) fun e w' he => ?_
 obtain ⟨v,M',ES,rfl,hP⟩:=he;have bQQ:Bs.length=ids.length:=by simp[Bs]
 have bCQ:∀ (m:Nat) c,Bs[m]? = some c->ES[m]? = some c:=hP.le.blk;have hl':h'.length=ES.length:=hP.heap.1;have hk:ids.length<=ES.length:=by
  rcases Nat.eq_zero_or_pos ids.length with h0 | h0
  .omega
  .have:Bs[ids.length-1]? = some Bs[ids.length-1]:=jF (by omega);have:=(iJ.1 (bCQ _ _ this)).1;omega
 have htake:ES.take ids.length=Bs:=by apply MG;grind
 let B':aN:=B ++ ES.drop ids.length
 have hback:∀ m c,(fun _=>true) m=true->ES[m]? = some c->B'[qf ids H.length m]? = some c:=fun m c _ hc=>by unfold qf;grind
 have hlt':∀ b,1<=aP w Hc B b->b<w.heap.size/\aP w ((ids.map (qA H)).map (lg (tq ids))) Bs b=0:=fun b hb=>by have h1:=hs1 b;have h2:=hcnt b;grind
 have hun:∀ b,1<=aP w Hc B b->w'.heap[b]? = w.heap[b]? /\ ∀ o,M' b o=M b o:=fun b hb=>hP.fr.blk b (hlt' b hb).1 (hlt' b hb).2
 have DX:∀ (i:Nat) cs c,Hc[i]? = some (some cs)->B[i]? = some c->1<=aP w Hc B c.1:=fun i cs c h1 h2=>by have:=kR (w:=w) c.1 h1 h2;grind
 have bCS:∀ b,aP w' Hc B b=aP w Hc B b:=fun b=>FN b fun i cs c h1 h2=>NY (hun c.1 (DX i cs c h1 h2)).1
 have hle:dG M M' B B':=⟨hP.le.mem,fun i c hc=>by grind⟩;have hfin:∀ b,aP w' (xx ids H h') B' b=aP w Hc B b+aP w' h' ES b:=fun b=>by show aP w' (sS ids ((h'.take ids.length).map (lg (qf ids H.length))) H ++ (h'.drop ids.length).map (lg (qf ids H.length))) (B ++ ES.drop ids.length) b=_;rw[a8O (by rw[LQ]; exact hBH),hsum w' _ (by simp; omega),Ue,Ue,bCS];grind [List.take_append_drop,a8O]
 refine ⟨v,M',B',rfl,hP.mem,hle,hP.fr.mono fun b hb h0=>by have:=hs1 b; omega,⟨?_,fun i cs hi => ?_⟩,aAA hback (a2Q r) hP.rep,aBD hP.tl,fun b hb => ?_,fun b => ?_,fun b hb => ?_⟩
 .show (sS ids _ H ++ (h'.drop ids.length).map _).length=(B ++ ES.drop ids.length).length;grind [LQ]
 .have key:∀ (m:Nat) (cs0:bTA),h'[m]? = some (some cs0)->cs=kF (qf ids H.length) cs0->i=qf ids H.length m->∃ c,B'[i]? = some c/\a2J M' B' w' cs c:=fun m cs0 hm e1 e2=>by
   obtain ⟨c,hc,vs,ty,h1,h2,h3,h4,h5⟩:=hP.heap.2 m cs0 hm;refine ⟨c,by rw[e2]; grind,vs,ty,h1,h2,by rw[e1,aA7]; exact h3,fun l p hp => ?_,h5⟩;rw[e1,aA6] at hp;cases hq:cs0[l]? with
   | none=>simp_all
   | some q =>simp[hq] at hp; subst hp;obtain ⟨u,a1,a2,a3,a4⟩:=h4 l q hq;exact ⟨u,a1,aAA hback (a2Q q) a2,aBD a3,a4⟩
  have hi0:(sS ids ((h'.take ids.length).map (lg (qf ids H.length))) H ++ (h'.drop ids.length).map (lg (qf ids H.length)))[i]? = some (some cs):=hi;rcases yV i H.length with hlt1 | hge
  .rw[ut (by rw[LQ]; exact hlt1)] at hi0;by_cases hm:i∈ids
   .obtain ⟨j,hj⟩:=yR.1 hm;have hjl:=(iJ.1 hj).1;have ho:((h'.take ids.length).map (lg (qf ids H.length)))[j]? = some (lg (qf ids H.length) h'[j]):=by rw[kJ,lM,aS hjl,jF (by omega)]; rfl
    rw[aR3 hnd hj ho hlt1] at hi0;injection hi0 with hi0
    cases hx:h'[j] with
    | none=>rw[hx] at hi0; cases hi0
    | some cs0 =>rw[hx] at hi0;grind [lg,qf]
   .rw[V5 hm] at hi0;obtain ⟨c,hc,vs,ty,h1,h2,h3,h4,h5⟩:=hheap.2 i cs hi0;have aKF:Hc[i]? = some (some cs):=by grind [V5]
    have hcb:=hun c.1 (DX i cs c aKF hc);refine ⟨c,hle.blk _ _ hc,vs,ty,by rw[LJ hcb.1,h1],h2,h3,fun j p hj => ?_,fun o=>by rw[hcb.2]; exact h5 o⟩;obtain ⟨u,a1,a2,a3,a4⟩:=h4 j p hj;refine ⟨u,a1,a2.mono hle,a3.kept fun b ho=>hun b ?_,a4⟩;have e1:=kR (w:=w) b aKF hc;have e2:=xH b hj (by rw[qK h1]; grind:(gZ w c.1)[j]? = some u);omega
  .rw[EQ (by rw[LQ]; exact hge),LQ,kJ,aC9] at hi0;cases hx:h'[ids.length+(i-H.length)]? with
   | none=>simp_all
   | some o =>
    cases o with
    | none=>simp[hx,lg] at hi0
    | some cs0 =>grind [lg,qf]
 .have h1:=hP.own b hb; rw[a06,hfin]; have:=hs1 b; omega
 .have h1:=hP.cnt b; rw[a06,hfin]; omega
 .have h1:=hP.new b hb; rw[a06,hfin]; omega
theorem Ev.sub {P:Program} {g:FuncId} {ids:List Nat} {H:aG} {big:bTA} {r:PV} {h':aG}
 (k:Ev P g (kF (tq ids) big) ((ids.map (qA H)).map (lg (tq ids))) r h') (hnd:nodupB ids=true) (hlt:∀ i,i∈ids->i<H.length)
 (hbig:PV.nO (mg ids) big=true) (hcs:∀ i cs,i∈ids->H[i]? = some (some cs)->PV.nO (mg ids) cs=true):Ev P g big H (jh (qf ids H.length) r) (xx ids H h') :=
 rO.sub (a3E P) k hnd hlt hbig hcs
mutual
def PV.uX:PV->Bool
 | .int _ _=>true
 | .bool _=>true
 | .str _=>true
 | .nilp=>true
 | .raw _=>true
 | .agg cs=>UY cs
 | .tuple cs=>UY cs
 | _=>false
def UY:bTA->Bool
 | []=>true
 | p::ps=>p.uX&&UY ps
end
mutual
theorem PU {M M':Mem} {B B':aN}:∀ (p:PV) {v:Value},p.uX=true->Rep M B p v->Rep M' B' p v
 | .int _ _,_,_,h=>dS.2 (dS.1 h)
 | .bool _,_,_,h=>jo.2 (jo.1 h)
 | .str _,_,_,h=>iG.2 (iG.1 h)
 | .nilp,_,_,h=>Ie.2 (Ie.1 h)
 | .raw _,_,_,h=>Bc.2 (Bc.1 h)
 | .agg cs,_,hn,h=>by obtain ⟨vs,hv,hr⟩:=pG.1 h;exact pG.2 ⟨vs,hv,aAB cs hn hr⟩
 | .tuple cs,_,hn,h=>by obtain ⟨vs,hv,hr⟩:=sQ.1 h;exact sQ.2 ⟨vs,hv,aAB cs hn hr⟩
 | .ptr _ _,_,hn,_=>by simp[PV.uX] at hn
 | .cO _ _,_,hn,_=>by simp[PV.uX] at hn
 | .cst _,_,hn,_=>by simp[PV.uX] at hn
 | .sl _ _ _,_,hn,_=>by simp[PV.uX] at hn
 | .slh _ _ _ _,_,hn,_=>by simp[PV.uX] at hn
 | .func _ _ _,_,hn,_=>by simp[PV.uX] at hn
theorem aAB {M M':Mem} {B B':aN}:∀ (ps:bTA) {vs:List Value},UY ps=true->aj M B ps vs->aj M' B' ps vs
 | [],_,_,h=>by rw[dJ] at h ⊢; exact h
 | p::ps,_,hn,h=>by simp only[UY,bF] at hn;obtain ⟨u,us,rfl,h1,h2⟩:=bg.1 h;exact bg.2 ⟨u,us,rfl,PU p hn.1 h1,aAB ps hn.2 h2⟩
end
theorem IJ {p:PV} (h:p.uX=true):p.own=false:=by cases p<;>first | rfl | (simp[PV.uX] at h)
def tZ (p:PV):Bool:=p.one&&p.uX
theorem PP {p:PV} (h:tZ p=true):p.isAgg=false/\(∀ ds,p ≠ .tuple ds)/\p.uX=true/\p.size=1:=by unfold tZ at h;simp only[bF] at h;obtain ⟨h1,h2⟩:=h;cases p<;>first | (simp[PV.one] at h1; done) | exact ⟨rfl,(fun ds h=>by cases h),h2,rfl⟩
def FB (h:aG) (p:PV):PV:=match p with
 | .slh i 0 n 1=>(match h[i]? with | some (some cs) => .sl false 1 (cs.take n) | _=>p)
 | .slh i 0 n sz=>(match h[i]? with | some (some cs) => .sl false sz (lF sz cs n) | _=>p)
 | _=>p
def a7J (h:aG) (p:PV):Bool:=match p with
 | .slh i 0 n 1=>(match h[i]? with | some (some cs)=>decide (n<=cs.length)&&cs.all tZ | _=>false)
 | .slh i 0 n sz=>(match h[i]? with | some (some cs)=>decide (n*sz<=cs.length)&&decide (0<sz)&&cs.all tZ | _=>false)
 | p=>p.flat
def Zh (h:aG):bTA->bTA
 | [] => []
 | p::ps=>FB h p::Zh h ps
def UC (h:aG):bTA->Bool
 | []=>true
 | p::ps=>a7J h p&&UC h ps
section
variable {M:Mem} {B:aN} {w:World} {h:aG}
def Ol (h:aG) (B:aN) (b:Nat):Prop:=∃ (i:Nat) (cs:bTA) (c:Nat×Nat×TypeId),h[i]? = some (some cs)/\(B[i]? = some c/\c.2.2≠0)/\c.1=b/\cs.all tZ=true
open Classical in
def BI (M:Mem) (h:aG) (B:aN) (w:World):Mem:=yE M.m fun b o=>if ∃ (i:Nat) (cs:bTA) (c:Nat×Nat×TypeId),h[i]? = some (some cs)/\(B[i]? = some c/\c.2.2≠0)/\c.1=b/\cs.all tZ=true/\o<cs.length then w.cell? ⟨b,o,none⟩ else M b o
theorem Zi (hh:qH M B w h) {i:Nat} {cs:bTA} {c:Nat×Nat×TypeId} (hi:h[i]? = some (some cs)) (hc:B[i]? = some c/\c.2.2≠0) (o:Nat):M c.1 o=none:=by obtain ⟨c',hc',_,_,_,_,_,_,h5⟩:=hh.2 i cs hi;rw[hc.1] at hc'; simp_all
theorem a7K (hh:qH M B w h) {i:Nat} {cs:bTA} {c:Nat×Nat×TypeId} (hi:h[i]? = some (some cs)) (hc:B[i]? = some c/\c.2.2≠0) {o:Nat} {p:PV} (ho:cs[o]? = some p):∃ v,w.cell? ⟨c.1,o,none⟩=some v/\Rep M B p v/\v.oneCell'=true:=by obtain ⟨c',hc',vs,ty,r1,h2,h3,h4,h5⟩:=hh.2 i cs hi;rw[hc.1] at hc'; grind [EE,World.cell?]
open Classical in
theorem UD (hh:qH M B w h) (b o:Nat):BI M h B w b o=if ∃ (i:Nat) (cs:bTA) (c:Nat×Nat×TypeId),h[i]? = some (some cs)/\(B[i]? = some c/\c.2.2≠0)/\c.1=b/\cs.all tZ=true/\o<cs.length then w.cell? ⟨b,o,none⟩ else M b o:=by
 unfold BI;refine BO (fun b o v e => ?_) b o;split
 .rename_i hx;obtain ⟨i,cs,c,h1,h2,rfl,_⟩:=hx;have:=M.g _ _ _ e;rw[Zi hh h1 h2] at this; cases this
 .exact M.g _ _ _ e
theorem bFJ (hh:qH M B w h):dG M (BI M h B w) B B:=⟨fun b o v e=>by rw[UD hh];grind [Zi],fun _ _ e=>e⟩
theorem bFK (hm:vW M w) (hh:qH M B w h):vW (BI M h B w) w:=fun b o v e=>by
 rw[UD hh] at e;split at e
 .rename_i hx;obtain ⟨i,cs,c,h1,h2,rfl,_,ho⟩:=hx;obtain ⟨v',q1,_,q3⟩:=a7K hh h1 h2 (jF ho);rw[q1] at e; simp_all
 .exact hm b o v e
theorem bFI (hh:qH M B w h) {p:PV} {v:Value} (hr:Rep M B p v) (hc:a7J h p=true):Rep (BI M h B w) [] (FB h p) v:=by
 have bQS:p.flat=true->FB h p=p->Rep (BI M h B w) [] (FB h p) v:=fun h1 h2=>by rw[h2]; exact Rep.flat [] h1 (hr.mono (bFJ hh))
 unfold a7J at hc;split at hc
 .rename_i i n;split at hc
  .rename_i cs hi;simp only[bF,lw] at hc;obtain ⟨hn,hp⟩:=hc;have e:FB h (.slh i 0 n 1) = .sl false 1 (cs.take n):=by simp only[FB,hi]
   rw[e];obtain ⟨c,cap,hB,hv,hle,hcap⟩:=sN.1 hr;have hpl:=fun p hp'=>PP (iY.1 hp p hp')
   refine jE.2 ⟨some ⟨c.1,0,none⟩,cap,by rw[hv,wI,a1S hn],by rw[wI]; omega,fun e he=>(hpl e (QP he)).2.2.2,(fun h=>by cases h),fun _=>⟨c.1,0,rfl,zK fun j p hj => ?_⟩⟩;rw[lM] at hj;split at hj
   .have hjl:=(iJ.1 hj).1;obtain ⟨a1,a2,a3,a4⟩:=hpl p (nK hj);obtain ⟨u,q1,q2,_⟩:=a7K hh hi hB hj;rw[vV a1 a2];refine ⟨u,?_,PU p a3 q2⟩;rw[UD hh,aS ⟨i,cs,c,hi,hB,rfl,hp,by omega⟩,show 0+j*1=j by omega]; exact q1
   .cases hj
  .cases hc
 .rename_i i n sz hne1;split at hc
  .rename_i cs hi;simp only[bF,lw] at hc;obtain ⟨⟨hn,h0⟩,hp⟩:=hc;have e:FB h (.slh i 0 n sz) = .sl false sz (lF sz cs n):=by grind [FB]
   rw[e];obtain ⟨c,cap,hB,hv,hle,hcap⟩:=sN.1 hr;have hpl:=fun p hp'=>PP (iY.1 hp p hp')
   obtain ⟨k1,k2,k3⟩:=XY h0 hn fun p hp'=>by have:=iY.1 hp p hp';grind [tZ]
   refine jE.2 ⟨some ⟨c.1,0,none⟩,cap,by rw[hv,k1],by rw[k1]; exact hle,k2,(fun h=>by omega),fun _=>⟨c.1,0,rfl,k3 _ c.1 fun j p hj hlt => ?_⟩⟩;have hjl:=(iJ.1 hj).1;obtain ⟨a1,a2,a3,a4⟩:=hpl p (nK hj);obtain ⟨u,q1,q2,_⟩:=a7K hh hi hB hj;rw[vV a1 a2];refine ⟨u,?_,PU p a3 q2⟩;rw[UD hh,aS ⟨i,cs,c,hi,hB,rfl,hp,hjl⟩]; exact q1
  .cases hc
 grind [FB]
theorem aN3 (hh:qH M B w h):∀ {ps:bTA} {vs:List Value},aj M B ps vs->UC h ps=true->aj (BI M h B w) [] (Zh h ps) vs
 | [],_,hr,_=>by rw[dJ] at hr; subst hr; exact dJ.2 rfl
 | p::ps,_,hr,hc=>by obtain ⟨u,us,rfl,h1,h2⟩:=bg.1 hr;simp only[UC,bF] at hc;exact bg.2 ⟨u,us,rfl,bFI hh h1 hc.1,aN3 hh h2 hc.2⟩
end
theorem Ev.bFH {P:Program} {g:FuncId} {args:bTA} {r:PV} {h:aG} (h0:Ev P g (Zh h args) [] r []) (hr:r.uX=true) (hc:UC h args=true):Ev P g args h r h:=by
 classical
 refine ⟨h0.1,fun out M B w vals hmem hheap hcnt hnew hv => ?_⟩;have hz:∀ w b,aP w [] [] b=0:=fun w b=>by simp[aP]
 refine (h0.2 (fun b=>out b+aP w h B b) (BI M h B w) [] w vals (bFK hmem hheap) ⟨rfl,fun i cs hi=>by simp at hi⟩ (fun b=>by rw[hz]; have:=hcnt b; omega) (fun b hb=>by rw[hz]; have:=hnew b hb; omega) (aN3 hheap hv hc)).mono fun e w' he => ?_
 obtain ⟨v,M1,B1,rfl,hP⟩:=he;have hB1:B1 = []:=kU (by have:=hP.heap.1; simp_all);subst hB1;have DX:∀ (i:Nat) cs c,h[i]? = some (some cs)->B[i]? = some c->1<=aP w h B c.1:=fun i cs c h1 h2=>by have:=kR (w:=w) c.1 h1 h2;grind
 have hlt:∀ b,1<=aP w h B b->b<w.heap.size:=fun b hb=>by grind
 have hun:∀ b,b<w.heap.size->w'.heap[b]? = w.heap[b]? /\ ∀ o,M1 b o=BI M h B w b o:=fun b hb=>hP.fr.blk b hb (hz w b)
 obtain ⟨M',hM'⟩:∃ M':Mem,∀ b o,M' b o=if Ol h B b then none else M1 b o:=⟨yE _ _,BO fun b o v e=>by rw[aQ (fun ⟨i,cs,c,h1,h2,h3,_⟩=>by subst h3; have:=M.g _ _ _ e; rw[Zi hheap h1 h2] at this; cases this)]; exact hP.le.mem _ _ _ ((BI M h B w).g _ _ _ e)⟩
 have hL:∀ b o,Ol h B b->M' b o=none:=fun b o hl=>by rw[hM']; simp_all
 have hN:∀ b o,¬ Ol h B b->M' b o=M1 b o:=fun b o hl=>by rw[hM']; simp_all
 have hLn:∀ b o,Ol h B b->M b o=none:=fun b o ⟨i,cs,c,h1,h2,h3,_⟩=>by grind [Zi]
 have hNM:∀ b o,¬ Ol h B b->BI M h B w b o=M b o:=fun b o hl=>by rw[UD hheap,aQ (fun ⟨i,cs,c,h1,h2,h3,h4,_⟩=>hl ⟨i,cs,c,h1,h2,h3,h4⟩)]
 have heq:∀ b o,b<w.heap.size->M' b o=M b o:=fun b o hb=>by simp_all
 have hle:dG M M' B B:=⟨fun b o v e=>by have:=uw _ _ (hmem b o v e).1;rw[heq b o this]; exact e,fun _ _ h=>h⟩;have hfp:∀ b,aP w' h B b=aP w h B b:=fun b=>FN b fun i cs c h1 h2=>NY (hun c.1 (hlt _ (DX i cs c h1 h2))).1
 refine ⟨v,M',B,rfl,fun b o u e => ?_,hle,⟨hP.fr.os,hP.fr.tape,hP.fr.output,hP.fr.size,fun b hb _=>⟨(hun b hb).1,fun o=>heq b o hb⟩⟩,⟨hheap.1,fun i cs hi => ?_⟩,PU r hr hP.rep,fA (IJ hr),fun b _ => ?_,fun b => ?_,fun b hb => ?_⟩
 .by_cases hl:Ol h B b;simp_all
  .rw[hN b o hl] at e; exact hP.mem b o u e
 .obtain ⟨c,hc',vs,ty,h1,h2,h3,h4,h5⟩:=hheap.2 i cs hi;have hcl:=hlt _ (DX i cs c hi hc');refine ⟨c,hc',vs,ty,by rw[LJ (hun c.1 hcl).1,h1],h2,h3,fun j p hj => ?_,fun o=>by rw[heq c.1 o hcl]; exact h5 o⟩;obtain ⟨u,hu,hur,hT,hone⟩:=h4 j p hj;refine ⟨u,hu,hur.mono hle,hT.kept fun b ho => ?_,hone⟩;have e1:=kR (w:=w) b hi hc';have e2:=xH b hj (by rw[qK h1]; grind:(gZ w c.1)[j]? = some u);have hbl:=hlt b (by omega);simp_all
 grind [dC,IJ]
 grind [dC,IJ]
 grind [dC,IJ]
theorem Ev.bNA {P:Program} {g:FuncId} {args:bTA} {es:bTA} (h0:Ev P g args [] (.sl true 1 es) []) (hpos:0<es.length) (hpl:es.all tZ=true):Ev P g args [] (.slh 0 0 es.length 1) [some es]:=by
 refine ⟨h0.1,fun out M B w vals hmem hheap hcnt hnew hv => ?_⟩;have hz:∀ w b,aP w [] B b=0:=fun w b=>by simp[aP]
 refine (h0.2 out M B w vals hmem hheap hcnt hnew hv).mono fun e w' he => ?_
 obtain ⟨v,M1,B1,rfl,hP⟩:=he;have hB1:B1 = []:=kU (by have:=hP.heap.1; simp_all);have hB0:B = []:=kU (by have:=hheap.1; simp_all);subst hB1;subst hB0;have hz':∀ w b,aP w [] [] b=0:=fun w b=>by simp[aP]
 obtain ⟨A,cap,hv1,hle,hs,_,hA⟩:=jE.1 hP.rep;obtain ⟨b,off,rfl,hL⟩:=hA (fun e=>by rw[e] at hpos; simp at hpos);obtain ⟨_,_,ht⟩:=hP.tl.s 1 es _ _ _ rfl hv1;obtain ⟨cs,ty,t1,t2,t3,_,t4⟩:=ht _ rfl;simp only at t1 t2 t3 t4;subst t4;have hown:∀ b',bK (.sl true 1 es) v b'=if b=b' then 1 else 0:=fun b'=>by rw[hv1]; rfl
 have hnb:w.heap.size<=b:=by
  rcases yV b w.heap.size with h | h
  .have:=hP.own b h;rw[hz',hz',hown,aS rfl] at this;omega
  .exact h
 have hpl':=fun p hp=>PP (iY.1 hpl p hp)
 have hown0:∀ (vs:List Value) b',dQ es vs b'=0:=by
  intro vs b';have:∀ (l:bTA) (vs:List Value),(∀ p,p∈l->p.own=false)->dQ l vs b'=0:=by
   intro l;induction l with
   | nil=>intro vs _; cases vs<;>rfl
   | cons p l ih =>
    intro vs hl;cases vs with
    | nil=>rfl
    | cons u vs=>rw[dQ,dC (hl p (by simp)),ih vs fun q hq=>hl q (by simp[hq])]
  grind [IJ]
 have hH:∀ b',aP w' [some es] [(b,cs.size,ty+1)] b'=if b=b' then 1 else 0:=fun b'=>by grind [aP]
 obtain ⟨M2,hM2⟩:∃ M2:Mem,∀ b' o,M2 b' o=if b'=b then none else M1 b' o:=⟨yE _ _,BO fun b' o u e=>by have:=uw _ _ (hmem b' o u (M.g _ _ _ e)).1;simp only at this;rw[aQ (by omega)]; exact hP.le.mem _ _ _ (M.g _ _ _ e)⟩
 refine ⟨v,M2,[(b,cs.size,ty+1)],rfl,fun b' o u e => ?_,⟨fun b' o u e => ?_,fun i c e=>by simp at e⟩,⟨hP.fr.os,hP.fr.tape,hP.fr.output,hP.fr.size,fun b' hb' _ => ?_⟩,⟨rfl,fun i cs' hi => ?_⟩,sN.2 ⟨(b,cs.size,ty+1),cap,⟨rfl,by simp⟩,hv1,hle,by omega⟩,fA rfl,fun b' hb' => ?_,fun b' => ?_,fun b' hb' => ?_⟩
 .rw[hM2] at e;split at e
  .cases e
  .exact hP.mem b' o u e
 .have:=uw _ _ (hmem b' o u e).1;simp only at this;rw[hM2,aQ (by omega)]; exact hP.le.mem b' o u e
 .have h1:=hP.fr.blk b' hb' (hz' w b');grind
 .cases i with
  | succ i=>simp at hi
  | zero =>simp at hi;subst hi;refine ⟨(b,cs.size,ty+1),rfl,cs,ty+1,Bg t1,⟨rfl,rfl⟩,by omega,fun j p hj => ?_,fun o=>by rw[hM2,aS rfl]⟩;obtain ⟨a1,a2,a3,a4⟩:=hpl' p (nK hj);obtain ⟨u,hu,hr⟩:=(vV a1 a2).1 (Dj hL hj);have hc:=(hP.mem _ _ _ hu);grind [PU,fA,IJ,World.cell?]
 .rw[hH,hz',aQ (by omega),dC rfl]; omega
 .have:=hP.cnt b';rw[hz',hown] at this;rw[hH,dC rfl]; omega
 .have:=hP.new b' hb';rw[hz',hown] at this;rw[hH,dC rfl]; omega
def yJ (sz:Nat) (e:PV):Bool:=match e with
 | .agg ds=>Nat.beq ds.length sz&&ds.all tZ
 | _=>false
theorem aG2 {sz:Nat}:∀ {es:bTA},es.all (yJ sz)=true->(dm es).length=es.length*sz
 | [],_=>by simp[dm]
 | e::es,h=>by
  simp only[Ac,bF] at h;cases e with
  | agg ds =>have:=nZ (by have:=h.1; simp only[yJ,bF] at this; exact this.1);rw[dm,aY,aG2 h.2,aX,this,bP,GV]; omega
  | _=>simp[yJ] at h
theorem a4C {sz:Nat}:∀ {es:bTA},es.all (yJ sz)=true->(dm es).all tZ=true
 | [],_=>rfl
 | e::es,h=>by
  simp only[Ac,bF] at h;cases e with
  | agg ds =>
   have h1:=h.1;simp only[yJ,bF] at h1;rw[dm,List.all_append,a4C h.2,Bool.and_true,List.all_map];refine iY.2 fun p hp => ?_
   have:=iY.1 h1.2 p hp;obtain ⟨a1,a2,a3,a4⟩:=PP this;show tZ p.un=true;cases p<;>first | exact this | (simp[PV.uX] at a3; done)
  | _=>simp[yJ] at h
theorem aNK {M:Mem} {B:aN} {sz b:Nat}:∀ {es:bTA} {o:Nat},jr M B sz es b o->es.all (yJ sz)=true->∀ {q:Nat} {p:PV},(dm es)[q]? = some p->∃ u,M b (o+q)=some u/\Rep M B p u
 | [],_,_,_,q,p,h=>by simp_all
 | e::es,o,hl,ha,q,p,h=>by
  simp only[Ac,bF] at ha;obtain ⟨h1,h2⟩:=KI.1 hl;cases e with
  | agg ds =>
   have hp:=ha.1;simp only[yJ,bF] at hp;have hd:=nZ hp.1;rw[dm] at h;rcases yV q ds.length with hq | hq
   .rw[ut (by simpa using hq),kJ] at h;cases hx:ds[q]? with
    | none=>simp[hx] at h
    | some x =>
     rw[hx] at h; injection h with h; subst h
     obtain ⟨u,hu,hr⟩:=NZ (yD.1 h1) hx;exact ⟨u,hu,oL.2 hr⟩
   .rw[EQ (by simpa using hq)] at h;simp only[aX] at h;obtain ⟨u,hu,hr⟩:=aNK h2 ha.2 h;exact ⟨u,by rw[<- hu]; congr 1; omega,hr⟩
  | _=>have:=ha.1; simp[yJ] at this
theorem Ev.bNC {P:Program} {g:FuncId} {args:bTA} {sz:Nat} {es:bTA} (h0:Ev P g args [] (.sl true sz es) []) (hpos:0<es.length) (hpl:es.all (yJ sz)=true):Ev P g args [] (.slh 0 0 es.length sz) [some (dm es)]:=by
 refine ⟨h0.1,fun out M B w vals hmem hheap hcnt hnew hv => ?_⟩;have hz:∀ w b,aP w [] B b=0:=fun w b=>by simp[aP]
 refine (h0.2 out M B w vals hmem hheap hcnt hnew hv).mono fun e w' he => ?_
 obtain ⟨v,M1,B1,rfl,hP⟩:=he;have hB1:B1 = []:=kU (by have:=hP.heap.1; simp_all);have hB0:B = []:=kU (by have:=hheap.1; simp_all);subst hB1;subst hB0;have hz':∀ w b,aP w [] [] b=0:=fun w b=>by simp[aP]
 obtain ⟨A,cap,hv1,hle,hs,_,hA⟩:=jE.1 hP.rep;obtain ⟨b,off,rfl,hL⟩:=hA (fun e=>by rw[e] at hpos; simp at hpos);obtain ⟨_,_,ht⟩:=hP.tl.s sz es _ _ _ rfl hv1;obtain ⟨cs,ty,t1,t2,t3,_,t4⟩:=ht _ rfl;simp only at t1 t2 t3 t4;subst t4;have hown:∀ b',bK (.sl true sz es) v b'=if b=b' then 1 else 0:=fun b'=>by rw[hv1]; rfl
 have hnb:w.heap.size<=b:=by
  rcases yV b w.heap.size with h | h
  .have:=hP.own b h;rw[hz',hz',hown,aS rfl] at this;omega
  .exact h
 have hfl:=aG2 hpl;have hpl':=fun p hp=>PP (iY.1 (a4C hpl) p hp)
 have hown0:∀ (vs:List Value) b',dQ (dm es) vs b'=0:=by
  intro vs b';have:∀ (l:bTA) (vs:List Value),(∀ p,p∈l->p.own=false)->dQ l vs b'=0:=by
   intro l;induction l with
   | nil=>intro vs _; cases vs<;>rfl
   | cons p l ih =>
    intro vs hl;cases vs with
    | nil=>rfl
    | cons u vs=>rw[dQ,dC (hl p (by simp)),ih vs fun q hq=>hl q (by simp[hq])]
  grind [IJ]
 have hH:∀ b',aP w' [some (dm es)] [(b,cs.size,ty+1)] b'=if b=b' then 1 else 0:=fun b'=>by grind [aP]
 have hcap:es.length*sz<=cs.size:=mP (uu _ hle) (by omega);obtain ⟨M2,hM2⟩:∃ M2:Mem,∀ b' o,M2 b' o=if b'=b then none else M1 b' o:=⟨yE _ _,BO fun b' o u e=>by have:=uw _ _ (hmem b' o u (M.g _ _ _ e)).1;simp only at this;rw[aQ (by omega)]; exact hP.le.mem _ _ _ (M.g _ _ _ e)⟩
 refine ⟨v,M2,[(b,cs.size,ty+1)],rfl,fun b' o u e => ?_,⟨fun b' o u e => ?_,fun i c e=>by simp at e⟩,⟨hP.fr.os,hP.fr.tape,hP.fr.output,hP.fr.size,fun b' hb' _ => ?_⟩,⟨rfl,fun i cs' hi => ?_⟩,sN.2 ⟨(b,cs.size,ty+1),cap,⟨rfl,by simp⟩,hv1,hle,by omega⟩,fA rfl,fun b' hb' => ?_,fun b' => ?_,fun b' hb' => ?_⟩
 .rw[hM2] at e;split at e
  .cases e
  .exact hP.mem b' o u e
 .have:=uw _ _ (hmem b' o u e).1;simp only at this;rw[hM2,aQ (by omega)]; exact hP.le.mem b' o u e
 .have h1:=hP.fr.blk b' hb' (hz' w b');grind
 .cases i with
  | succ i=>simp at hi
  | zero =>simp at hi;subst hi;refine ⟨(b,cs.size,ty+1),rfl,cs,ty+1,Bg t1,⟨rfl,rfl⟩,by rw[hfl]; exact hcap,fun j p hj => ?_,fun o=>by rw[hM2,aS rfl]⟩;obtain ⟨a1,a2,a3,a4⟩:=hpl' p (nK hj);obtain ⟨u,hu,hr⟩:=aNK hL hpl hj;rw[qU] at hu;have hc:=(hP.mem _ _ _ hu);grind [PU,fA,IJ,World.cell?]
 .rw[hH,hz',aQ (by omega),dC rfl]; omega
 .have:=hP.cnt b';rw[hz',hown] at this;rw[hH,dC rfl]; omega
 .have:=hP.new b' hb';rw[hz',hown] at this;rw[hH,dC rfl]; omega
theorem bKM (f:Nat->Nat):∀ {p:PV},tZ p=true->jh f p=p:=fun {p} h=>by obtain ⟨h1,h2,h3,_⟩:=PP h;cases p<;>first | rfl | (simp[PV.uX] at h3; done) | simp_all | simp_all
theorem aA8 (f:Nat->Nat):∀ {ps:bTA},ps.all tZ=true->kF f ps=ps
 | [],_=>rfl
 | p::ps,h=>by simp only[Ac,bF] at h;rw[kF,bKM f h.1,aA8 f h.2]
mutual
theorem aPX (f:Nat->Nat):∀ p:PV,p.flat=true->jh f p=p
 | .func _ a c,h=>by simp only[PV.flat,bF] at h; simp only[jh,L9 f a h.1,L9 f c h.2]
 | .agg cs,h=>by simp only[PV.flat] at h; simp only[jh,L9 f cs h]
 | .tuple cs,h=>by simp only[PV.flat] at h; simp only[jh,L9 f cs h]
 | .ptr _ _,h=>by simp[PV.flat] at h
 | .cO _ _,h=>by simp[PV.flat] at h
 | .slh _ _ _ _,h=>by simp[PV.flat] at h
 | .int _ _,_=>rfl
 | .bool _,_=>rfl
 | .str _,_=>rfl
 | .nilp,_=>rfl
 | .raw _,_=>rfl
 | .cst _,_=>rfl
 | .sl _ _ _,_=>rfl
 | .cZ _,_=>rfl
 | .gB _ _ _ _,_=>rfl
 | .mp _,_=>rfl
theorem L9 (f:Nat->Nat):∀ ps:bTA,PV.flats ps=true->kF f ps=ps
 | [],_=>rfl
 | p::ps,h=>by simp only[PV.flats,bF] at h;rw[kF,aPX f p h.1,L9 f ps h.2]
end
mutual
theorem aDQ {D:Nat->Bool}:∀ p:PV,p.flat=true->p.allI D=true
 | .func _ a c,h=>by simp only[PV.flat,bF] at h; simp only[PV.allI,JO a h.1,JO c h.2,J6]
 | .agg cs,h=>by simp only[PV.flat] at h; simp only[PV.allI,JO cs h]
 | .tuple cs,h=>by simp only[PV.flat] at h; simp only[PV.allI,JO cs h]
 | .ptr _ _,h=>by simp[PV.flat] at h
 | .cO _ _,h=>by simp[PV.flat] at h
 | .slh _ _ _ _,h=>by simp[PV.flat] at h
 | .int _ _,_=>rfl
 | .bool _,_=>rfl
 | .str _,_=>rfl
 | .nilp,_=>rfl
 | .raw _,_=>rfl
 | .cst _,_=>rfl
 | .sl _ _ _,_=>rfl
 | .cZ _,_=>rfl
 | .gB _ _ _ _,_=>rfl
 | .mp _,_=>rfl
theorem JO {D:Nat->Bool}:∀ ps:bTA,PV.flats ps=true->PV.nO D ps=true
 | [],_=>rfl
 | p::ps,h=>by simp only[PV.flats,bF] at h;simp only[PV.nO,aDQ p h.1,JO ps h.2,J6]
end
theorem Ev.thaw {P:Program} {g:FuncId} {args:bTA} {es:bTA} {H:aG} (h0:Ev P g args [] (.sl true 1 es) []) (ha:PV.flats args=true) (hpos:0<es.length) (hpl:es.all tZ=true):Ev P g args H (.slh H.length 0 es.length 1) (H ++ [some es]):=by
 have h1:=Ev.bNA h0 hpos hpl;have e1:kF (tq []) args=args:=L9 _ _ ha;have h2:=Ev.sub (ids := []) (H:=H) (big:=args) (r := .slh 0 0 es.length 1) (h' := [some es]) (by rw[e1]; exact h1) rfl (fun i hi=>by simp at hi) (by
  have:∀ ps:bTA,PV.flats ps=true->PV.nO (mg []) ps=true:=fun ps h=>JO ps h
  simp_all) (fun i cs hi=>by simp at hi)
 grind [xx,lg,sS,aA8,jh,qf]
theorem Ev.bNB {P:Program} {g:FuncId} {args:bTA} {sz:Nat} {es:bTA} {H:aG} (h0:Ev P g args [] (.sl true sz es) []) (ha:PV.flats args=true) (hpos:0<es.length) (hpl:es.all (yJ sz)=true):Ev P g args H (.slh H.length 0 es.length sz) (H ++ [some (dm es)]):=by
 have h1:=Ev.bNC h0 hpos hpl;have e1:kF (tq []) args=args:=L9 _ _ ha;have h2:=Ev.sub (ids := []) (H:=H) (big:=args) (r := .slh 0 0 es.length sz) (h' := [some (dm es)]) (by rw[e1]; exact h1) rfl (fun i hi=>by simp at hi) (by
  have:∀ ps:bTA,PV.flats ps=true->PV.nO (mg []) ps=true:=fun ps h=>JO ps h
  simp_all) (fun i cs hi=>by simp at hi)
 grind [xx,lg,sS,aA8,a4C,jh,qf]
end Go.Proofs.YtcdceiloganlnaaGreatDoor
end

/- A part of the proof: AbP, AbQ. -/
import Derived.Test.YtcdceiloganlnaaGreatDoorPw2
import Derived.LoopN
import Derived.Defers
import Derived.Scope
import Derived.Orders
import Derived.IntWalk
set_option linter.unusedVariables false
set_option linter.unusedSimpArgs false
set_option linter.unnecessarySimpa false
set_option linter.unusedSectionVars false
namespace Go.Proofs.YtcdceiloganlnaaGreatDoor
open Go.RowKit
mutual
def PV.blw (m:Nat):PV→Bool
 | .ptr i _=>decide (i<m)
 | .bld _ i=>decide (i<m)
 | .slh i _ _ _=>decide (i<m)
 | .func _ f c=>PV.blws m f&&PV.blws m c
 | .agg cs=>PV.blws m cs
 | .tuple cs=>PV.blws m cs
 | _=>true
def PV.blws (m:Nat):List PV→Bool
 | []=>true
 | p::ps=>p.blw m&&PV.blws m ps
end
section
variable {M:Mem} {B:bY}
mutual
theorem aBD (m:Nat):∀ p:PV,p.blw m=true→sem M B p=sem M (B.take m) p
 | .int _ _,_=>by simp only[sem]
 | .bool _,_=>by simp only[sem]
 | .str _,_=>by simp only[sem]
 | .nilp,_=>by simp only[sem]
 | .raw _,_=>by simp only[sem]
 | .ptr i _,h=>by
  have:(B.take m)[i]? = B[i]? := by rw[List.getElem?_take,if_pos (by simpa[PV.blw] using h)]
  simp only[sem,this]
 | .bld _ i,h=>by
  have:(B.take m)[i]? = B[i]? := by rw[List.getElem?_take,if_pos (by simpa[PV.blw] using h)]
  simp only[sem,this]
 | .slh i _ _ _,h=>by
  have:(B.take m)[i]? = B[i]? := by rw[List.getElem?_take,if_pos (by simpa[PV.blw] using h)]
  simp only[sem,this]
 | .cst e,_=>by simp only[sem]
 | .slT _,_=>by simp only[sem]
 | .slp _ _ _ _,_=>by simp only[sem]
 | .mp _,_=>by simp only[sem]
 | .sl _ _ es,_=>by simp only[sem]
 | .func _ f c,h=>by
  simp only[PV.blw,Bool.and_eq_true] at h
  simp only[sem,wO m f h.1,wO m c h.2]
 | .agg cs,h=>by simp only[sem,wO m cs (by simpa[PV.blw] using h)]
 | .tuple cs,h=>by simp only[sem,wO m cs (by simpa[PV.blw] using h)]
theorem wO (m:Nat):∀ ps:List PV,PV.blws m ps=true→gY M B ps=gY M (B.take m) ps
 | [],_=>by simp only[gY]
 | p::ps,h=>by
  simp only[PV.blws,Bool.and_eq_true] at h
  simp only[gY,aBD m p h.1,wO m ps h.2]
end
theorem Rep.blw {m:Nat} {p:PV} {v:Value} (hf:p.blw m=true) (h:Rep M B p v):Rep M (B.take m) p v:=by
 unfold Rep at *; rwa [← aBD (B:=B) m p hf]
theorem Reps.blw {m:Nat} {ps:List PV} {vs:List Value} (hf:PV.blws m ps=true) (h:Reps M B ps vs):Reps M (B.take m) ps vs:=by
 unfold Reps at *; rwa [← wO (B:=B) m ps hf]
theorem blws_iff {m:Nat}:∀ {ps:List PV},PV.blws m ps=true↔∀ p,p∈ps→p.blw m=true
 | []=>by simp[PV.blws]
 | p::ps=>by simp[PV.blws,blws_iff (ps:=ps)]
mutual
theorem a0W (m:Nat):∀ p:PV,p.flat=true→p.blw m=true
 | .int _ _,_=>rfl
 | .bool _,_=>rfl
 | .str _,_=>rfl
 | .nilp,_=>rfl
 | .raw _,_=>rfl
 | .ptr i _,h=>by simp[PV.flat] at h
 | .bld _ i,h=>by simp[PV.flat] at h
 | .slh i _ _ _,h=>by simp[PV.flat] at h
 | .cst e,_=>by simp only[PV.blw]
 | .slT _,_=>by simp only[PV.blw]
 | .slp _ _ _ _,_=>by simp only[PV.blw]
 | .mp _,_=>by simp only[PV.blw]
 | .sl _ _ es,_=>by simp only[PV.blw]
 | .func _ f c,h=>by
  simp only[PV.flat,Bool.and_eq_true] at h
  simp only[PV.blw,wL m f h.1,wL m c h.2,Bool.and_self]
 | .agg cs,h=>by simp only[PV.blw]; exact wL m cs (by simpa[PV.flat] using h)
 | .tuple cs,h=>by simp only[PV.blw]; exact wL m cs (by simpa[PV.flat] using h)
theorem wL (m:Nat):∀ ps:List PV,PV.flats ps=true→PV.blws m ps=true
 | [],_=>rfl
 | p::ps,h=>by
  simp only[PV.flats,Bool.and_eq_true] at h
  simp only[PV.blws,a0W m p h.1,wL m ps h.2,Bool.and_self]
end
end
def OM (m:Nat) (h:aG):Bool:=h.all fun o=>match o with | some cs=>PV.blws m cs | none=>true
def qV (M:Mem) (w:World):Prop:=∀ (b o:Nat) (v:Value),M b o=some v→w.cell? ⟨b,o,none⟩=some v∧v.oneCell'=true
structure Post (h:aG) (B:bY) (out:Nat→Nat) (M:Mem) (w:World) (r:PV) (h':aG) (v:Value) (M':Mem) (B':bY) (w':World):Prop where
 mem:qV M' w'
 le:MLe M M' B B'
 fr:Fr (aJ w h B) M w M' w'
 heap:HeapOK M' B' w' h'
 rep:Rep M' B' r v
 tl:Tl M' w' r v
 own:∀ b,b<w.heap.size→aJ w' h' B' b+bF r v b≤aJ w h B b
 cnt:∀ b,aJ w' h' B' b+bF r v b+out b≤1
 new:∀ b,w'.heap.size≤b→aJ w' h' B' b+bF r v b+out b=0
def callable (P:Program) (g:FuncId):Bool:=match P.funcs[g]? with | some fn=>fn.name != "runtime.NumGoroutine" && fn.body.isSome | none=>false
abbrev CP:=FuncId→Array Value→World→(Ending→World→Prop)→Prop
def EvG (P:Program) (cp:CP) (g:FuncId) (args:List PV) (h:aG) (r:PV) (h':aG):Prop :=
 callable P g=true∧∀ (out:Nat→Nat) (M:Mem) (B:bY) (w:World) (vals:Array Value),qV M w→HeapOK M B w h→(∀ b,aJ w h B b+out b≤1)→(∀ b,w.heap.size≤b→aJ w h B b+out b=0) →
  Reps M B args vals.toList→cp g vals w fun e w'=>∃ v M' B',e = .returned v∧Post h B out M w r h' v M' B' w'
def Ev (P:Program) (g:FuncId) (args:List PV) (h:aG) (r:PV) (h':aG):Prop:=EvG P (Calls P) g args h r h'
def RU (cp:CP):Prop:=∀ ⦃g:FuncId⦄ ⦃vals:Array Value⦄ ⦃w:World⦄ ⦃R R':Ending→World→Prop⦄,cp g vals w R→(∀ e w',R e w'→R' e w')→cp g vals w R'
theorem xP (P:Program):RU (Calls P):=fun _ _ _ _ _ h k=>h.mono k
def CD (P:Program):CP:=fun g vals w R=>CallsD P g vals .returning w fun e u' w'=>u' = .returning∧R e w'
theorem Y0 (P:Program):RU (CD P):=fun _ _ _ _ _ h k=>CallsD.mono h fun _ _ _ hh=>⟨hh.1,k _ _ hh.2⟩
theorem Ev.frame' {P:Program} {g:FuncId} {args:List PV} {r:PV} (h:Ev P g args [] r []) (hr:r.flat=true) (ha:PV.flats args=true) (hh:aG):Ev P g args hh r hh:=by
 refine ⟨h.1,fun out M B w vals hmem hheap hcnt hnew hv => ?_⟩
 have h0:∀ w b,aJ w [] [] b=0:=fun w b=>by simp[aJ]
 refine (h.2 (fun b=>out b+aJ w hh B b) M [] w vals hmem ⟨rfl,fun i cs hi=>by simp at hi⟩ (fun b=>by rw[h0]; have:=hcnt b; omega) (fun b hb=>by rw[h0]; have:=hnew b hb; omega) (Reps.flat [] ha hv)).mono fun e w' he => ?_
 obtain ⟨v,M',B',rfl,hP⟩:=he
 have hB':B' = []:=List.eq_nil_of_length_eq_zero (by have:=hP.heap.1; simpa using this.symm)
 subst hB'
 have hun:∀ b,b<w.heap.size→w'.heap[b]? = w.heap[b]? ∧ ∀ o,M' b o=M b o:=fun b hb=>hP.fr.blk b hb (h0 w b)
 have hlt:∀ b,1≤aJ w hh B b→b<w.heap.size:=fun b hb=>by
  rcases Nat.lt_or_ge b w.heap.size with h' | h'
  ·exact h'
  ·have:=hnew b h'; omega
 have hobj:∀ (i:Nat) cs c,hh[i]? = some (some cs)→B[i]? = some c→1≤aJ w hh B c.1:=fun i cs c h1 h2=>by
  have:=bP (w:=w) c.1 h1 h2
  simp only[if_true] at this
  omega
 have hle:MLe M M' B B:=⟨hP.le.mem,fun _ _ h=>h⟩
 have hfp:∀ b,aJ w' hh B b=aJ w hh B b:=fun b=>jJ b fun i cs c h1 h2=>jX (hun c.1 (hlt _ (hobj i cs c h1 h2))).1
 refine ⟨v,M',B,rfl,hP.mem,hle,hP.fr.mono fun b hb _=>h0 w b,⟨hheap.1,fun i cs hi => ?_⟩,hP.rep.flat B hr,hP.tl,fun b hb => ?_,fun b => ?_,fun b hb => ?_⟩
 ·obtain ⟨c,hc,vs,ty,h1,h2,h3,h4,h5⟩:=hheap.2 i cs hi
  have hcb:=hun c.1 (hlt _ (hobj i cs c hi hc))
  refine ⟨c,hc,vs,ty,by rw[kT hcb.1,h1],h2,h3,fun j p hj => ?_,fun o=>by rw[hcb.2]; exact h5 o⟩
  obtain ⟨v,hv,hr,hT,hone⟩:=h4 j p hj
  refine ⟨v,hv,hr.mono hle,hT.kept fun b ho=>hun b (hlt b ?_),hone⟩
  have e1:=bP (w:=w) b hi hc
  have e2:=iF b hj (by rw[bM h1]; simpa using hv:(aZ w c.1)[j]? = some v)
  omega
 ·have:=hP.own b hb; rw[h0,h0] at this; rw[hfp]; omega
 ·have:=hP.cnt b; rw[h0] at this; rw[hfp]; omega
 ·have:=hP.new b hb; rw[h0] at this; rw[hfp]; omega
def OG (ops:Array Oper) (σ:ASt) (j:Nat):Option (Option Bool) :=
 match (ops[j]?).bind (·.dst) with
 | none=>some none
 | some d=>match bK d σ.s with
  | some (.bool b)=>some (some b)
  | some (.tuple [])=>some none
  | _=>none
def bJ (E:AE) (dst:Option Nat) (p:PV) (σ:ASt) (K:ASt→Prop):Prop:=match ASt.put E dst p σ with | some σ'=>K σ' | none=>False
def sW (E:AE) (o:Oper) (K:ASt→Prop) (σ:ASt):Prop :=
 match aU E o σ with
 | some (p,σ1)=>eY E o σ∧bJ E o.dst p σ1 K
 | none=>False
def a7J (E:AE) (o:Oper) (σ:ASt):Option (List PV×Bool):=match o.op with
 | .binOp op t x (.const (.slice none 0 0)) _=>(match E.P.underlying t,σ.rd x,op with
  | some (.slice _),some (.sl _ _ es),.eql=>some (es,true)
  | some (.slice _),some (.sl _ _ es),.neq=>some (es,false)
  | _,_,_=>none)
 | _=>none
def aI4 (E:AE) (o:Oper) (K:ASt→Prop) (σ:ASt):Prop:=match a7J E o σ with
 | some (es,pos)=>∀ b:Bool,(b=true→es = [])→bJ E o.dst (.bool (b==pos)) σ K
 | none=>False
def Y3 (E:AE) (o:Oper) (K:ASt→Prop) (σ:ASt):Prop:=sW E o K σ∨aI4 E o K σ
def WM (E:AE) (g:FuncId) (args:List PV) (dst:Option Nat) (K:ASt→Prop) (σ:ASt):Prop:=∃ r h',Ev E.P g args σ.h r h'∧bJ E dst r { σ with h:=h' } K
def uH (E:AE) (o:Oper) (K:ASt→Prop) (σ:ASt):Prop :=
 match o.op with
 | .call c=>match c.callee with
  | .value f=>(match σ.rd f,bQ (c.args.toList.map σ.rd) with
   | some (.func (.func g) first caps),some az=>WM E g (first ++ az ++ caps) o.dst K σ
   | _,_=>False)
  | _=>Y3 E o K σ
 | _=>Y3 E o K σ
def dZ (E:AE) (ops:Array Oper):List Oper→(ASt→Prop)→ASt→Prop
 | [],Q,σ=>Q σ
 | o::l,Q,σ =>
  match o.guard with
  | none=>uH E o (dZ E ops l Q) σ
  | some (j,want)=>match OG ops σ j with
   | some none=>bJ E o.dst (.tuple []) σ (dZ E ops l Q)
   | some (some b)=>(b=want→uH E o (dZ E ops l Q) σ)∧(b≠want→bJ E o.dst (.tuple []) σ (dZ E ops l Q))
   | none=>False
section
variable {out:Nat→Nat} {M:Mem} {B:bY} {σ:ASt} {a:Act} {w:World} {E:AE} {o:Oper}
theorem N7 (hI:Inv E.n M B out σ a.tmps w) {K:ASt→Prop} (h:sW E o K σ) {K':Act→World→Prop} {Q:Exit→Act→World→Prop}
 (hK:∀ v σ' M' B' w',K σ'→Good E.n out M B σ a.tmps w M' B' σ' (a.put o.dst v).tmps w'→K' (a.put o.dst v) w'):o.wp E.P a w K' Q:=by
 unfold sW at h
 split at h
 ·rename_i p σ1 hs
  obtain ⟨hside,hp⟩:=h
  unfold bJ at hp
  split at hp
  ·rename_i σ' hput
   obtain ⟨v,w',M',B',h1,h2⟩:=a6P hI hs hside
   have hG:=h2.put hput
   unfold Oper.wp
   rcases h1 with h1 | ⟨h1,hd⟩
   ·rw[h1,Oper.upon_value]; exact hK v σ' M' B' w' hp hG
   ·rw[h1,Oper.upon_skip]
    have:a.put o.dst undef=a.put o.dst v:=by rw[hd]; rfl
    rw[this]; exact hK v σ' M' B' w' hp hG
  ·exact hp.elim
 ·exact h.elim
theorem a8O (hI:Inv E.n M B out σ a.tmps w) {K:ASt→Prop} (h:aI4 E o K σ) {K':Act→World→Prop} {Q:Exit→Act→World→Prop}
 (hK:∀ v σ' M' B' w',K σ'→Good E.n out M B σ a.tmps w M' B' σ' (a.put o.dst v).tmps w'→K' (a.put o.dst v) w'):o.wp E.P a w K' Q:=by
 obtain ⟨dst,op,type,pos,after,guard⟩:=o
 unfold aI4 at h
 split at h
 case h_2=>exact h.elim
 rename_i es ps hc
 unfold a7J at hc
 simp only at hc
 split at hc
 case h_2=>cases hc
 rename_i bop t x yt
 have key:∀ e,E.P.underlying t=some (.slice e)→∀ ow z,σ.rd x=some (.sl ow z es)→∃ b:Bool,(b=true→es = [])∧(Op.equal t (a.eval x) (.slice none 0 0)).run E.P w = .ok b w∧∃ A n c,a.eval x = .slice A n c:=by
  intro e hu ow z hx
  obtain ⟨A,cap,hv,hle,hs,hz,hA⟩:=rep_sl.1 (hI.rd x _ hx).1
  refine ⟨A.isNone,fun hn => ?_,?_,A,_,cap,hv⟩
  ·apply Classical.byContradiction
   intro hne
   obtain ⟨b,off,rfl,_⟩:=hA hne
   cases hn
  ·rw[hv]
   refine sN fun d => ?_
   rw[Op.equalIn,Sem.run_bind,run_underlying hu w]
   cases A<;>rfl
 have fin:∀ (r:Bool),(execOp a.eval ⟨dst,.binOp bop t x (.const (.slice none 0 0)) yt,type,pos,after,guard⟩).run E.P w = .ok (.value (.bool r)) w→bJ E dst (.bool r) σ K→Oper.wp E.P ⟨dst,.binOp bop t x (.const (.slice none 0 0)) yt,type,pos,after,guard⟩ a w K' Q:=by
  intro r hr hp
  unfold bJ at hp
  split at hp
  ·rename_i σ' hput
   have hG:=(Pre.plain (v := .bool r) hI (rep_bool.2 rfl) (fun b=>aN rfl _ _) (cO rfl)).put hput
   unfold Oper.wp
   rw[hr,Oper.upon_value]
   exact hK (.bool r) σ' M B w hp hG
  ·exact hp.elim
 split at hc
 ·rename_i e ow z es' hu hx
  cases hc
  obtain ⟨b,hb,he,A,n,c,hv⟩:=key e hu ow z hx
  refine fin b ?_ (by have:=h b hb; simpa using this)
  refine dR (s:=do eqGuard .eql t x (.const (.slice none 0 0)) (a.eval x) (.slice none 0 0); binOp .eql t (a.eval x) (.slice none 0 0)) rfl ?_
  rw[Sem.run_bind,hv,gU ⟨by simp,by simp⟩ w]
  rw[hv] at he
  show (binOp .eql t (.slice A n c) (.slice none 0 0)).run E.P w=_
  have:binOp .eql t (.slice A n c) (.slice none 0 0)=(do pure (.bool (← Op.equal t (.slice A n c) (.slice none 0 0)))):=rfl
  rw[this]; simp[he]
 ·rename_i e ow z es' hu hx
  cases hc
  obtain ⟨b,hb,he,A,n,c,hv⟩:=key e hu ow z hx
  refine fin (!b) ?_ (by have:=h b hb; simpa using this)
  refine dR (s:=do eqGuard .neq t x (.const (.slice none 0 0)) (a.eval x) (.slice none 0 0); binOp .neq t (a.eval x) (.slice none 0 0)) rfl ?_
  rw[Sem.run_bind,hv,gU ⟨by simp,by simp⟩ w]
  rw[hv] at he
  show (binOp .neq t (.slice A n c) (.slice none 0 0)).run E.P w=_
  have:binOp .neq t (.slice A n c) (.slice none 0 0)=(do pure (.bool (!(← Op.equal t (.slice A n c) (.slice none 0 0))))):=rfl
  rw[this]; simp[he]
 ·cases hc
theorem NZ (hI:Inv E.n M B out σ a.tmps w) {K:ASt→Prop} (h:Y3 E o K σ) {K':Act→World→Prop} {Q:Exit→Act→World→Prop}
 (hK:∀ v σ' M' B' w',K σ'→Good E.n out M B σ a.tmps w M' B' σ' (a.put o.dst v).tmps w'→K' (a.put o.dst v) w'):o.wp E.P a w K' Q:=by
 rcases h with h | h
 ·exact N7 hI h hK
 ·exact a8O hI h hK
theorem NJ {cp:CP} (hm:RU cp) (hI:Inv E.n M B out σ a.tmps w) {g:FuncId} {args:List PV} {vals:Array Value} (hv:Reps M B args vals.toList) {r:PV} {h':aG} (hE:EvG E.P cp g args σ.h r h') {dst:Option Nat} {σ':ASt} (hp:ASt.put E dst r { σ with h:=h' }=some σ')
 {R:Ending→World→Prop} (hK:∀ v M' B' w',Good E.n out M B σ a.tmps w M' B' σ' (a.put dst v).tmps w'→R (.returned v) w'):cp g vals w R:=by
 obtain ⟨_,hE⟩:=hE
 have hc:=hE (fun b=>out b+iI σ.s a.tmps b) M B w vals hI.mem hI.heap (fun b=>by have:=hI.cnt b; simp only[fp] at this; omega) (fun b hb=>by have:=hI.new b hb; simp only[fp] at this; omega) hv
 refine hm hc fun e w' he => ?_
 obtain ⟨v,M',B',rfl,hP⟩:=he
 refine hK v M' B' w' ?_
 have hpre:Pre E.n out M B σ a.tmps w M' B' { σ with h:=h' } w' r v:=by
  refine ⟨⟨hI.size,hP.mem,hI.srt,fun k p hk => ?_,hP.heap,fun b => ?_,fun b hb => ?_⟩,hP.le,?_,fun b hb => ?_,hP.rep,hP.tl,fun b => ?_,fun b hb => ?_⟩
  ·obtain ⟨s1,s2,s3⟩:=hI.slots k p hk
   refine ⟨s1,s2.mono hP.le,s3.kept fun b hb => ?_⟩
   have e1:=pI (s:=σ.s) (t:=a.tmps) (k:=k) (b:=b)
   simp only[oN,hk] at e1
   have e2:=hI.cnt b
   simp only[fp] at e2
   exact hP.fr.blk b (CX hI (by simp only[fp]; omega)) (by omega)
  ·have:=hP.cnt b; simp only[fp]; omega
  ·have:=hP.new b hb; simp only[fp]; omega
  ·exact hP.fr.mono fun b hb h0=>by simp only[fp] at h0; omega
  ·have:=hP.own b hb; simp only[fp]; omega
  ·have:=hP.cnt b; simp only[fp]; omega
  ·have:=hP.new b hb; omega
 exact hpre.put hp
theorem a8Y (hI:Inv E.n M B out σ a.tmps w) {g:FuncId} {args:List PV} {vals:Array Value} (hv:Reps M B args vals.toList) {r:PV} {h':aG} (hE:Ev E.P g args σ.h r h') {dst:Option Nat} {σ':ASt} (hp:ASt.put E dst r { σ with h:=h' }=some σ')
 {R:Ending→World→Prop} (hK:∀ v M' B' w',Good E.n out M B σ a.tmps w M' B' σ' (a.put dst v).tmps w'→R (.returned v) w'):Calls E.P g vals w R:=NJ (xP E.P) hI hv hE hp hK
theorem vC (hI:Inv E.n M B out σ a.tmps w) {K:ASt→Prop} (h:uH E o K σ) {K':Act→World→Prop} {Q:Exit→Act→World→Prop}
 (hK:∀ v σ' M' B' w',K σ'→Good E.n out M B σ a.tmps w M' B' σ' (a.put o.dst v).tmps w'→K' (a.put o.dst v) w'):o.wp E.P a w K' Q:=by
 unfold uH at h
 split at h
 ·rename_i c hop
  split at h
  ·rename_i f hf
   split at h
   ·rename_i g first caps az hfun has
    obtain ⟨r,h',hE,hp⟩:=h
    unfold bJ at hp
    split at hp
    ·rename_i σ' hput
     obtain ⟨f',c',e1,r1,r2⟩:=rep_func.1 (hI.rd _ _ hfun).1
     obtain ⟨ra,_⟩:=tH hI.rd has
     have hcall:=hE.1
     unfold callable at hcall
     split at hcall
     ·rename_i fn hfn
      simp only[Bool.and_eq_true,bne_iff_ne,ne_eq] at hcall
      unfold Oper.wp
      have hrun:(execOp a.eval o).run E.P w = .ok (.enter g (f' ++ c.args.map a.eval ++ c')) w:=by
       obtain ⟨callee,cargs,cts⟩:=c
       simp only at hf
       subst hf
       unfold execOp
       rw[hop]
       simp only[resolve,e1,Deferred.ofValue,Sem.run_bind,Sem.run_pure,Result.andThen_ok,invoke,callFunc,run_program,hfn]
       have hnb:fn.body.isNone=false:=by cases hb:fn.body<;>simp[hb] at hcall ⊢
       have hnn:(fn.name == "runtime.NumGoroutine")=false:=by simpa using hcall.1
       simp only[hnn,hnb,Bool.false_eq_true,if_false,Sem.run_pure]
      rw[hrun,Oper.upon_enter]
      refine a8Y hI (args:=first ++ az ++ caps) ?_ hE hput fun v M' B' w' hG=>hK v σ' M' B' w' hp hG
      simpa using dU (dU r1 ra) r2
     ·cases hcall
    ·exact hp.elim
   ·exact h.elim
  ·exact NZ hI h hK
 ·exact NZ hI h hK
theorem gQ (hI:Inv E.n M B out σ a.tmps w) {ops:Array Oper} {j:Nat} {x:Option Bool} (h:OG ops σ j=some x):yielded ops a.tmps j=x:=by
 unfold OG at h
 unfold yielded
 split at h
 ·rename_i hd; cases h; rw[hd]; rfl
 ·rename_i d hd
  rw[hd]
  split at h
  ·rename_i b hb
   cases h
   obtain ⟨h1,h2,_⟩:=hI.slots _ _ hb
   have:=rep_bool.1 h2
   have hlt:d<a.tmps.size:=by rw[hI.size]; exact h1
   have hg:a.tmps[d]? = some (.bool b):=by simpa[hlt] using this
   simp[hg]
  ·rename_i hb
   cases h
   obtain ⟨h1,h2,_⟩:=hI.slots _ _ hb
   obtain ⟨vs,h3,h4⟩:=rep_tuple.1 h2
   have hlt:d<a.tmps.size:=by rw[hI.size]; exact h1
   have hg:a.tmps[d]? = some (.tuple vs):=by simpa[hlt] using h3
   simp[hg]
  ·cases h
theorem Act.put_defers' (a:Act) (d:Option Nat) (v:Value):(a.put d v).defers=a.defers:=by cases d<;>rfl
theorem CV (hI:Inv E.n M B out σ a.tmps w) {dst:Option Nat} {σ':ASt} (h:ASt.put E dst (.tuple []) σ=some σ'):Good E.n out M B σ a.tmps w M B σ' (a.put dst undef).tmps w :=
 (Pre.plain hI (rep_tuple.2 ⟨#[],rfl,reps_nil.2 rfl⟩) (fun b=>aN rfl _ _) (cO rfl)).put h
theorem nY {ops:Array Oper} {Q:Exit→Act→World→Prop}:∀ (l:List Oper) {M:Mem} {B:bY} {σ:ASt} {a:Act} {w:World} {K:ASt→Prop},Inv E.n M B out σ a.tmps w→dZ E ops l K σ →
 (∀ σ' M' B' a' w',K σ'→Good E.n out M B σ a.tmps w M' B' σ' a'.tmps w'→a'.defers=a.defers→Q .normal a' w')→wpList E.P ops Q l a w
 | [],M,B,σ,a,w,K,hI,h,hQ=>hQ σ M B a w h (Good.refl hI) rfl
 | o::l,M,B,σ,a,w,K,hI,h,hQ=>by
  have run:uH E o (dZ E ops l K) σ→o.wp E.P a w (wpList E.P ops Q l) Q:=fun h =>
   vC hI h fun v σ' M' B' w' hK hG=>nY l hG.inv hK fun σ2 M2 B2 a2 w2 hk hG2 hd=>hQ σ2 M2 B2 a2 w2 hk (hG.trans hG2) (by rw[hd,Act.put_defers'])
  have skip:bJ E o.dst (.tuple []) σ (dZ E ops l K)→wpList E.P ops Q l (a.put o.dst undef) w:=fun h=>by
   unfold bJ at h
   split at h
   ·rename_i σ' hp
    have hG:=CV hI hp
    exact nY l hG.inv h fun σ2 M2 B2 a2 w2 hk hG2 hd=>hQ σ2 M2 B2 a2 w2 hk (hG.trans hG2) (by rw[hd,Act.put_defers'])
   ·exact h.elim
  rw[dZ] at h
  unfold wpList
  split at h
  ·rename_i hg
   rw[if_pos (by simp[Region.wanted,hg])]
   exact .inl (run h)
  ·rename_i j want hg
   split at h
   ·rename_i hv
    rw[if_neg (by simp[Region.wanted,hg,gQ hI hv])]
    exact skip h
   ·rename_i b hv
    by_cases hb:b=want
    ·rw[if_pos (by simp[Region.wanted,hg,gQ hI hv,hb])]
     exact .inl (run (h.1 hb))
    ·rw[if_neg (by simp[Region.wanted,hg,gQ hI hv,hb])]
     exact skip (h.2 hb)
   ·exact h.elim
theorem A7 {ops:Array Oper} {Q:Exit→Act→World→Prop} {rest:List Oper}:∀ (l:List Oper) {M:Mem} {B:bY} {σ:ASt} {a:Act} {w:World} {K:ASt→Prop},Inv E.n M B out σ a.tmps w→dZ E ops l K σ →
 (∀ σ' M' B' a' w',K σ'→Good E.n out M B σ a.tmps w M' B' σ' a'.tmps w'→a'.defers=a.defers→wpList E.P ops Q rest a' w')→wpList E.P ops Q (l ++ rest) a w
 | [],M,B,σ,a,w,K,hI,h,hQ=>hQ σ M B a w h (Good.refl hI) rfl
 | o::l,M,B,σ,a,w,K,hI,h,hQ=>by
  have run:uH E o (dZ E ops l K) σ→o.wp E.P a w (wpList E.P ops Q (l ++ rest)) Q:=fun h =>
   vC hI h fun v σ' M' B' w' hK hG=>A7 l hG.inv hK fun σ2 M2 B2 a2 w2 hk hG2 hd=>hQ σ2 M2 B2 a2 w2 hk (hG.trans hG2) (by rw[hd,Act.put_defers'])
  have skip:bJ E o.dst (.tuple []) σ (dZ E ops l K)→wpList E.P ops Q (l ++ rest) (a.put o.dst undef) w:=fun h=>by
   unfold bJ at h
   split at h
   ·rename_i σ' hp
    have hG:=CV hI hp
    exact A7 l hG.inv h fun σ2 M2 B2 a2 w2 hk hG2 hd=>hQ σ2 M2 B2 a2 w2 hk (hG.trans hG2) (by rw[hd,Act.put_defers'])
   ·exact h.elim
  rw[dZ] at h
  rw[List.cons_append]
  unfold wpList
  split at h
  ·rename_i hg
   rw[if_pos (by simp[Region.wanted,hg])]
   exact .inl (run h)
  ·rename_i j want hg
   split at h
   ·rename_i hv
    rw[if_neg (by simp[Region.wanted,hg,gQ hI hv])]
    exact skip h
   ·rename_i b hv
    by_cases hb:b=want
    ·rw[if_pos (by simp[Region.wanted,hg,gQ hI hv,hb])]
     exact .inl (run (h.1 hb))
    ·rw[if_neg (by simp[Region.wanted,hg,gQ hI hv,hb])]
     exact skip (h.2 hb)
   ·exact h.elim
end
end Go.Proofs.YtcdceiloganlnaaGreatDoor
namespace Go.Proofs.YtcdceiloganlnaaGreatDoor
open Go.RowKit
def uX:Operand→Option Nat
 | .tmp t=>some t
 | _=>none
def qE (E:AE) (o:Oper):Option Nat :=
 match o.op with
 | .move x=>if dL E.mv o.dst then uX x else none
 | .assign x=>uX x
 | .store _ _ x=>uX x
 | .call c=>match c.callee with
  | .builtin .append=>(match c.args.toList with | [x,_]=>uX x | _=>none)
  | _=>none
 | _=>none
def roB (E:AE):Bool:=E.ln.any fun k=>Nat.ble 1000000 k
def VI (E:AE) (H H':aG):Prop:=∀ i,dL E.ln (some (1000000+i))=true→H[i]? = H'[i]?
def hk (E:AE) (o:Oper):Nat :=
 match o.op with
 | .load _ _=>if dL E.ln o.dst then (if roB E then 5 else 0) else if dL E.mv o.dst then 3 else 1
 | .alloc _=>if dL E.ln o.dst then (if roB E then 6 else 2) else 2
 | .box _ _=>if dL E.fz o.dst then 0 else 2
 | .store _ a _=>if dL E.mu (uI a) then 6 else 2
 | .buildSlice _ _ _=>if dL E.mu o.dst then 2 else 0
 | .makeSlice _ _ _=>if dL E.mu o.dst then 2 else 0
 | .makeMap _ _=>if dL E.ln o.dst then (if roB E then 6 else 2) else 2
 | .lookup _ _ _ _=>2
 | .mapUpdate _ _ _ _=>2
 | .insert _ m _ _=>if dL E.mu ((uI m).map (6000000 + ·)) then 6 else 2
 | .range _ _=>2
 | .next _ _=>2
 | .call c=>match c.callee with
  | .builtin .clear=>2
  | .builtin .copy=>2
  | .value _=>if dL E.sy o.dst then (if roB E then 6 else 2) else 0
  | _=>0
 | _=>0
def DV (c:Option Nat) (s:cZ):cZ :=
 match c with
 | none=>s
 | some t=>match bK t s with | some p=>iH t p.un s | none=>s
theorem fM (σ:ASt) (x:Operand):(σ.clr x).s=DV (uX x) σ.s∧(σ.clr x).h=σ.h:=by
 cases x with
 | tmp t=>simp only[ASt.clr,DV,uX]; cases bK t σ.s<;>exact ⟨rfl,rfl⟩
 | _=>exact ⟨rfl,rfl⟩
def MV (h:aG):aG:=h.map fun o=>o.map fun cs=>cs.map PV.un
def agree (o:Oper) (s s':cZ):Prop:=∀ t,Operand.tmp t∈o.op.operands→bK t s'=bK t s
section
variable {E:AE} {o:Oper} {σ σ':ASt}
theorem vX (h:agree o σ.s σ'.s) {x:Operand} (hx:x∈o.op.operands):σ'.ev x=σ.ev x:=by
 cases x with
 | tmp t=>exact h t hx
 | _=>rfl
theorem bZ (h:agree o σ.s σ'.s) {x:Operand} (hx:x∈o.op.operands):σ'.rd x=σ.rd x:=by
 unfold ASt.rd; rw[vX h hx]
theorem jV {rd rd':Operand→Option PV} {xs:List Operand} (h:∀ x,x∈xs→rd' x=rd x):bQ (xs.map rd')=bQ (xs.map rd):=by
 rw[List.map_congr_left h]
theorem BM {rd rd':Operand→Option PV}:∀ {xs:List (Nat×Operand)},(∀ x,x∈xs.map (·.2)→rd' x=rd x)→iG rd' xs=iG rd xs
 | [],_=>rfl
 | (i,x)::l,h=>by
  rw[iG,iG,h x (by simp),BM (xs:=l) (fun y hy=>h y (by simp at hy ⊢; exact .inr hy))]
theorem Y7 {P:Program} {rd rd':Operand→Option PV} {op:Op} (h:∀ x,x∈op.operands→rd' x=rd x):pop P rd' op=pop P rd op:=by
 cases op with
 | call c =>
  obtain ⟨callee,args,ts⟩:=c
  have ha:∀ x,x∈args.toList→rd' x=rd x:=fun x hx=>h x (by simp only[Op.operands,Call.operands]; exact Array.mem_append.2 (.inr (by simpa using hx)))
  simp only[pop,qZ]
  split
  ·split
   ·rename_i x t h1 h2
    rw[ha x (by rw[h1]; simp)]
   ·rfl
  ·rw[jV ha]
  ·rw[jV ha]
  ·rfl
 | makeFunc fn first caps =>
  have h1:∀ x,x∈first.toList→rd' x=rd x:=fun x hx=>h x (by simp only[Op.operands]; exact Array.mem_append.2 (.inl (by simpa using hx)))
  have h2:∀ x,x∈caps.toList→rd' x=rd x:=fun x hx=>h x (by simp only[Op.operands]; exact Array.mem_append.2 (.inr (by simpa using hx)))
  simp only[pop,jV h1,jV h2]
 | build t ps =>
  have:iG rd' ps.toList=iG rd ps.toList:=BM fun x hx=>h x (by simpa[Op.operands] using hx)
  simp only[pop,this]
 | slice t x lo hi mx =>
  cases mx with
  | some m =>
   cases lo with
   | none=>simp[pop]
   | some a =>
    cases hi with
    | none=>simp[pop]
    | some b=>simp only[pop,h x (by simp[Op.operands]),h a (by simp[Op.operands]),h b (by simp[Op.operands]),h m (by simp[Op.operands])]
  | none =>
   have hx:rd' x=rd x:=h x (by simp[Op.operands])
   cases lo with
   | none =>
    cases hi with
    | none=>simp only[pop,hx]
    | some b=>simp only[pop,hx,h b (by simp[Op.operands])]
   | some a =>
    cases hi with
    | none=>simp only[pop,hx,h a (by simp[Op.operands])]
    | some b=>simp only[pop,hx,h a (by simp[Op.operands]),h b (by simp[Op.operands])]
 | _=>simp_all[pop,Op.operands]
theorem aLA {h h':aG} (e:MV h'=MV h) {i:Nat} {cs:List PV} (hi:h[i]? = some (some cs)):∃ cs',h'[i]? = some (some cs')∧cs'.map PV.un=cs.map PV.un:=by
 have h1:=congrArg (·[i]?) e
 simp only[MV,List.getElem?_map,hi,Option.map_some] at h1
 cases hh:h'[i]? with
 | none=>rw[hh] at h1; simp at h1
 | some x =>
  rw[hh] at h1
  cases x with
  | none=>simp at h1
  | some cs'=>simp at h1; exact ⟨cs',rfl,h1⟩
theorem aFJ {I:TI} {q p:PV} {σ1:ASt} (h:jR false I q σ=some (p,σ1)) (hh:MV σ'.h=MV σ.h):σ1=σ∧jR false I q σ'=some (p,σ'):=by
 unfold jR at *
 cases q with
 | cst e =>
  simp only at h ⊢
  split at h
  ·rename_i hc; cases h; exact ⟨rfl,by rw[if_pos hc]⟩
  ·cases h
 | ptr i off =>
  simp only at h ⊢
  cases hi:σ.h[i]? with
  | none=>simp[hi] at h
  | some x =>
   cases x with
   | none=>simp[hi] at h
   | some cs =>
    obtain ⟨cs',h1,h2⟩:=aLA hh hi
    have hl:cs'.length=cs.length:=by have:=congrArg List.length h2; simpa using this
    simp only[hi] at h
    simp only[h1,hl]
    split at h
    ·rename_i hg
     rw[if_pos hg]
     split at h
     ·rename_i hf
      cases h
      refine ⟨rfl,?_⟩
      rw[if_pos hf]
      congr 3
      rw[List.map_take,List.map_drop,h2,List.map_take,List.map_drop]
     ·cases h
    ·rename_i hg
     rw[if_neg hg]
     cases hp:cs[off]? with
     | none=>simp[hp] at h
     | some p0 =>
      simp[hp] at h
      obtain ⟨rfl,rfl⟩:=h
      have h3:=congrArg (·[off]?) h2
      simp only[List.getElem?_map,hp,Option.map_some] at h3
      cases hp':cs'[off]? with
      | none=>rw[hp'] at h3; simp at h3
      | some p1=>rw[hp'] at h3; simp at h3; exact ⟨rfl,by simp[h3]⟩
 | _=>simp at h
theorem aO' {h:aG} {i off:Nat} {cs:List PV} {p0:PV} (hi:h[i]? = some (some cs)) (hp:cs[off]? = some p0):MV (h.set i (some (cs.set off p0.un)))=MV h:=by
 simp only[MV]
 apply List.ext_getElem?
 intro j
 rw[List.getElem?_map,List.getElem?_map]
 by_cases hj:i=j
 ·subst hj
  rw[List.getElem?_set_self (List.getElem?_eq_some_iff.1 hi).1,hi]
  simp only[Option.map_some,Option.some.injEq]
  apply List.ext_getElem?
  intro k
  rw[List.getElem?_map,List.getElem?_map]
  by_cases hkk:off=k
  ·subst hkk
   rw[List.getElem?_set_self (List.getElem?_eq_some_iff.1 hp).1,hp]; simp[b3E]
  ·rw[List.getElem?_set_ne hkk]
 ·rw[List.getElem?_set_ne hj]
theorem aHD {I:TI} {q p:PV} {σ1:ASt} (h:jR true I q σ=some (p,σ1)):σ1.s=σ.s∧(∀ σ':ASt,σ'.h=σ.h→jR true I q σ'=some (p,⟨σ'.s,σ1.h⟩))∧MV σ1.h=MV σ.h:=by
 have same:∀ σ':ASt,σ'.h=σ.h→(⟨σ'.s,σ.h⟩:ASt)=σ':=fun σ' e=>by cases σ'; simp only at e; rw[e]
 unfold jR at *
 cases q with
 | cst e =>
  simp only at h ⊢
  split at h
  ·rename_i hc; cases h; exact ⟨rfl,fun σ' e=>by rw[if_pos hc,same σ' e],rfl⟩
  ·cases h
 | ptr i off =>
  simp only at h ⊢
  cases hi:σ.h[i]? with
  | none=>simp[hi] at h
  | some x =>
   cases x with
   | none=>simp[hi] at h
   | some cs =>
    simp only[hi] at h
    split at h
    ·rename_i hg
     split at h
     ·rename_i hf
      cases h
      exact ⟨rfl,fun σ' e=>by simp only[e,hi]; rw[if_pos hg,if_pos hf,same σ' e],rfl⟩
     ·cases h
    ·rename_i hg
     cases hp:cs[off]? with
     | none=>simp[hp] at h
     | some p0 =>
      simp[hp] at h
      obtain ⟨rfl,rfl⟩:=h
      exact ⟨rfl,fun σ' e=>by simp only[e,hi]; rw[if_neg hg]; simp[hp],aO' hi hp⟩
 | _=>simp at h
theorem aUM {E:AE} {i:Nat} (h:dL E.ln (some (1000000+i))=true):roB E=true:=by
 unfold roB
 rw[List.any_eq_true]
 exact ⟨1000000+i,by simpa[dL] using h,by rw[Nat.ble_eq]; omega⟩
theorem O0 {I:TI} {q:PV} {σ σ1:ASt} {p:PV} (h:jR false I q σ=some (p,σ1)):σ1=σ∧∀ τ:ASt,(∀ i off,q = .ptr i off→τ.h[i]? = σ.h[i]?)→jR false I q τ=some (p,τ):=by
 unfold jR at h ⊢
 cases q with
 | cst e =>
  simp only at h ⊢
  split at h
  ·rename_i hc
   cases h
   exact ⟨rfl,fun τ _=>by rw[if_pos hc]⟩
  ·cases h
 | ptr i off =>
  simp only at h ⊢
  cases hc:σ.h[i]? with
  | none=>rw[hc] at h; cases h
  | some o =>
   rw[hc] at h
   cases o with
   | none=>cases h
   | some cs =>
    simp only at h
    split at h
    ·rename_i hg
     split at h
     ·rename_i hl
      cases h
      exact ⟨rfl,fun τ ht=>by rw[ht i off rfl,hc]; simp only; rw[if_pos hg,if_pos hl]⟩
     ·cases h
    ·rename_i hg
     cases hp:cs[off]? with
     | none=>rw[hp] at h; cases h
     | some p0 =>
      rw[hp] at h
      simp only[Bool.false_eq_true,if_false] at h
      cases h
      exact ⟨rfl,fun τ ht=>by rw[ht i off rfl,hc]; simp only; rw[if_neg hg,hp]; simp only[Bool.false_eq_true,if_false]⟩
 | _=>cases h
theorem NY {p:PV} {σ1:ASt} (h:aU E o σ=some (p,σ1)) (ha:agree o σ.s σ'.s) (hh:hk E o=0∨σ'.h=σ.h∨(hk E o=1∧MV σ'.h=MV σ.h)) :
 ∃ σ1',aU E o σ'=some (p,σ1')∧σ1.s=DV (qE E o) σ.s∧σ1'.s=DV (qE E o) σ'.s∧((hk E o=0∨hk E o=1)→σ1.h=σ.h∧σ1'.h=σ'.h)∧(σ'.h=σ.h→σ1'.h=σ1.h)∧(hk E o=3→MV σ1.h=MV σ.h):=by
 obtain ⟨dst,op,type,pos,after,guard⟩:=o
 cases op with
 | move x =>
  have hx:σ'.ev x=σ.ev x:=vX ha (by simp[Op.operands])
  simp only[aU] at h ⊢
  split at h
  ·rename_i hm
   cases he:σ.ev x with
   | none=>simp[he] at h
   | some q =>
    simp[he] at h; obtain ⟨rfl,rfl⟩:=h
    have c1:=fM σ x
    have c2:=fM σ' x
    have ht:qE E ⟨dst,.move x,type,pos,after,guard⟩=uX x:=by simp[qE,hm]
    rw[if_pos hm,hx,he,ht]
    exact ⟨_,rfl,c1.1,c2.1,fun _=>⟨c1.2,c2.2⟩,fun e=>by rw[c1.2,c2.2,e],fun e=>by simp[hk] at e⟩
  ·rename_i hm
   cases he:σ.rd x with
   | none=>simp[he] at h
   | some q =>
    simp[he] at h; obtain ⟨rfl,rfl⟩:=h
    have hr:σ'.rd x=σ.rd x:=bZ ha (by simp[Op.operands])
    have ht:qE E ⟨dst,.move x,type,pos,after,guard⟩=none:=by simp[qE,hm]
    rw[if_neg hm,hr,he,ht]
    exact ⟨_,rfl,rfl,rfl,fun _=>⟨rfl,rfl⟩,fun e=>e,fun _=>rfl⟩
 | assign x =>
  have hx:σ'.ev x=σ.ev x:=vX ha (by simp[Op.operands])
  simp only[aU] at h ⊢
  cases he:σ.ev x with
  | none=>simp[he] at h
  | some q =>
   simp[he] at h; obtain ⟨rfl,rfl⟩:=h
   have c1:=fM σ x
   have c2:=fM σ' x
   have ht:qE E ⟨dst,.assign x,type,pos,after,guard⟩=uX x:=rfl
   rw[hx,he,ht]
   exact ⟨_,rfl,c1.1,c2.1,fun _=>⟨c1.2,c2.2⟩,fun e=>by rw[c1.2,c2.2,e],fun e=>by simp[hk] at e⟩
 | alloc t =>
  simp only[aU] at h ⊢
  have hkn:hk E ⟨dst,.alloc t,type,pos,after,guard⟩≠0∧hk E ⟨dst,.alloc t,type,pos,after,guard⟩≠1∧hk E ⟨dst,.alloc t,type,pos,after,guard⟩≠3:=by
   simp only[hk]; split
   ·split<;>simp
   ·simp
  have hh':σ'.h=σ.h:=by rcases hh with h | h | h<;>first | exact h | exact absurd h hkn.1 | exact absurd h.1 hkn.2.1
  rw[hh']
  split at h
  ·cases h
  rename_i hro
  cases ht:ti E.P t with
  | none=>simp[ht] at h
  | some I =>
   simp[ht] at h; obtain ⟨rfl,rfl⟩:=h
   exact ⟨⟨σ'.s,σ.h ++ [some (a8P (dL E.mu dst) t σ.h.length I.zero)]⟩,by simp[hro,hh'],rfl,rfl,fun e=>e.elim (fun e=>absurd e hkn.1) (fun e=>absurd e hkn.2.1),fun e=>rfl,fun e=>absurd e hkn.2.2⟩
 | box t x =>
  simp only[aU] at h ⊢
  have hr:σ'.rd x=σ.rd x:=bZ ha (by simp[Op.operands])
  split at h
  ·rename_i hm
   rw[if_pos hm]
   cases hb:(σ.rd x).bind WN with
   | none=>simp[hb] at h
   | some e =>
    simp[hb] at h; obtain ⟨rfl,rfl⟩:=h
    exact ⟨σ',by simp[hr,hb],rfl,rfl,fun _=>⟨rfl,rfl⟩,fun e=>e,fun _=>rfl⟩
  ·rename_i hm
   rw[if_neg hm]
   have hh':σ'.h=σ.h:=by rcases hh with h | h | h<;>first | exact h | (simp[hk,hm] at h)
   cases hb:(σ.rd x).bind PV.newCells with
   | none=>simp[hb] at h
   | some cs =>
    simp[hb] at h; obtain ⟨rfl,rfl⟩:=h
    exact ⟨⟨σ'.s,σ'.h ++ [some cs]⟩,by simp[hr,hb,hh'],rfl,rfl,fun e=>by simp[hk,hm] at e,fun e=>by simp[e],fun e=>by simp[hk,hm] at e⟩
 | load t x =>
  simp only[aU] at h ⊢
  have hr:σ'.rd x=σ.rd x:=bZ ha (by simp[Op.operands])
  rw[hr]
  cases hI:ti E.P t with
  | none=>simp[hI] at h
  | some I =>
   cases hq:σ.rd x with
   | none=>simp[hI,hq] at h
   | some q =>
    simp only[hI,hq] at h ⊢
    cases hln:dL E.ln dst with
    | true =>
     rw[hln] at h
     simp only at h ⊢
     split at h
     ·rename_i hok
      have hp:=O0 h
      refine ⟨σ',?_,by rw[hp.1]; rfl,rfl,fun _=>⟨by rw[hp.1],rfl⟩,fun e=>by rw[hp.1]; exact e,fun e=>by simp only[hk,hln,if_true] at e; split at e<;>omega⟩
      refine hp.2 σ' ?_
      cases q with
      | ptr i off =>
       have hm:dL E.ln (some (1000000+i))=true:=hok
       have hro:roB E=true:=aUM hm
       have hne:hk E ⟨dst,.load t x,type,pos,after,guard⟩=5:=by simp only[hk,hln,if_true,hro]
       rcases hh with h' | h' | h'
       ·rw[hne] at h'; omega
       ·intro j o' e; cases e; rw[h']
       ·rw[hne] at h'; omega
      | _=>intro j o' e; cases e
     ·cases h
    | false =>
    rw[hln] at h
    simp only at h ⊢
    cases hm:dL E.mv dst with
    | false =>
     rw[hm] at h
     have hun:MV σ'.h=MV σ.h:=by
      rcases hh with h | h | h
      ·simp[hk,hln,hm] at h
      ·rw[h]
      ·exact h.2
     obtain ⟨rfl,h2⟩:=aFJ h hun
     exact ⟨σ',h2,rfl,rfl,fun _=>⟨rfl,rfl⟩,fun e=>e,fun e=>by simp[hk,hln,hm] at e⟩
    | true =>
     rw[hm] at h
     have hh':σ'.h=σ.h:=by rcases hh with h | h | h<;>first | exact h | (simp[hk,hln,hm] at h)
     obtain ⟨k1,k2,k3⟩:=aHD h
     exact ⟨⟨σ'.s,σ1.h⟩,k2 σ' hh',k1,rfl,fun e=>by simp[hk,hln,hm] at e,fun _=>rfl,fun _=>k3⟩
 | store t x y =>
  simp only[aU] at h ⊢
  have hk26:hk E ⟨dst,.store t x y,type,pos,after,guard⟩=2∨hk E ⟨dst,.store t x y,type,pos,after,guard⟩=6:=by
   simp only[hk]
   split
   ·exact .inr rfl
   ·exact .inl rfl
  have hh':σ'.h=σ.h:=by rcases hh with h | h | h<;>first | exact h | (exfalso; omega) | (exfalso; have:=h.1; omega)
  have hr:σ'.rd x=σ.rd x:=bZ ha (by simp[Op.operands])
  have hy:σ'.ev y=σ.ev y:=vX ha (by simp[Op.operands])
  have c1:=fM σ y
  have c2:=fM σ' y
  have ht:qE E ⟨dst,.store t x y,type,pos,after,guard⟩=uX y:=rfl
  rw[hr,hy]
  cases hso:aD7 E.mu E.ln (uI x) (σ.rd x) with
  | false=>rw[hso] at h; cases h
  | true =>
  rw[hso] at h
  simp only at h ⊢
  cases hI:ti E.P t with
  | none=>simp[hI] at h
  | some I =>
   cases hq:σ.rd x with
   | none=>simp[hI,hq] at h
   | some q =>
    cases hp:σ.ev y with
    | none=>simp[hI,hq,hp] at h
    | some p' =>
     cases dst with
     | some d=>simp[hI,hq,hp] at h
     | none =>
      simp only[hI,hq,hp] at h ⊢
      have key:∀ τ:ASt,τ.h=σ.h→∀ τ1,kQ I q p' τ=some τ1→τ1.s=τ.s∧∀ τ':ASt,τ'.h=σ.h→kQ I q p' τ'=some ⟨τ'.s,τ1.h⟩:=by
       intro τ hτ τ1 h1
       unfold kQ at h1 ⊢
       cases q with
       | ptr i off =>
        simp only[hτ] at h1
        split at h1
        ·rename_i cs hcs
         split at h1
         ·split at h1
          ·rename_i hc; cases h1; exact ⟨rfl,fun τ' e=>by simp only[e,hcs]; rw[if_pos hc]⟩
          ·cases h1
         ·rename_i hna
          split at h1
          ·rename_i hc; cases h1
           refine ⟨rfl,fun τ' e => ?_⟩
           simp only[e,hcs]
           cases p' with
           | agg ds=>exact absurd rfl (hna ds)
           | _=>rw[if_pos hc]
          ·cases h1
        ·cases h1
       | _=>simp at h1
      cases hst:kQ I q p' (σ.clr y) with
      | none=>simp[hst] at h
      | some τ1 =>
       simp[hst] at h; obtain ⟨rfl,rfl⟩:=h
       obtain ⟨k1,k2⟩:=key (σ.clr y) c1.2 τ1 hst
       have k3:=k2 (σ'.clr y) (by rw[c2.2,hh'])
       refine ⟨⟨(σ'.clr y).s,τ1.h⟩,by rw[k3]; rfl,by rw[k1,ht]; exact c1.1,by rw[ht]; exact c2.1,fun e=>by exfalso; omega,fun _=>rfl,fun e=>by exfalso; omega⟩
 | buildSlice t len ps =>
  have hp:∀ zs,iG (σ'.rdT zs) ps.toList=iG (σ.rdT zs) ps.toList:=fun zs=>BM fun x hx=>by unfold ASt.rdT; rw[bZ ha (by simpa[Op.operands] using hx)]
  simp only[aU,hp] at h ⊢
  cases hT:dO E.P t with
  | none=>simp[hT] at h
  | some I =>
   cases hq:iG (σ.rdT (elT E.P t)) ps.toList with
   | none=>simp[hT,hq] at h
   | some qs =>
    simp only[hT,hq] at h ⊢
    cases he:pG I.size 0 qs with
    | none=>simp[he] at h
    | some es =>
     simp only[he] at h ⊢
     split at h
     ·rename_i hc
      rw[if_pos hc]
      split at h
      ·rename_i hm
       have hh':σ'.h=σ.h:=by rcases hh with h | h | h<;>first | exact h | (simp[hk,hm] at h)
       cases h
       rw[if_pos hm]
       exact ⟨⟨σ'.s,σ'.h ++ [some (aX es)]⟩,by simp[hh'],rfl,rfl,fun e=>by simp[hk,hm] at e,fun e=>by simp[e],fun e=>by simp[hk,hm] at e⟩
      ·rename_i hm
       rw[if_neg hm]
       split at h
       ·split at h
        ·cases h
         exact ⟨σ',by simp_all,rfl,rfl,fun _=>⟨rfl,rfl⟩,fun e=>e,fun _=>rfl⟩
        ·cases h
       ·cases h
        exact ⟨σ',by simp_all,rfl,rfl,fun _=>⟨rfl,rfl⟩,fun e=>e,fun _=>rfl⟩
     ·cases h
 | makeSlice t l c =>
  have hl:σ'.rd l=σ.rd l:=bZ ha (by simp[Op.operands])
  have hc:σ'.rd c=σ.rd c:=bZ ha (by simp[Op.operands])
  simp only[aU] at h ⊢
  rw[hl,hc]
  split at h
  ·split at h
   ·rename_i hcond
    rw[if_pos hcond]
    split at h
    ·rename_i hm
     cases h
     have hh':σ'.h=σ.h:=by rcases hh with h | h | h<;>first | exact h | (simp[hk,hm] at h)
     rw[if_pos hm]
     exact ⟨⟨σ'.s,σ'.h ++ [some (lN _ _)]⟩,by rw[hh'],rfl,rfl,fun e=>by simp[hk,hm] at e,fun e=>by rw[e],fun e=>by simp[hk,hm] at e⟩
    ·rename_i hm
     rw[if_neg hm]
     split at h
     ·rename_i hz
      cases h
      rw[if_pos hz]
      exact ⟨σ',rfl,rfl,rfl,fun _=>⟨rfl,rfl⟩,fun e=>e,fun _=>rfl⟩
     ·cases h
   ·cases h
  ·cases h
 | call c =>
  obtain ⟨callee,args,ts⟩:=c
  have hargs:∀ x,x∈args.toList→x∈(Op.call ⟨callee,args,ts⟩).operands:=fun x hx=>by simp only[Op.operands,Call.operands]; exact Array.mem_append.2 (.inr (by simpa using hx))
  simp only[aU] at h ⊢
  split at h
  ·have hh':σ'.h=σ.h:=by rcases hh with h | h | h<;>first | exact h | (simp[hk] at h)
   split at h
   ·rename_i x y t u h1 h2
    have hx:σ'.rd x=σ.rd x:=bZ ha (hargs x (by rw[h1]; simp))
    have hy:σ'.rd y=σ.rd y:=bZ ha (hargs y (by rw[h1]; simp))
    have hcs:∀ sz q,pJ σ' sz q=pJ σ sz q:=fun sz q=>by unfold pJ; simp only[hh']
    rw[hx,hy]
    simp only[hcs,hh']
    split at h
    ·rename_i I i off m sz q _ _ _
     split at h
     ·rename_i cs m2 cells _ _
      split at h
      ·rename_i hc
       cases h
       exact ⟨⟨σ'.s,σ.h.set i (some (cs.take off ++ cells.take (Nat.min m2 m*sz) ++ cs.drop (off+Nat.min m2 m*sz)))⟩,by rw[if_pos hc,← hh'],rfl,rfl,fun e=>by simp[hk] at e,fun e=>rfl,fun e=>by simp[hk] at e⟩
      ·cases h
     ·cases h
    ·cases h
   ·cases h
  ·have hh':σ'.h=σ.h:=by rcases hh with h | h | h<;>first | exact h | (simp[hk] at h)
   split at h
   ·rename_i x t h1 h2
    have hx:σ'.rd x=σ.rd x:=bZ ha (hargs x (by rw[h1]; simp))
    split at h
    ·rename_i I j off m sz hT hx1
     split at h
     ·rename_i cs hcs
      split at h
      ·rename_i hc
       cases h
       exact ⟨⟨σ'.s,σ'.h.set j (some (cs.take off ++ (lN m I).map PV.un ++ cs.drop (off+m*sz)))⟩,by rw[hx,hx1,hh',hT]; simp only[hcs]; rw[if_pos hc],rfl,rfl,fun e=>by simp[hk] at e,fun e=>by rw[e],fun e=>by simp[hk] at e⟩
      ·cases h
     ·cases h
    ·rename_i I o' z' hT hx1
     cases h
     exact ⟨σ',by rw[hx,hx1,hT],rfl,rfl,fun e=>by simp[hk] at e,fun e=>e,fun e=>by simp[hk] at e⟩
    ·cases h
   ·cases h
  ·split at h
   ·rename_i s x t u h1 h2
    have hs:σ'.ev s=σ.ev s:=vX ha (hargs s (by rw[h1]; simp))
    have hx:σ'.rd x=σ.rd x:=bZ ha (hargs x (by rw[h1]; simp))
    rw[hs,hx]
    split at h
    ·rename_i I sz es o' sz' es' hT hs' hx'
     split at h
     ·rename_i hc
      cases h
      have c1:=fM σ s
      have c2:=fM σ' s
      have ht:qE E ⟨dst,.call ⟨.builtin .append,args,ts⟩,type,pos,after,guard⟩=uX s:=by simp only[qE,h1]
      rw[ht]
      refine ⟨σ'.clr s,?_,c1.1,c2.1,fun _=>⟨c1.2,c2.2⟩,fun e=>by rw[c1.2,c2.2,e],fun e=>by simp[hk] at e⟩
      rw[if_pos hc]
     ·cases h
    ·rename_i I sz es b hT hs' hx'
     split at h
     ·rename_i hc
      cases h
      have c1:=fM σ s
      have c2:=fM σ' s
      have ht:qE E ⟨dst,.call ⟨.builtin .append,args,ts⟩,type,pos,after,guard⟩=uX s:=by simp only[qE,h1]
      rw[ht]
      refine ⟨σ'.clr s,?_,c1.1,c2.1,fun _=>⟨c1.2,c2.2⟩,fun e=>by rw[c1.2,c2.2,e],fun e=>by simp[hk] at e⟩
      rw[if_pos hc]
     ·cases h
    ·rename_i I k sz cs o' sz' es' hT hs' hx'
     split at h
     ·rename_i hc
      cases h
      have c1:=fM σ s
      have c2:=fM σ' s
      have ht:qE E ⟨dst,.call ⟨.builtin .append,args,ts⟩,type,pos,after,guard⟩=uX s:=by simp only[qE,h1]
      rw[ht]
      refine ⟨σ'.clr s,?_,c1.1,c2.1,fun _=>⟨c1.2,c2.2⟩,fun e=>by rw[c1.2,c2.2,e],fun e=>by simp[hk] at e⟩
      rw[if_pos hc]
     ·cases h
    ·rename_i I l b hT hs' hx'
     split at h
     ·rename_i hc
      cases h
      have c1:=fM σ s
      have c2:=fM σ' s
      have ht:qE E ⟨dst,.call ⟨.builtin .append,args,ts⟩,type,pos,after,guard⟩=uX s:=by simp only[qE,h1]
      rw[ht]
      refine ⟨σ'.clr s,?_,c1.1,c2.1,fun _=>⟨c1.2,c2.2⟩,fun e=>by rw[c1.2,c2.2,e],fun e=>by simp[hk] at e⟩
      rw[if_pos hc]
     ·cases h
    ·rename_i I l o' sz' es' hT hs' hx'
     split at h
     ·rename_i c hob
      split at h
      ·rename_i hc
       cases h
       have c1:=fM σ s
       have c2:=fM σ' s
       have ht:qE E ⟨dst,.call ⟨.builtin .append,args,ts⟩,type,pos,after,guard⟩=uX s:=by simp only[qE,h1]
       rw[ht]
       refine ⟨σ'.clr s,?_,c1.1,c2.1,fun _=>⟨c1.2,c2.2⟩,fun e=>by rw[c1.2,c2.2,e],fun e=>by simp[hk] at e⟩
       first | rw[if_pos hc] | (rw[hob]; rw[if_pos hc]) | (simp only[hob]; exact if_pos hc)
      ·cases h
     ·cases h
    ·cases h
   ·cases h
  ·rename_i hne
   have hpc:qZ E.P σ'.rd ⟨callee,args,ts⟩=qZ E.P σ.rd ⟨callee,args,ts⟩:=by
    have:=Y7 (P:=E.P) (rd:=σ.rd) (rd':=σ'.rd) (op := .call ⟨callee,args,ts⟩) fun x hx=>bZ ha hx
    simpa only[pop] using this
   rw[hpc]
   cases hp:qZ E.P σ.rd ⟨callee,args,ts⟩ with
   | none=>simp[hp] at h
   | some q =>
    simp[hp] at h; obtain ⟨rfl,rfl⟩:=h
    have ht:qE E ⟨dst,.call ⟨callee,args,ts⟩,type,pos,after,guard⟩=none:=by
     simp only[qE]
    rw[ht]
    exact ⟨σ',rfl,rfl,rfl,fun _=>⟨rfl,rfl⟩,fun e=>e,fun _=>rfl⟩
 | makeMap t r =>
  simp only[aU] at h ⊢
  have hkn:hk E ⟨dst,.makeMap t r,type,pos,after,guard⟩≠0∧hk E ⟨dst,.makeMap t r,type,pos,after,guard⟩≠1∧hk E ⟨dst,.makeMap t r,type,pos,after,guard⟩≠3:=by
   simp only[hk]; split
   ·split<;>simp
   ·simp
  have hh':σ'.h=σ.h:=by rcases hh with h | h | h<;>first | exact h | exact absurd h hkn.1 | exact absurd h.1 hkn.2.1
  rw[hh']
  split at h
  ·cases h
  rename_i hro
  split at h
  ·rename_i ht
   cases h
   exact ⟨⟨σ'.s,σ.h ++ [some [qO (dL E.mu dst) []]]⟩,by simp[hro,hh'],rfl,rfl,fun e=>e.elim (fun e=>absurd e hkn.1) (fun e=>absurd e hkn.2.1),fun e=>rfl,fun e=>absurd e hkn.2.2⟩
  ·cases h
 | lookup t m k ok =>
  have hh':σ'.h=σ.h:=by rcases hh with h | h | h<;>first | exact h | (simp[hk] at h)
  have hm:σ'.rd m=σ.rd m:=bZ ha (by simp[Op.operands])
  have hkk:σ'.rd k=σ.rd k:=bZ ha (by simp[Op.operands])
  simp only[aU] at h ⊢
  rw[hh',hm,hkk]
  split at h
  ·rename_i s z i q ht h1 h2
   split at h
   ·rename_i cs hcs
    split at h
    ·rename_i b L hin
     split at h
     ·rename_i r hik hg
      cases h
      exact ⟨σ',by simp only[hcs,hin,hik,hg],rfl,rfl,fun e=>by simp[hk] at e,fun _=>hh',fun e=>by simp[hk] at e⟩
     ·cases h
    ·cases h
   ·cases h
  ·cases h
 | mapUpdate t m k x =>
  have hh':σ'.h=σ.h:=by rcases hh with h | h | h<;>first | exact h | (simp[hk] at h)
  have hm:σ'.rd m=σ.rd m:=bZ ha (by simp[Op.operands])
  have hkk:σ'.rd k=σ.rd k:=bZ ha (by simp[Op.operands])
  have hx:σ'.rd x=σ.rd x:=bZ ha (by simp[Op.operands])
  simp only[aU] at h ⊢
  rw[hh',hm,hkk,hx]
  split at h
  ·rename_i s z i q y ht h1 h2 h3
   split at h
   ·rename_i cs hcs
    split at h
    ·rename_i b L hin
     split at h
     ·rename_i hik
      cases h
      exact ⟨⟨σ'.s,σ.h.set i (some [qO b (eG s L q y)])⟩,by simp only[hcs,hin,hik],rfl,rfl,fun e=>by simp[hk] at e,fun _=>rfl,fun e=>by simp[hk] at e⟩
     ·cases h
    ·cases h
   ·cases h
  ·cases h
 | insert t m k x =>
  have hkn:hk E ⟨dst,.insert t m k x,type,pos,after,guard⟩≠0∧hk E ⟨dst,.insert t m k x,type,pos,after,guard⟩≠1∧hk E ⟨dst,.insert t m k x,type,pos,after,guard⟩≠3:=by
   simp only[hk]; split<;>simp
  have hh':σ'.h=σ.h:=by rcases hh with h | h | h<;>first | exact h | exact absurd h hkn.1 | exact absurd h.1 hkn.2.1
  have hm:σ'.rd m=σ.rd m:=bZ ha (by simp[Op.operands])
  have hkk:σ'.rd k=σ.rd k:=bZ ha (by simp[Op.operands])
  have hx:σ'.rd x=σ.rd x:=bZ ha (by simp[Op.operands])
  simp only[aU] at h ⊢
  rw[hh',hm,hkk,hx]
  split at h
  ·cases h
  rename_i hso
  split at h
  ·rename_i s z i q y ht h1 h2 h3
   split at h
   ·rename_i cs hcs
    split at h
    ·rename_i b L hin
     split at h
     ·rename_i hik
      cases h
      exact ⟨⟨σ'.s,σ.h.set i (some [qO b (eG s L q y)])⟩,by simp only[hso,hcs,hin,hik],rfl,rfl,fun e=>e.elim (fun e=>absurd e hkn.1) (fun e=>absurd e hkn.2.1),fun _=>rfl,fun e=>absurd e hkn.2.2⟩
     ·cases h
    ·cases h
   ·cases h
  ·cases h
 | range t x =>
  have hh':σ'.h=σ.h:=by rcases hh with h | h | h<;>first | exact h | (simp[hk] at h)
  have hx:σ'.rd x=σ.rd x:=bZ ha (by simp[Op.operands])
  simp only[aU] at h ⊢
  rw[hh',hx]
  split at h
  ·rename_i s ht hs
   cases h
   exact ⟨⟨σ'.s,σ.h ++ [some [wU s 0]]⟩,by simp only[ht,hs],rfl,rfl,fun e=>by simp[hk] at e,fun _=>rfl,fun e=>by simp[hk] at e⟩
  ·cases h
 | next x b =>
  have hh':σ'.h=σ.h:=by rcases hh with h | h | h<;>first | exact h | (simp[hk] at h)
  have hx:σ'.rd x=σ.rd x:=bZ ha (by simp[Op.operands])
  simp only[aU] at h ⊢
  rw[hh',hx]
  split at h
  ·rename_i T i hx2
   split at h
   ·rename_i cs hcs
    split at h
    ·rename_i s p hin
     split at h
     ·rename_i hT
      split at h
      ·rename_i hp
       cases h
       exact ⟨⟨σ'.s,σ.h.set i (some [wU s (MI s p)])⟩,by simp only[hx2,hcs,hin,hT,hp],rfl,rfl,fun e=>by simp[hk] at e,fun _=>rfl,fun e=>by simp[hk] at e⟩
      ·rename_i hp
       cases h
       exact ⟨σ',by simp only[hx2,hcs,hin,hT,hp],rfl,rfl,fun e=>by simp[hk] at e,fun _=>hh',fun e=>by simp[hk] at e⟩
     ·cases h
    ·cases h
   ·cases h
  ·cases h
 | _ =>
  simp only[aU] at h ⊢
  rw[Y7 (P:=E.P) (rd:=σ.rd) (rd':=σ'.rd) fun x hx=>bZ ha hx]
  generalize pop E.P σ.rd _=r at h ⊢
  cases r with
  | none=>simp at h
  | some q =>
   simp at h; obtain ⟨rfl,rfl⟩:=h
   exact ⟨σ',rfl,rfl,rfl,fun _=>⟨rfl,rfl⟩,fun e=>e,fun _=>rfl⟩
end
end Go.Proofs.YtcdceiloganlnaaGreatDoor
namespace Go.Proofs.YtcdceiloganlnaaGreatDoor
open Go.RowKit
theorem aAK:∀ {s s':cZ},yT s→yT s'→(∀ k,bK k s=bK k s')→s=s'
 | [],[],_,_,_=>rfl
 | [],(j,q)::l,_,_,h=>by have:=h j; simp[bK] at this
 | (j,q)::l,[],_,_,h=>by have:=h j; simp[bK] at this
 | (j,q)::l,(j',q')::l',h1,h2,h=>by
  obtain ⟨a1,a2⟩:=srt_cons.1 h1
  obtain ⟨b1,b2⟩:=srt_cons.1 h2
  have hj:j=j':=by
   rcases Nat.lt_trichotomy j j' with hlt | he | hgt
   ·have:=h j
    rw[bK,if_pos rfl,bK,if_neg (by omega),rV (fun a ha=>by have:=b1 a ha; simp at this; omega)] at this
    cases this
   ·exact he
   ·have:=h j'
    rw[bK,if_neg (by omega),rV (fun a ha=>by have:=a1 a ha; simp at this; omega),bK,if_pos rfl] at this
    cases this
  subst hj
  have hq:q=q':=by have:=h j; simpa[bK] using this
  subst hq
  congr 1
  refine aAK a2 b2 fun k => ?_
  by_cases e:j=k
  ·subst e
   rw[rV (fun a ha=>by have:=a1 a ha; simpa using this),rV (fun a ha=>by have:=b1 a ha; simpa using this)]
  ·have:=h k
   rwa [bK,if_neg e,bK,if_neg e] at this
def zN (d:Option Nat) (p:PV) (s:cZ):cZ:=match d with | some k=>iH k p s | none=>s
theorem nS {d:Option Nat} {p:PV} {s:cZ} (h:yT s):yT (zN d p s):=by cases d<;>first | exact h | exact kV h
theorem qG {c:Option Nat} {s:cZ} (h:yT s):yT (DV c s):=by
 unfold DV; split
 ·exact h
 ·split
  ·exact kV h
  ·exact h
theorem wH {d:Option Nat} {p:PV} {s:cZ} (h:yT s) (k:Nat):bK k (zN d p s)=if d=some k then some p else bK k s:=by
 cases d with
 | none=>simp[zN]
 | some j=>simp only[zN,jG k h,Option.some.injEq]
theorem wJ {c:Option Nat} {s:cZ} (h:yT s) (k:Nat):bK k (DV c s)=if c=some k then (bK k s).map PV.un else bK k s:=by
 cases c with
 | none=>simp[DV]
 | some j =>
  simp only[DV,Option.some.injEq]
  cases hj:bK j s with
  | none =>
   simp only
   split
   ·rename_i e; subst e; rw[hj]; rfl
   ·rfl
  | some q =>
   simp only[jG k h]
   split
   ·rename_i e; subst e; rw[hj]; rfl
   ·rfl
theorem aGT {d1 d2 c1 c2:Option Nat} {p1 p2:PV} {s:cZ} (h:yT s) (e1:∀ k,d1=some k→d2≠some k∧c2≠some k) (e2:∀ k,c1=some k→d2≠some k∧c2≠some k) :
 zN d1 p1 (DV c1 (zN d2 p2 (DV c2 s)))=zN d2 p2 (DV c2 (zN d1 p1 (DV c1 s))):=by
 have s1:=qG (c:=c1) h
 have s2:=qG (c:=c2) h
 refine aAK (nS (qG (nS s2))) (nS (qG (nS s1))) fun k => ?_
 rw[wH (qG (nS s2)),wJ (nS s2),wH s2,wJ h,wH (qG (nS s1)),wJ (nS s1),wH s1,wJ h]
 by_cases a1:d1=some k
 ·obtain ⟨x1,x2⟩:=e1 k a1
  rw[if_pos a1,if_neg x1,if_neg x2,if_pos a1]
 ·rw[if_neg a1,if_neg a1]
  by_cases a2:c1=some k
  ·obtain ⟨x1,x2⟩:=e2 k a2
   rw[if_pos a2,if_neg x1,if_neg x2,if_neg x1,if_neg x2,if_pos a2]
  ·rw[if_neg a2,if_neg a2]
def XI (ops:Array Oper) (σ:ASt) (o:Oper):Option Bool :=
 match o.guard with
 | none=>some true
 | some (j,want)=>(OG ops σ j).map fun x=>x==some want
theorem hk5 {E:AE} {o:Oper} (h:hk E o=5):∃ t x,o.op = .load t x∧dL E.ln o.dst=true:=by
 unfold hk at h
 split at h
 ·rename_i t x hop
  split at h
  ·rename_i hl; exact ⟨t,x,hop,hl⟩
  ·split at h<;>omega
 all_goals first | omega | (split at h<;>omega) | skip
 all_goals (split at h<;>first | omega | (split at h<;>first | omega | (split at h<;>omega)))
theorem a1Z {E:AE} {o:Oper} {σ σ' σ1:ASt} {p:PV} (h:aU E o σ=some (p,σ1)) (h5:hk E o=5) (ha:agree o σ.s σ'.s) (hr:VI E σ'.h σ.h):σ1=σ∧aU E o σ'=some (p,σ')∧qE E o=none:=by
 obtain ⟨t,x,hop,hl⟩:=hk5 h5
 obtain ⟨dst,op,type,pos,after,guard⟩:=o
 simp only at hop hl
 subst hop
 simp only[aU] at h ⊢
 have hrd:σ'.rd x=σ.rd x:=bZ ha (by simp[Op.operands])
 rw[hrd]
 cases hI:ti E.P t with
 | none=>simp[hI] at h
 | some I =>
  cases hq:σ.rd x with
  | none=>simp[hI,hq] at h
  | some q =>
   simp only[hI,hq,hl] at h ⊢
   split at h
   ·rename_i hok
    have hp:=O0 h
    refine ⟨hp.1,?_,rfl⟩
    refine hp.2 σ' fun i off e => ?_
    subst e
    exact hr i hok
   ·cases h
def stepD (E:AE) (o:Oper) (σ σ':ASt):Prop:=∃ p σ1,aU E o σ=some (p,σ1)∧eY E o σ∧ASt.put E o.dst p σ1=some σ'
def b2H (E:AE) (o:Oper) (f:Operand) (args:List Operand) (σ σ':ASt):Prop :=
 ∃ g first caps az r,σ.rd f=some (.func (.func g) first caps)∧bQ (args.map σ.rd)=some az ∧
  ((Ev E.P g (first ++ az ++ caps) [] r []∧r.flat=true∧PV.flats (first ++ az ++ caps)=true∧ASt.put E o.dst r σ=some σ') ∨
   (dL E.sy o.dst=true∧∃ h',Ev E.P g (first ++ az ++ caps) σ.h r h'∧VI E h' σ.h∧ASt.put E o.dst r { σ with h:=h' }=some σ'))
abbrev kE (o:Oper):Option (Operand×List Operand) :=
 match o.op with
 | .call c=>match c.callee with
  | .value f=>some (f,c.args.toList)
  | _=>none
 | _=>none
theorem hk6 {E:AE} {o:Oper} (h:hk E o=6):kE o≠none∨(∃ t a x,o.op = .store t a x∧dL E.mu (uI a)=true)∨(∃ t,o.op = .alloc t∧dL E.ln o.dst=true)∨(∃ t r,o.op = .makeMap t r∧dL E.ln o.dst=true)∨∃ t m k x,o.op = .insert t m k x∧dL E.mu ((uI m).map (6000000 + ·))=true:=by
 obtain ⟨dst,op,type,pos,after,guard⟩:=o
 cases op with
 | call c =>
  left
  obtain ⟨callee,cargs,ts⟩:=c
  cases callee with
  | value f=>simp[kE]
  | builtin b =>
   cases b<;>simp[hk] at h
  | _=>simp[hk] at h
 | store t a x =>
  right; left
  simp only[hk] at h
  split at h
  ·rename_i hm; exact ⟨t,a,x,rfl,hm⟩
  ·omega
 | alloc t =>
  right; right; left
  simp only[hk] at h
  split at h
  ·rename_i hm; exact ⟨t,rfl,hm⟩
  ·omega
 | makeMap t r =>
  right; right; right; left
  simp only[hk] at h
  split at h
  ·rename_i hm; exact ⟨t,r,rfl,hm⟩
  ·omega
 | insert t m k x =>
  right; right; right; right
  simp only[hk] at h
  split at h
  ·rename_i hm; exact ⟨t,m,k,x,rfl,hm⟩
  ·omega
 | load t x =>
  exfalso
  simp only[hk] at h
  split at h
  ·split at h<;>omega
  ·split at h<;>omega
 | _=>exfalso; simp only[hk] at h<;>first | omega | (split at h<;>omega)
theorem aDC {E:AE} {o:Oper} {σ σ1:ASt} {p:PV} (h:aU E o σ=some (p,σ1)) (h6:hk E o=6) (hc:kE o=none):VI E σ1.h σ.h:=by
 have far:∀ {n:Nat},aBY E.ln n=true→∀ i,dL E.ln (some (1000000+i))=true→i<n:=fun {n} hro i hi=>by
  have hmi:1000000+i∈E.ln:=by simpa[dL] using hi
  have:=List.all_eq_true.1 hro _ hmi
  rw[show Nat.ble 1000000 (1000000+i)=true by rw[Nat.ble_eq]; omega,Nat.add_sub_cancel_left] at this
  simpa[Nat.blt_eq] using this
 rcases hk6 h6 with h' | ⟨t,a,x,hop,hm⟩ | ⟨t,hop,hm⟩ | ⟨t,r,hop,hm⟩ | ⟨t,m,k,x,hop,hm⟩
 ·exact absurd hc h'
 case inr.inr.inr.inl =>
  obtain ⟨dst,op,type,pos,after,guard⟩:=o
  simp only at hop hm
  subst hop
  simp only[aU,hm,Bool.true_and] at h
  split at h
  ·cases h
  ·rename_i hro
   split at h
   ·cases h
    intro i hi
    exact List.getElem?_append_left (far (by simpa using hro) i hi)
   ·cases h
 case inr.inr.inr.inr =>
  obtain ⟨dst,op,type,pos,after,guard⟩:=o
  simp only at hop hm
  subst hop
  simp only[aU] at h
  split at h
  ·cases h
  rename_i hso
  unfold a4M at hso
  rw[hm] at hso
  split at h
  ·rename_i s z i q y ht h1 h2 h3
   rw[h1] at hso
   simp only[Bool.not_eq_true'] at hso
   split at h
   ·split at h
    ·split at h
     ·cases h
      intro j hj
      have hne:i≠j:=fun e=>by subst e; rw[hj] at hso; cases hso
      exact List.getElem?_set_ne hne
     ·cases h
    ·cases h
   ·cases h
  ·cases h
 case inr.inr.inl =>
  obtain ⟨dst,op,type,pos,after,guard⟩:=o
  simp only at hop hm
  subst hop
  simp only[aU,hm,Bool.true_and] at h
  split at h
  ·cases h
  ·rename_i hro
   cases ht:ti E.P t with
   | none=>simp[ht] at h
   | some I =>
    simp[ht] at h; obtain ⟨_,rfl⟩:=h
    intro i hi
    have hmi:1000000+i∈E.ln:=by simpa[dL] using hi
    have hro:aBY E.ln σ.h.length=true:=by simpa using hro
    have:=List.all_eq_true.1 hro _ hmi
    rw[show Nat.ble 1000000 (1000000+i)=true by rw[Nat.ble_eq]; omega,Nat.add_sub_cancel_left] at this
    have hlt:i<σ.h.length:=by simpa[Nat.blt_eq] using this
    exact List.getElem?_append_left hlt
 obtain ⟨dst,op,type,pos,after,guard⟩:=o
 simp only at hop
 subst hop
 simp only[aU] at h
 split at h
 ·cases h
 rename_i hso
 cases hI:ti E.P t with
 | none=>simp[hI] at h
 | some I =>
  cases hq:σ.rd a with
  | none=>simp[hI,hq] at h
  | some q =>
   cases hp:σ.ev x with
   | none=>simp[hI,hq,hp] at h
   | some p' =>
    cases dst with
    | some d=>simp[hI,hq,hp] at h
    | none =>
     simp only[hI,hq,hp] at h
     cases hst:kQ I q p' (σ.clr x) with
     | none=>simp[hst] at h
     | some τ =>
      simp[hst] at h
      obtain ⟨_,rfl⟩:=h
      have hcl:=(fM σ x).2
      unfold aD7 at hso
      rw[hm,hq] at hso
      cases q with
      | ptr i off =>
       simp only[Bool.not_eq_true'] at hso
       have key:∃ cs,τ.h=(σ.clr x).h.set i cs:=by
        unfold kQ at hst
        simp only at hst
        split at hst
        ·split at hst
         ·split at hst
          ·cases hst; exact ⟨_,rfl⟩
          ·cases hst
         ·split at hst
          ·cases hst; exact ⟨_,rfl⟩
          ·cases hst
        ·cases hst
       obtain ⟨cs,hk⟩:=key
       intro j hj
       have hne:i≠j:=fun e=>by subst e; rw[hj] at hso; cases hso
       rw[hk,List.getElem?_set_ne hne,hcl]
      | _=>simp at hso
def QB (E:AE) (o:Oper) (σ σ':ASt):Prop :=
 match kE o with
 | some (f,args)=>b2H E o f args σ σ'
 | none=>stepD E o σ σ'
def AStepD (E:AE) (ops:Array Oper) (o:Oper) (σ σ':ASt):Prop :=
 (XI ops σ o=some true∧QB E o σ σ')∨(XI ops σ o=some false∧ASt.put E o.dst (.tuple []) σ=some σ')
section
variable {E:AE} {ops:Array Oper} {o:Oper} {σ σ' τ:ASt}
theorem KC {d:Option Nat} {p:PV} (h:ASt.put E d p σ=some σ'):σ'.s=zN d p σ.s∧σ'.h=σ.h∧∀ k,d=some k→k<E.n:=by
 cases d with
 | none=>simp[ASt.put] at h; subst h; exact ⟨rfl,rfl,by simp⟩
 | some k =>
  simp only[ASt.put] at h
  split at h
  ·rename_i hk; cases h; exact ⟨rfl,rfl,fun j e=>by cases e; exact hk⟩
  ·cases h
theorem QF {d:Option Nat} {p:PV} (h:∀ k,d=some k→k<E.n):ASt.put E d p σ=some ⟨zN d p σ.s,σ.h⟩:=by
 cases d with
 | none=>rfl
 | some k=>simp only[ASt.put,if_pos (h k rfl)]; rfl
theorem LY {t:Nat} (h:Operand.tmp t∈o.op.operands):t∈o.looksAt ops:=List.mem_append_left _ (List.mem_filterMap.2 ⟨.tmp t,by simpa using h,rfl⟩)
theorem wE (h:∀ t,t∈o.looksAt ops→bK t τ.s=bK t σ.s):XI ops τ o=XI ops σ o:=by
 unfold XI
 cases hg:o.guard with
 | none=>rfl
 | some jw =>
  obtain ⟨j,want⟩:=jw
  have:OG ops τ j=OG ops σ j:=by
   unfold OG
   cases hd:(ops[j]?).bind (·.dst) with
   | none=>rfl
   | some d=>simp only[h d (List.mem_append_right _ (by simp[hg,hd]))]
  simp only[this]
theorem TU (h:agree o σ.s τ.s) (hs:eY E o σ):eY E o τ:=by
 obtain ⟨dst,op,type,pos,after,guard⟩:=o
 cases op with
 | call c =>
  obtain ⟨callee,args,ts⟩:=c
  have hargs:∀ x,x∈args.toList→x∈(Op.call ⟨callee,args,ts⟩).operands:=fun x hx=>by simp only[Op.operands,Call.operands]; exact Array.mem_append.2 (.inr (by simpa using hx))
  simp only[eY] at hs ⊢
  split
  ·split
   ·rename_i s x h1
    rw[vX h (hargs s (by rw[h1]; simp)),bZ h (hargs x (by rw[h1]; simp))]
    simpa only[h1] using hs
   ·trivial
  ·trivial
 | _=>trivial
theorem yI (h:AStepD E ops o σ σ'):∃ c p,(c=none∨c=qE E o)∧σ'.s=zN o.dst p (DV c σ.s)∧((hk E o=0∨hk E o=1∨hk E o=5)→σ'.h=σ.h)∧(hk E o=3→MV σ'.h=MV σ.h)∧(hk E o=6→VI E σ'.h σ.h) ∧
 ∀ τ:ASt,(∀ t,t∈o.looksAt ops→bK t τ.s=bK t σ.s)→(hk E o=0∨τ.h=σ.h∨(hk E o=1∧MV τ.h=MV σ.h)∨(hk E o=5∧VI E τ.h σ.h))→∃ τ',AStepD E ops o τ τ'∧τ'.s=zN o.dst p (DV c τ.s)∧((hk E o=0∨hk E o=1∨hk E o=5)→τ'.h=τ.h)∧(τ.h=σ.h→τ'.h=σ'.h):=by
 rcases h with ⟨hg,hr⟩ | ⟨hg,hp⟩
 ·unfold QB at hr
  cases hc:kE o with
  | some fa =>
   obtain ⟨f,args⟩:=fa
   rw[hc] at hr
   obtain ⟨g,first,caps,az,r,h1,h2,h3⟩:=hr
   have hop:f∈o.op.operands∧∀ x,x∈args→x∈o.op.operands:=by
    obtain ⟨dst,op,type,pos,after,guard⟩:=o
    cases op<;>simp[kE] at hc
    rename_i c
    obtain ⟨callee,cargs,ts⟩:=c
    cases callee<;>simp at hc
    obtain ⟨rfl,rfl⟩:=hc
    simp only[Op.operands,Call.operands]
    exact ⟨Array.mem_append.2 (.inl (by simp)),fun x hx=>Array.mem_append.2 (.inr (by simpa using hx))⟩
   rcases h3 with ⟨h3,h4,h5,h6⟩ | ⟨hsy,h',h3,hro,h6⟩
   ·obtain ⟨p1,p2,p3⟩:=KC h6
    refine ⟨none,r,.inl rfl,p1,fun _=>p2,fun _=>by rw[p2],fun _ i _=>by rw[p2],fun τ ht _=>⟨⟨zN o.dst r τ.s,τ.h⟩,.inl ⟨by rw[wE ht]; exact hg,?_⟩,rfl,fun _=>rfl,fun e=>by rw[p2]; exact e⟩⟩
    unfold QB
    rw[hc]
    have hag:agree o σ.s τ.s:=fun t h=>ht t (LY h)
    exact ⟨g,first,caps,az,r,by rw[bZ hag hop.1]; exact h1,by rw[jV fun x hx=>bZ hag (hop.2 x hx)]; exact h2,.inl ⟨h3,h4,h5,QF p3⟩⟩
   ·obtain ⟨p1,p2,p3⟩:=KC h6
    have hk2:hk E o=2∨hk E o=6:=by
     obtain ⟨dst,op,type,pos,after,guard⟩:=o
     cases op<;>simp[kE] at hc
     rename_i c
     obtain ⟨callee,cargs,ts⟩:=c
     cases callee<;>simp at hc
     simp only at hsy
     simp only[hk,hsy,if_true]
     split
     ·exact .inr rfl
     ·exact .inl rfl
    refine ⟨none,r,.inl rfl,p1,fun e=>by omega,fun e=>by omega,fun _=>by rw[p2]; exact hro,fun τ ht hh => ?_⟩
    have hh':τ.h=σ.h:=by
     rcases hh with h | h | h | h
     ·omega
     ·exact h
     ·omega
     ·omega
    refine ⟨⟨zN o.dst r τ.s,h'⟩,.inl ⟨by rw[wE ht]; exact hg,?_⟩,rfl,fun e=>by omega,fun _=>by rw[p2]⟩
    unfold QB
    rw[hc]
    have hag:agree o σ.s τ.s:=fun t h=>ht t (LY h)
    exact ⟨g,first,caps,az,r,by rw[bZ hag hop.1]; exact h1,by rw[jV fun x hx=>bZ hag (hop.2 x hx)]; exact h2,.inr ⟨hsy,h',by rw[hh']; exact h3,by rw[hh']; exact hro,QF (σ := { τ with h:=h' }) p3⟩⟩
  | none =>
   rw[hc] at hr
   obtain ⟨p,σ1,h1,h2,h3⟩:=hr
   obtain ⟨p1,p2,p3⟩:=KC h3
   have hself:=NY (σ':=σ) h1 (fun _ _=>rfl) (.inr (.inl rfl))
   obtain ⟨_,_,s1,_,s3,_,s5⟩:=hself
   have e5:hk E o=5→σ1.h=σ.h:=fun e=>by rw[(a1Z h1 e (σ':=σ) (fun _ _=>rfl) (fun _ _=>rfl)).1]
   refine ⟨qE E o,p,.inr rfl,by rw[p1,s1],fun e=>by
    rw[p2]
    rcases e with e | e | e
    ·exact (s3 (.inl e)).1
    ·exact (s3 (.inr e)).1
    ·exact e5 e,fun e=>by rw[p2]; exact s5 e,fun e=>by rw[p2]; exact aDC h1 e hc,fun τ ht hh => ?_⟩
   have hag:agree o σ.s τ.s:=fun t h=>ht t (LY h)
   by_cases h5:hk E o=5
   ·have hro:VI E τ.h σ.h:=by
     rcases hh with h | h | h | h
     ·omega
     ·intro i _; rw[h]
     ·omega
     ·exact h.2
    obtain ⟨l0,l1,l2⟩:=a1Z h1 h5 hag hro
    refine ⟨⟨zN o.dst p τ.s,τ.h⟩,.inl ⟨by rw[wE ht]; exact hg,?_⟩,by rw[l2]; rfl,fun _=>rfl,fun e=>by rw[p2,e5 h5]; exact e⟩
    unfold QB
    rw[hc]
    exact ⟨p,τ,l1,TU hag h2,QF p3⟩
   have hh3:hk E o=0∨τ.h=σ.h∨(hk E o=1∧MV τ.h=MV σ.h):=by
    rcases hh with h | h | h | h
    ·exact .inl h
    ·exact .inr (.inl h)
    ·exact .inr (.inr h)
    ·exact absurd h.1 h5
   obtain ⟨τ1,l1,l2,l3,l4,l5,_⟩:=NY h1 hag hh3
   refine ⟨⟨zN o.dst p τ1.s,τ1.h⟩,.inl ⟨by rw[wE ht]; exact hg,?_⟩,by simp only[l3],fun e=>by
    rcases e with e | e | e
    ·exact (l4 (.inl e)).2
    ·exact (l4 (.inr e)).2
    ·exact absurd e h5,fun e=>by rw[p2]; exact l5 e⟩
   unfold QB
   rw[hc]
   exact ⟨p,τ1,l1,TU hag h2,QF p3⟩
 ·obtain ⟨p1,p2,p3⟩:=KC hp
  exact ⟨none,.tuple [],.inl rfl,p1,fun _=>p2,fun _=>by rw[p2],fun _ i _=>by rw[p2],fun τ ht _=>⟨⟨zN o.dst (.tuple []) τ.s,τ.h⟩,.inr ⟨by rw[wE ht]; exact hg,QF p3⟩,rfl,fun _=>rfl,fun e=>by rw[p2]; exact e⟩⟩
theorem AStepD.srt (h:AStepD E ops o σ σ') (hs:yT σ.s):yT σ'.s:=by
 obtain ⟨c,p,_,e,_⟩:=yI h
 rw[e]; exact nS (qG hs)
def writes (E:AE) (o:Oper):List Nat:=o.dst.toList ++ (qE E o).toList
def a'U (a b:Nat):Bool:=a==0||b==0||(a==1&&b==1)||(a==1&&b==3)||(a==3&&b==1)||(a==5&&(b==1||b==5||b==6))||(b==5&&(a==1||a==6))
def aGF (o:Oper):Option ByteArray:=match o.op,o.dst,o.guard with
 | .insert _ _ (.const (.string k)) _,none,none=>some k
 | _,_,_=>none
def aX0 (x y:Oper):Bool:=match aGF x,aGF y with
 | some a,some b => !(a.data.toList==b.data.toList)
 | _,_=>false
def a8N (E:AE) (ops:Array Oper) (x y:Oper):Bool :=
 (writes E x).all (fun d => !(y.looksAt ops).contains d && !(writes E y).contains d)&&(writes E y).all (fun d => !(x.looksAt ops).contains d)&&a'U (hk E x) (hk E y)
def TF (E:AE) (ops:Array Oper) (x y:Oper):Bool:=a8N E ops x y||aX0 x y
theorem TS:∀ {a b c:List UInt8},VD a b=true→VD b c=true→VD a c=true
 | [],[],_,h,_=>by cases h
 | [],_::_,[],_,h=>by cases h
 | [],_::_,_::_,_,_=>rfl
 | _::_,[],_,h,_=>by cases h
 | _::_,_::_,[],_,h=>by cases h
 | a::az,b::bs,c::cs,h1,h2=>by
  simp only[VD,Bool.or_eq_true,Bool.and_eq_true,Nat.blt_eq,Nat.beq_eq] at h1 h2 ⊢
  rcases h1 with h1 | ⟨h1,h1'⟩<;>rcases h2 with h2 | ⟨h2,h2'⟩
  ·left; omega
  ·left; omega
  ·left; omega
  ·right; exact ⟨by omega,TS h1' h2'⟩
theorem RJ:∀ {a b:List UInt8},a≠b→VD b a = !VD a b
 | [],[],h=>absurd rfl h
 | [],_::_,_=>rfl
 | _::_,[],_=>rfl
 | a::az,b::bs,h=>by
  simp only[VD]
  rcases Nat.lt_trichotomy a.toNat b.toNat with hl | he | hg
  ·rw[show Nat.blt a.toNat b.toNat=true by rw[Nat.blt_eq]; exact hl,show Nat.blt b.toNat a.toNat=false by rw[← Bool.not_eq_true,Nat.blt_eq]; omega,show Nat.beq b.toNat a.toNat=false by rw[← Bool.not_eq_true,Nat.beq_eq]; omega]; rfl
  ·have hab:a=b:=UInt8.toNat_inj.1 he
   subst hab
   have hn:az≠bs:=fun e=>h (by rw[e])
   rw[show Nat.blt a.toNat a.toNat=false by rw[← Bool.not_eq_true,Nat.blt_eq]; omega,show Nat.beq a.toNat a.toNat=true by rw[Nat.beq_eq],RJ hn]; rfl
  ·rw[show Nat.blt a.toNat b.toNat=false by rw[← Bool.not_eq_true,Nat.blt_eq]; omega,show Nat.blt b.toNat a.toNat=true by rw[Nat.blt_eq]; exact hg,show Nat.beq a.toNat b.toNat=false by rw[← Bool.not_eq_true,Nat.beq_eq]; omega]; rfl
section
variable {a b:ByteArray} {x y:PV}
def DT:List PV→Prop
 | k::_::L=>(∃ c,k = .str c)∧DT L
 | []=>True
 | [_]=>False
theorem allK_of:∀ {L:List PV},qX none L (.str a)=true↔DT L
 | []=>⟨fun _=>trivial,fun _=>rfl⟩
 | [_]=>⟨fun h=>(by simp[qX] at h),fun h=>h.elim⟩
 | k::v::L=>by
  rw[qX,Bool.and_eq_true,DT,allK_of (L:=L)]
  refine and_congr ⟨fun h => ?_,fun ⟨c,hc⟩=>by subst hc; rfl⟩ Iff.rfl
  cases k<;>first | exact ⟨_,rfl⟩ | (simp[eqK] at h)
theorem a0G (hab:a.data.toList≠b.data.toList):∀ {L:List PV},DT L→jO none (gI none L (.str a) x) (.str b)=jO none L (.str b)
 | [],_=>rfl
 | [_],h=>h.elim
 | k::v::L,⟨⟨c,hc⟩,h⟩=>by
  subst hc
  simp only[gI,eqK]
  by_cases hac:a.data.toList=c.data.toList
  ·rw[show (a.data.toList==c.data.toList)=true by rw[beq_iff_eq]; exact hac]
   simp only[jO,eqK]
   rw[hac]
  ·rw[show (a.data.toList==c.data.toList)=false from beq_eq_false_iff_ne.2 hac]
   simp only[jO,eqK]
   rw[a0G hab h]
theorem a04 (hab:a.data.toList≠b.data.toList):∀ {L:List PV},DT L→jO none (iK L (.str a) x) (.str b)=jO none L (.str b)
 | [],_=>by
  simp only[iK,jO,eqK]
  rw[show (b.data.toList==a.data.toList)=false from beq_eq_false_iff_ne.2 (Ne.symm hab)]
 | [_],h=>h.elim
 | k::v::L,⟨⟨c,hc⟩,h⟩=>by
  subst hc
  simp only[iK]
  cases OE (.str a) (.str c) with
  | true =>
   simp only[jO,eqK]
   rw[show (b.data.toList==a.data.toList)=false from beq_eq_false_iff_ne.2 (Ne.symm hab)]
  | false =>
   simp only[jO]
   rw[a04 hab h]
theorem aAC (hab:a.data.toList≠b.data.toList):∀ {L:List PV},DT L→gI none (gI none L (.str a) x) (.str b) y=gI none (gI none L (.str b) y) (.str a) x
 | [],_=>rfl
 | [_],h=>h.elim
 | k::v::L,⟨⟨c,hc⟩,h⟩=>by
  subst hc
  by_cases hac:a.data.toList=c.data.toList
  ·have hbc:(b.data.toList==c.data.toList)=false:=beq_eq_false_iff_ne.2 fun e=>hab (hac.trans e.symm)
   have hba:(b.data.toList==a.data.toList)=false:=beq_eq_false_iff_ne.2 (Ne.symm hab)
   simp only[gI,eqK,show (a.data.toList==c.data.toList)=true by rw[beq_iff_eq]; exact hac,hbc,hba]
  ·have hac':(a.data.toList==c.data.toList)=false:=beq_eq_false_iff_ne.2 hac
   by_cases hbc:b.data.toList=c.data.toList
   ·have hab':(a.data.toList==b.data.toList)=false:=beq_eq_false_iff_ne.2 hab
    simp only[gI,eqK,hac',show (b.data.toList==c.data.toList)=true by rw[beq_iff_eq]; exact hbc,hab']
   ·have hbc':(b.data.toList==c.data.toList)=false:=beq_eq_false_iff_ne.2 hbc
    simp only[gI,eqK,hac',hbc',aAC hab h]
theorem YZ (hab:a.data.toList≠b.data.toList):∀ {L:List PV},DT L→jO none L (.str a)=true→iK (gI none L (.str a) x) (.str b) y=gI none (iK L (.str b) y) (.str a) x
 | [],_,h=>by cases h
 | [_],h,_=>h.elim
 | k::v::L,⟨⟨c,hc⟩,h⟩,hh=>by
  subst hc
  have hab':(a.data.toList==b.data.toList)=false:=beq_eq_false_iff_ne.2 hab
  by_cases hac:a.data.toList=c.data.toList
  ·have hl:OE (.str b) (.str a)=OE (.str b) (.str c):=by simp only[OE,hac]
   simp only[gI,eqK,show (a.data.toList==c.data.toList)=true by rw[beq_iff_eq]; exact hac,iK,hl]
   cases OE (.str b) (.str c) with
   | true=>simp only[gI,eqK,hab',show (a.data.toList==c.data.toList)=true by rw[beq_iff_eq]; exact hac]
   | false=>simp only[gI,eqK,show (a.data.toList==c.data.toList)=true by rw[beq_iff_eq]; exact hac]
  ·have hac':(a.data.toList==c.data.toList)=false:=beq_eq_false_iff_ne.2 hac
   simp only[jO,eqK,hac'] at hh
   simp only[gI,eqK,hac',iK]
   cases OE (.str b) (.str c) with
   | true=>simp only[gI,eqK,hab',hac']
   | false=>simp only[gI,eqK,hac',YZ hab h hh]
theorem aB8 (hab:a.data.toList≠b.data.toList):∀ {L:List PV},DT L→iK (iK L (.str a) x) (.str b) y=iK (iK L (.str b) y) (.str a) x
 | [],_=>by
  have ht:OE (.str b) (.str a) = !OE (.str a) (.str b):=RJ hab
  simp only[iK,ht]
  cases OE (.str a) (.str b)<;>rfl
 | [_],h=>h.elim
 | k::v::L,⟨⟨c,hc⟩,h⟩=>by
  subst hc
  have ht:OE (.str b) (.str a) = !OE (.str a) (.str b):=RJ hab
  have tr:∀ {p q r:ByteArray},OE (.str p) (.str q)=true→OE (.str q) (.str r)=true→OE (.str p) (.str r)=true:=fun h1 h2=>TS h1 h2
  cases ha:OE (.str a) (.str c) with
  | true =>
   cases hb:OE (.str b) (.str c) with
   | true =>
    simp only[iK,ha,hb,ht]
    cases OE (.str a) (.str b)<;>simp
   | false =>
    have hn:OE (.str b) (.str a)=false:=by
     cases hh:OE (.str b) (.str a) with
     | false=>rfl
     | true=>rw[tr hh ha] at hb; cases hb
    simp only[iK,ha,hb,hn]
  | false =>
   cases hb:OE (.str b) (.str c) with
   | true =>
    have hn:OE (.str a) (.str b)=false:=by
     cases hh:OE (.str a) (.str b) with
     | false=>rfl
     | true=>rw[tr hh hb] at ha; cases ha
    simp only[iK,ha,hb,hn]
   | false=>simp only[iK,ha,hb,aB8 hab h]
theorem aMC (hab:a.data.toList≠b.data.toList) {L:List PV} (h:DT L):eG none (eG none L (.str a) x) (.str b) y=eG none (eG none L (.str b) y) (.str a) x:=by
 unfold eG
 cases ha:jO none L (.str a)<;>cases hb:jO none L (.str b)<;>simp only[a0G hab h,a04 hab h,a0G (Ne.symm hab) h,a04 (Ne.symm hab) h,ha,hb]
 ·exact aB8 hab h
 ·exact (YZ (Ne.symm hab) h hb).symm
 ·exact YZ hab h ha
 ·exact aAC hab h
theorem aBR:∀ {L:List PV},DT L→DT (gI none L (.str a) x)
 | [],_=>trivial
 | [_],h=>h.elim
 | k::v::L,⟨⟨c,hc⟩,h⟩=>by
  subst hc
  simp only[gI,eqK]
  split
  ·exact ⟨⟨_,rfl⟩,h⟩
  ·exact ⟨⟨_,rfl⟩,aBR h⟩
theorem a9S:∀ {L:List PV},DT L→DT (iK L (.str a) x)
 | [],_=>⟨⟨_,rfl⟩,trivial⟩
 | [_],h=>h.elim
 | k::v::L,⟨⟨c,hc⟩,h⟩=>by
  subst hc
  simp only[iK]
  cases OE (.str a) (.str c) with
  | true=>exact ⟨⟨_,rfl⟩,⟨_,rfl⟩,h⟩
  | false=>exact ⟨⟨_,rfl⟩,a9S h⟩
theorem aN9 {L:List PV} (h:DT L):DT (eG none L (.str a) x):=by
 unfold eG
 split
 ·exact aBR h
 ·exact a9S h
end
theorem aCW {o:Oper} {k:ByteArray} (h:aGF o=some k):∃ t m v,o.op = .insert t m (.const (.string k)) v∧o.dst=none∧o.guard=none:=by
 unfold aGF at h
 split at h
 ·rename_i t m k' v h1 h2 h3; cases h; exact ⟨t,m,v,h1,h2,h3⟩
 ·cases h
theorem wG {o:Oper} {k:ByteArray} (hk:aGF o=some k):AStepD E ops o σ σ'↔∃ t m v,o.op = .insert t m (.const (.string k)) v∧∃ i q cs b L z,a4M E.mu E.ln (uI m) (σ.rd m)=true∧BV E.P t=some (none,z)∧σ.rd m=some (.bld 0 i)∧σ.rd v=some q∧σ.h[i]? = some (some cs)∧zG cs=some (b,L)∧DT L∧(!b||q.flat)=true ∧
 σ' = { σ with h:=σ.h.set i (some [qO b (eG none L (.str k) q)]) }:=by
 obtain ⟨t,m,v,h1,h2,h3⟩:=aCW hk
 obtain ⟨dst,op,type,pos,after,guard⟩:=o
 simp only at h1 h2 h3
 subst h1; subst h2; subst h3
 have hc:kE ⟨none,Op.insert t m (.const (.string k)) v,type,pos,after,none⟩=none:=rfl
 have hr:σ.rd (.const (.string k))=some (.str k):=rfl
 constructor
 ·rintro (⟨_,h⟩ | ⟨h,_⟩)
  ·unfold QB at h
   rw[hc] at h
   obtain ⟨p,σ1,hs,_,hp⟩:=h
   simp only[ASt.put,Option.some.injEq] at hp
   subst hp
   simp only[aU] at hs
   split at hs
   ·cases hs
   rename_i hso
   split at hs
   ·rename_i s z i q y ht g1 gk g3 gd
    rw[hr] at gk
    cases gk
    split at hs
    ·rename_i cs hcs
     split at hs
     ·rename_i b L hin
      split at hs
      ·rename_i hik
       cases hs
       simp only[Bool.and_eq_true] at hik
       have hsn:s=none:=by
        cases s with
        | none=>rfl
        | some kd=>have:=hik.1; simp[nR] at this
       subst hsn
       exact ⟨t,m,v,rfl,i,y,cs,b,L,z,hso,ht,g1,g3,hcs,hin,allK_of.1 hik.2.1,hik.2.2,rfl⟩
      ·cases hs
     ·cases hs
    ·cases hs
   ·cases hs
  ·simp[XI] at h
 ·rintro ⟨t',m',v',e,i,q,cs,b,L,z,hso,ht,g1,g3,hcs,hin,hal,hfl,rfl⟩
  cases e
  refine .inl ⟨rfl,?_⟩
  unfold QB
  rw[hc]
  refine ⟨.tuple [],{ σ with h:=σ.h.set i (some [qO b (eG none L (.str k) q)]) },?_,trivial,rfl⟩
  rw[g1] at hso
  simp only[aU,hso,ht,g1,hr,g3,hcs,hin,nR,(allK_of (a:=k)).2 hal,hfl,Bool.and_self]
theorem U1 {b:Bool} {L:List PV}:zG [qO b L]=some (b,L):=by cases b<;>rfl
theorem a3R {x y:Oper} {σ1 σ2:ASt} (h1:AStepD E ops x σ σ1) (h2:AStepD E ops y σ1 σ2) (hc:aX0 x y=true):∃ τ,AStepD E ops y σ τ∧AStepD E ops x τ σ2:=by
 unfold aX0 at hc
 split at hc
 ·rename_i a b hx hy
  have hab:a.data.toList≠b.data.toList:=by simpa using hc
  obtain ⟨t,m,v,e1,i,q,cs,b1,L,z,s1,s2,s3,s4,s5,s6,s7,s8,rfl⟩:=(wG hx).1 h1
  obtain ⟨t',m',v',e2,j,q',cs',b2,L',z',u1,u2,u3,u4,u5,u6,u7,u8,rfl⟩:=(wG hy).1 h2
  have u1:a4M E.mu E.ln (uI m') (σ.rd m')=true:=u1
  have u3:σ.rd m'=some (.bld 0 j):=u3
  have u4:σ.rd v'=some q':=u4
  have u5:(σ.h.set i (some [qO b1 (eG none L (.str a) q)]))[j]? = some (some cs'):=u5
  by_cases hij:i=j
  ·subst hij
   have hlt:i<σ.h.length:=(List.getElem?_eq_some_iff.1 s5).1
   rw[List.getElem?_set_self hlt] at u5
   injection u5 with u5; injection u5 with u5; subst u5
   rw[U1] at u6
   injection u6 with u6; injection u6 with u6a u6b
   subst u6a; subst u6b
   refine ⟨{ σ with h:=σ.h.set i (some [qO b1 (eG none L (.str b) q')]) },(wG hy).2 ⟨t',m',v',e2,i,q',cs,b1,L,z',u1,u2,u3,u4,s5,s6,s7,u8,rfl⟩,(wG hx).2 ⟨t,m,v,e1,i,q,[qO b1 (eG none L (.str b) q')],b1,eG none L (.str b) q',z,s1,s2,s3,s4,?_,U1,aN9 s7,s8,?_⟩⟩
   ·exact List.getElem?_set_self hlt
   ·show ASt.mk σ.s ((σ.h.set i _).set i _)=ASt.mk σ.s ((σ.h.set i _).set i _)
    rw[List.set_set,List.set_set,aMC hab s7]
  ·rw[List.getElem?_set_ne hij] at u5
   refine ⟨{ σ with h:=σ.h.set j (some [qO b2 (eG none L' (.str b) q')]) },(wG hy).2 ⟨t',m',v',e2,j,q',cs',b2,L',z',u1,u2,u3,u4,u5,u6,u7,u8,rfl⟩,(wG hx).2 ⟨t,m,v,e1,i,q,cs,b1,L,z,s1,s2,s3,s4,?_,s6,s7,s8,?_⟩⟩
   ·show (σ.h.set j _)[i]? = _
    rw[List.getElem?_set_ne (Ne.symm hij)]; exact s5
   ·show ASt.mk σ.s ((σ.h.set i _).set j _)=ASt.mk σ.s ((σ.h.set j _).set i _)
    rw[List.set_comm _ _ hij]
 ·cases hc
theorem aH6 {x y:Oper} {σ1 σ2:ASt} (hs:yT σ.s) (h1:AStepD E ops x σ σ1) (h2:AStepD E ops y σ1 σ2) (hc:a8N E ops x y=true):∃ τ,AStepD E ops y σ τ∧AStepD E ops x τ σ2:=by
 unfold a8N at hc
 simp only[Bool.and_eq_true,List.all_eq_true,Bool.not_eq_true',List.contains_eq_mem,decide_eq_false_iff_not] at hc
 obtain ⟨⟨hw1,hw2⟩,hh⟩:=hc
 obtain ⟨c1,p1,k1,e1,a1,b1,r1,t1⟩:=yI h1
 obtain ⟨c2,p2,k2,e2,a2,b2,r2,t2⟩:=yI h2
 have wr:∀ {o:Oper} {c:Option Nat} {k:Nat},(c=none∨c=qE E o)→c=some k→k∈writes E o:=fun hk e=>by
  rcases hk with h | h
  ·rw[h] at e; cases e
  ·exact List.mem_append_right _ (by rw[← h,e]; simp)
 have wd:∀ {o:Oper} {k:Nat},o.dst=some k→k∈writes E o:=fun e=>List.mem_append_left _ (by rw[e]; simp)
 have hsame:∀ {o:Oper} {c:Option Nat} {p:PV} {s:cZ} {t:Nat},yT s→(c=none∨c=qE E o)→t∉writes E o→bK t (zN o.dst p (DV c s))=bK t s:=fun hs hk ht=>by
  rw[wH (qG hs),if_neg (fun e=>ht (wd e)),wJ hs,if_neg (fun e=>ht (wr hk e))]
 unfold a'U at hh
 simp only[Bool.or_eq_true,Bool.and_eq_true,beq_iff_eq] at hh
 have hheap:hk E y=0∨σ.h=σ1.h∨(hk E y=1∧MV σ.h=MV σ1.h)∨(hk E y=5∧VI E σ.h σ1.h):=by
  rcases hh with (((((h | h) | h) | h) | h) | h) | h
  ·exact .inr (.inl (a1 (.inl h)).symm)
  ·exact .inl h
  ·exact .inr (.inl (a1 (.inr (.inl h.1))).symm)
  ·exact .inr (.inl (a1 (.inr (.inl h.1))).symm)
  ·exact .inr (.inr (.inl ⟨h.2,(b1 h.1).symm⟩))
  ·exact .inr (.inl (a1 (.inr (.inr h.1))).symm)
  ·rcases h.2 with h2 | h2
   ·exact .inr (.inl (a1 (.inr (.inl h2))).symm)
   ·exact .inr (.inr (.inr ⟨h.1,fun i hi=>(r1 h2 i hi).symm⟩))
 obtain ⟨τ,y1,y2,y3,y4⟩:=t2 σ (fun t ht=>by rw[e1,hsame hs k1 fun hw=>(hw1 t hw).1 ht]) hheap
 have hy:=yI y1
 obtain ⟨_,_,_,_,ya,yb,yr,_⟩:=hy
 have hheap2:hk E x=0∨τ.h=σ.h∨(hk E x=1∧MV τ.h=MV σ.h)∨(hk E x=5∧VI E τ.h σ.h):=by
  rcases hh with (((((h | h) | h) | h) | h) | h) | h
  ·exact .inl h
  ·exact .inr (.inl (ya (.inl h)))
  ·exact .inr (.inl (ya (.inr (.inl h.2))))
  ·exact .inr (.inr (.inl ⟨h.1,yb h.2⟩))
  ·exact .inr (.inl (ya (.inr (.inl h.2))))
  ·rcases h.2 with (h2 | h2) | h2
   ·exact .inr (.inl (ya (.inr (.inl h2))))
   ·exact .inr (.inl (ya (.inr (.inr h2))))
   ·exact .inr (.inr (.inr ⟨h.1,yr h2⟩))
  ·exact .inr (.inl (ya (.inr (.inr h.1))))
 obtain ⟨τ',x1,x2,x3,x4⟩:=t1 τ (fun t ht=>by rw[y2,hsame hs k2 fun hw=>hw2 t hw ht]) hheap2
 refine ⟨τ,y1,?_⟩
 have hslots:τ'.s=σ2.s:=by
  rw[x2,y2,e2,e1]
  exact aGT hs (fun k e=>⟨fun e'=>(hw1 k (wd e)).2 (wd e'),fun e'=>(hw1 k (wd e)).2 (wr k2 e')⟩) (fun k e=>⟨fun e'=>(hw1 k (wr k1 e)).2 (wd e'),fun e'=>(hw1 k (wr k1 e)).2 (wr k2 e')⟩)
 have hheaps:τ'.h=σ2.h:=by
  rcases hh with (((((h | h) | h) | h) | h) | h) | h
  ·rw[x3 (.inl h)]; exact y4 (a1 (.inl h)).symm
  ·rw[x4 (ya (.inl h)),a2 (.inl h)]
  ·rw[x4 (ya (.inr (.inl h.2))),a2 (.inr (.inl h.2))]
  ·rw[x3 (.inr (.inl h.1))]; exact y4 (a1 (.inr (.inl h.1))).symm
  ·rw[x4 (ya (.inr (.inl h.2))),a2 (.inr (.inl h.2))]
  ·rw[x3 (.inr (.inr h.1))]; exact y4 (a1 (.inr (.inr h.1))).symm
  ·rw[x4 (ya (.inr (.inr h.1))),a2 (.inr (.inr h.1))]
 have:τ'=σ2:=by cases τ'; cases σ2; simp only at hslots hheaps; rw[hslots,hheaps]
 rw[← this]; exact x1
theorem aA' {x y:Oper} {σ1 σ2:ASt} (hs:yT σ.s) (h1:AStepD E ops x σ σ1) (h2:AStepD E ops y σ1 σ2) (hc:TF E ops x y=true):∃ τ,AStepD E ops y σ τ∧AStepD E ops x τ σ2:=by
 unfold TF at hc
 rcases Bool.or_eq_true_iff.1 hc with hc | hc
 ·exact aH6 hs h1 h2 hc
 ·exact a3R h1 h2 hc
def Chain (E:AE) (ops:Array Oper):List Nat→ASt→ASt→Prop
 | [],σ,σ'=>σ=σ'
 | i::l,σ,σ'=>∃ o,ops[i]? = some o∧∃ σ1,AStepD E ops o σ σ1∧Chain E ops l σ1 σ'
theorem NW {i:Nat} {oi:Oper} (hi:ops[i]? = some oi):∀ (p q:List Nat) {σ σ':ASt},yT σ.s→Chain E ops (p ++ i::q) σ σ'→(∀ k,k∈p→∀ ok,ops[k]? = some ok→TF E ops ok oi=true)→∃ σ1,AStepD E ops oi σ σ1∧Chain E ops (p ++ q) σ1 σ'
 | [],q,σ,σ',hs,h,_=>by
  obtain ⟨o,ho,σ1,h1,h2⟩:=h
  rw[hi] at ho; cases ho
  exact ⟨σ1,h1,h2⟩
 | k::p,q,σ,σ',hs,h,hc=>by
  obtain ⟨o,ho,σ1,h1,h2⟩:=h
  obtain ⟨σ2,h3,h4⟩:=NW hi p q (h1.srt hs) h2 fun k hk=>hc k (by simp[hk])
  obtain ⟨τ,d1,d2⟩:=aA' hs h1 h3 (hc k (by simp) o ho)
  exact ⟨τ,d1,o,ho,σ2,d2,h4⟩
def aTF (acc:List Nat) (o:Oper):Nat:=o.after.toList.foldl (fun s e=>if Region.binds .any e then s ||| (2 ^ e.on ||| acc.getD e.on 0) else s) 0
def a2M:List Nat→List Oper→List Nat
 | acc,[]=>acc
 | acc,o::l=>a2M (acc ++ [aTF acc o]) l
def Closed (ops:Array Oper) (L:Nat→Prop):Prop:=∀ (j:Nat) o,ops[j]? = some o→L j→∀ e,e∈o.after→Region.binds .any e=true→L e.on
theorem a6Z {acc:List Nat} {o:Oper} {k:Nat} (h:(aTF acc o).testBit k=true):∃ e,e∈o.after∧Region.binds .any e=true∧(k=e.on∨(acc.getD e.on 0).testBit k=true):=by
 have key:∀ (l:List Edge) (s:Nat),(l.foldl (fun s e=>if Region.binds .any e then s ||| (2 ^ e.on ||| acc.getD e.on 0) else s) s).testBit k=true→s.testBit k=true∨∃ e,e∈l∧Region.binds .any e=true∧(k=e.on∨(acc.getD e.on 0).testBit k=true):=by
  intro l
  induction l with
  | nil=>intro s h; exact .inl h
  | cons e l ih =>
   intro s h
   rw[List.foldl_cons] at h
   rcases ih _ h with h1 | ⟨e',h1,h2⟩
   ·split at h1
    ·rename_i hb
     rw[Nat.testBit_or,Nat.testBit_or] at h1
     simp only[Bool.or_eq_true] at h1
     rcases h1 with h1 | h1 | h1
     ·exact .inl h1
     ·refine .inr ⟨e,by simp,hb,.inl ?_⟩
      rw[Nat.testBit_two_pow] at h1; exact (of_decide_eq_true h1).symm
     ·exact .inr ⟨e,by simp,hb,.inr h1⟩
    ·exact .inl h1
   ·exact .inr ⟨e',by simp[h1],h2⟩
 rcases key o.after.toList 0 h with h1 | ⟨e,h1,h2⟩
 ·simp at h1
 ·exact ⟨e,by simpa using h1,h2⟩
def aGN (ops:Array Oper) (acc:List Nat):Prop:=∀ (j:Nat) o,j<acc.length→ops[j]? = some o→∀ L,Closed ops L→(∀ e,e∈o.after→Region.binds .any e=true→L e.on)→∀ k,(acc.getD j 0).testBit k=true→L k
theorem aBQ {ops:Array Oper}:∀ (l:List Oper) (acc:List Nat),aGN ops acc→(∀ j,l[j]? = ops[acc.length+j]?)→aGN ops (a2M acc l)
 | [],acc,h,_=>h
 | o::l,acc,h,hl=>by
  rw[a2M]
  have ho:ops[acc.length]? = some o:=by have:=hl 0; simpa using this.symm
  refine aBQ l _ (fun j o' hj ho' L hL hd k hk => ?_) (fun j=>by have:=hl (j+1); simpa[Nat.add_assoc,Nat.add_comm 1 j] using this)
  rcases Nat.lt_or_ge j acc.length with hlt | hge
  ·refine h j o' hlt ho' L hL hd k ?_
   rwa [List.getD_eq_getElem?_getD,List.getElem?_append_left hlt,← List.getD_eq_getElem?_getD] at hk
  ·have hje:j=acc.length:=by simp at hj; omega
   subst hje
   rw[ho] at ho'; cases ho'
   rw[List.getD_eq_getElem?_getD,List.getElem?_append_right (Nat.le_refl _)] at hk
   simp at hk
   obtain ⟨e,he,hb,hkk⟩:=a6Z hk
   rcases hkk with rfl | hkk
   ·exact hd e he hb
   ·have hle:=hd e he hb
    rcases Nat.lt_or_ge e.on acc.length with h1 | h1
    ·cases hoe:ops[e.on]? with
     | none =>
      have h2:=(Array.getElem?_eq_some_iff.1 ho).1
      rw[Array.getElem?_eq_none_iff] at hoe; omega
     | some oe=>exact h e.on oe h1 hoe L hL (hL e.on oe hoe hle) k (by simpa using hkk)
    ·rw[List.getD_eq_getElem?_getD,List.getElem?_eq_none h1] at hkk; simp at hkk
def okD (E:AE) (ops:Array Oper):Bool :=
 let A:=a2M [] ops.toList
 (List.range ops.size).all fun j=>match ops[j]? with
  | some oj=>oj.after.toList.all (fun e => !Region.binds .any e||decide (e.on<j))&&(List.range j).all fun i=>match ops[i]? with
   | some oi=>(A.getD j 0).testBit i||TF E ops oi oj
   | none=>true
  | none=>true
theorem aHA (h:okD E ops=true):(∀ (j:Nat) o,ops[j]? = some o→∀ e,e∈o.after→Region.binds .any e=true→e.on<j) ∧
 ∀ (i j:Nat) oi oj,i<j→ops[i]? = some oi→ops[j]? = some oj→∀ L,Closed ops L→(∀ e,e∈oj.after→Region.binds .any e=true→L e.on)→¬ L i→TF E ops oi oj=true:=by
 unfold okD at h
 simp only[List.all_eq_true,List.mem_range] at h
 have hA:aGN ops (a2M [] ops.toList):=aBQ ops.toList [] (fun j o hj=>by simp at hj) (fun j=>by simp)
 have hlen:∀ (l:List Oper) (acc:List Nat),(a2M acc l).length=acc.length+l.length:=by
  intro l
  induction l with
  | nil=>intro acc; simp[a2M]
  | cons o l ih=>intro acc; rw[a2M,ih]; simp; omega
 constructor
 ·intro j o ho e he hb
  have:=h j (Array.getElem?_eq_some_iff.1 ho).1
  simp only[ho,Bool.and_eq_true,List.all_eq_true] at this
  have:=this.1 e (by simpa using he)
  simpa[hb] using this
 ·intro i j oi oj hij hi hj L hL hd hn
  have hjs:=(Array.getElem?_eq_some_iff.1 hj).1
  have:=h j hjs
  simp only[hj,Bool.and_eq_true,List.all_eq_true,List.mem_range] at this
  have:=this.2 i hij
  simp only[hi,Bool.or_eq_true] at this
  rcases this with h1 | h1
  ·exact absurd (hA j oj (by rw[hlen]; simpa using hjs) hj L hL hd i h1) hn
  ·exact h1
theorem QM {out:Nat→Nat} {M:Mem} {B:bY} {a:Act} {w:World} (hI:Inv E.n M B out σ a.tmps w) {b:Bool} (h:XI ops σ o=some b):Region.wanted o (yielded ops a.tmps)=b:=by
 unfold XI at h
 unfold Region.wanted
 cases hg:o.guard with
 | none=>rw[hg] at h; simpa using h
 | some jw =>
  obtain ⟨j,want⟩:=jw
  rw[hg] at h
  cases hv:OG ops σ j with
  | none=>simp[hv] at h
  | some x=>simp[hv] at h; simp only; rw[gQ hI hv]; exact h
theorem QN {out:Nat→Nat} {M:Mem} {B:bY} {a:Act} {w:World} (hI:Inv E.n M B out σ a.tmps w) {i:Nat} (hi:ops[i]? = some o) (h:AStepD E ops o σ σ') {K:Act→World→Prop} {Q:Exit→Act→World→Prop}
 (hK:∀ v M' B' w',Good E.n out M B σ a.tmps w M' B' σ' (a.put o.dst v).tmps w'→K (a.put o.dst v) w'):wpOp E.P ops Q i K a w:=by
 unfold wpOp
 simp only[hi]
 rcases h with ⟨hg,hr⟩ | ⟨hg,hp⟩
 ·rw[if_pos (QM hI hg)]
  refine .inl ?_
  unfold QB at hr
  cases hc:kE o with
  | some fa =>
   obtain ⟨f,args⟩:=fa
   rw[hc] at hr
   obtain ⟨g,first,caps,az,r,h1,h2,h3⟩:=hr
   refine vC (K:=fun τ=>τ=σ') hI ?_ fun v τ M' B' w' e hG=>by subst e; exact hK v M' B' w' hG
   unfold uH
   obtain ⟨dst,op,type,pos,after,guard⟩:=o
   cases op<;>simp[kE] at hc
   rename_i c
   obtain ⟨callee,cargs,ts⟩:=c
   cases callee<;>simp at hc
   obtain ⟨rfl,rfl⟩:=hc
   simp only[h1,h2]
   rcases h3 with ⟨h3,h4,h5,h6⟩ | ⟨_,h',h3,_,h6⟩
   ·refine ⟨r,σ.h,h3.frame' h4 h5 _,?_⟩
    unfold bJ
    simp only at h6
    simp only[h6]
   ·refine ⟨r,h',h3,?_⟩
    unfold bJ
    simp only at h6
    simp only[h6]
  | none =>
   rw[hc] at hr
   obtain ⟨p,σ1,h1,h2,h3⟩:=hr
   refine N7 (K:=fun τ=>τ=σ') hI ?_ fun v τ M' B' w' e hG=>by subst e; exact hK v M' B' w' hG
   unfold sW
   rw[h1]
   refine ⟨h2,?_⟩
   unfold bJ
   rw[h3]
 ·rw[if_neg (by rw[QM hI hg]; simp)]
  exact hK undef M B w (CV hI hp)
def dJ (n:Nat) (L:Array Bool):List Nat:=(List.range n).filter fun i => !L.getD i true
theorem mem_unlisted {n:Nat} {L:Array Bool} {i:Nat}:i∈dJ n L↔i<n∧L.getD i true=false:=by
 unfold dJ; rw[List.mem_filter,List.mem_range]; simp
theorem YQ {n:Nat} {L:Array Bool} {i:Nat} (hL:L.size=n) (hi:i<n) (hu:L.getD i true=false):∃ p q,dJ n L=p ++ i::q∧dJ n (L.setIfInBounds i true)=p ++ q∧∀ k,k∈p→k<i:=by
 have hr:List.range n=List.range i ++ i::(List.range' (i+1) (n-i-1)):=by
  have:n=i+(n-i-1+1):=by omega
  rw[List.range_eq_range',List.range_eq_range',this,← List.range'_append_1,List.range'_succ]
  simp
 have hne:∀ j,j≠i→(L.setIfInBounds i true).getD j true=L.getD j true:=fun j h=>by simp[Array.getElem?_setIfInBounds_ne (Ne.symm h)]
 have heq:(L.setIfInBounds i true).getD i true=true:=by simp[hL,hi]
 refine ⟨(List.range i).filter fun i => !L.getD i true,(List.range' (i+1) (n-i-1)).filter fun i => !L.getD i true,?_,?_,fun k hk => ?_⟩
 ·unfold dJ; rw[hr,List.filter_append,List.filter_cons,hu]; simp
 ·unfold dJ; rw[hr,List.filter_append,List.filter_cons,heq]
  simp only[Bool.not_true,Bool.false_eq_true,if_false]
  congr 1
  ·exact List.filter_congr fun j hj=>by rw[hne j (by have:=List.mem_range.1 hj; omega)]
  ·exact List.filter_congr fun j hj=>by rw[hne j (by have:=(List.mem_range'_1.1 hj).1; omega)]
 ·rw[List.mem_filter,List.mem_range] at hk; exact hk.1
theorem WP (hok:okD E ops=true) {out:Nat→Nat} {Q:Exit→Act→World→Prop}:∀ (fuel:Nat) (L:Array Bool) {M:Mem} {B:bY} {σ:ASt} {a:Act} {w:World} {K:ASt→Prop} {σ':ASt},L.size=ops.size→(dJ ops.size L).length=fuel→Closed ops (fun i=>L.getD i false=true) →
 Inv E.n M B out σ a.tmps w→Chain E ops (dJ ops.size L) σ σ'→K σ' →
 (∀ M' B' a' w',K σ'→Good E.n out M B σ a.tmps w M' B' σ' a'.tmps w'→a'.defers=a.defers→Q .normal a' w')→wpAny E.P .any ops Q fuel L a w:=by
 obtain ⟨hback,hcomm⟩:=aHA hok
 have hready0:∀ (L:Array Bool),L.size=ops.size→Region.ready .any ops L = []→dJ ops.size L = []:=by
  intro L hL h
  cases hu:dJ ops.size L with
  | nil=>rfl
  | cons i l =>
   exfalso
   have him:i∈dJ ops.size L:=by rw[hu]; simp
   obtain ⟨h1,h2⟩:=mem_unlisted.1 him
   have ho:ops[i]? = some ops[i]:=Array.getElem?_eq_getElem h1
   have hmin:∀ k,k<i→L.getD k true=true:=fun k hk=>by
    cases hv:L.getD k true with
    | true=>rfl
    | false =>
     have hkm:k∈dJ ops.size L:=mem_unlisted.2 ⟨by omega,hv⟩
     have hsrt:(dJ ops.size L).Pairwise (· < ·):=List.Pairwise.sublist List.filter_sublist List.pairwise_lt_range
     rw[hu] at hkm hsrt
     rcases List.mem_cons.1 hkm with e | hk2
     ·omega
     ·have:=(List.pairwise_cons.1 hsrt).1 k hk2; omega
   have:i∈Region.ready .any ops L:=mem_ready.2 ⟨h2,_,ho,fun e he hb=>by
    have hlt:=hback i _ ho e he hb
    have:=hmin _ hlt
    have hsz:e.on<L.size:=by omega
    simpa[hsz] using this⟩
   rw[h] at this; cases this
 intro fuel
 induction fuel with
 | zero =>
  intro L M B σ a w K σ' hL hlen _ hI hc hk hQ
  have hnil:dJ ops.size L = []:=List.eq_nil_of_length_eq_zero hlen
  rw[hnil] at hc
  have:σ=σ':=hc
  subst this
  refine ⟨?_,hQ M B a w hk (Good.refl hI) rfl⟩
  cases hr:Region.ready .any ops L with
  | nil=>rfl
  | cons i l =>
   exfalso
   have hi:i∈Region.ready .any ops L:=by rw[hr]; simp
   obtain ⟨h1,o,ho,_⟩:=mem_ready.1 hi
   have:i∈dJ ops.size L:=mem_unlisted.2 ⟨(Array.getElem?_eq_some_iff.1 ho).1,h1⟩
   rw[hnil] at this; cases this
 | succ fuel ih =>
  intro L M B σ a w K σ' hL hlen hcl hI hc hk hQ
  refine ⟨fun h=>by rw[hready0 L hL h] at hlen; simp at hlen,fun i hi => ?_⟩
  obtain ⟨h1,o,ho,hd⟩:=mem_ready.1 hi
  have his:=(Array.getElem?_eq_some_iff.1 ho).1
  obtain ⟨p,q,u1,u2,u3⟩:=YQ hL his h1
  rw[u1] at hc
  obtain ⟨σ1,s1,s2⟩:=NW ho p q hI.srt hc fun k hkp ok hok'=>by
   have hkm:k∈dJ ops.size L:=by rw[u1]; exact List.mem_append_left _ hkp
   obtain ⟨k1,k2⟩:=mem_unlisted.1 hkm
   refine hcomm k i ok o (u3 k hkp) hok' ho _ hcl (fun e he hb=>hd e he hb) fun hl => ?_
   have:k<L.size:=by omega
   simp[this] at k2 hl
   rw[k2] at hl; cases hl
  refine QN hI ho s1 fun v M' B' w' hG => ?_
  refine ih (L.setIfInBounds i true) (by simpa using hL) (by rw[u2]; rw[u1] at hlen; simp at hlen ⊢; omega) (fun j oj hj hlj e he hb => ?_) hG.inv (by rw[u2]; exact s2) hk fun M2 B2 a2 w2 hk2 hG2 hd2=>hQ M2 B2 a2 w2 hk2 (hG.trans hG2) (by rw[hd2,Act.put_defers'])
  by_cases hij:i=j
  ·subst hij
   rw[ho] at hj; cases hj
   exact getD_set_true (hd e he hb)
  ·have hlj':(L.setIfInBounds i true).getD j false=true:=hlj
   rw[getD_set_ne false hij] at hlj'
   exact getD_set_true (hcl j oj hj hlj' e he hb)
def YN (E:AE) (g:FuncId) (args:List PV) (dst:Option Nat) (K:ASt→Prop) (σ:ASt):Prop:=(∃ r,Ev E.P g args [] r []∧r.flat=true∧PV.flats args=true∧bJ E dst r σ K)∨(dL E.sy dst=true∧∃ r h',Ev E.P g args σ.h r h'∧VI E h' σ.h∧bJ E dst r { σ with h:=h' } K)
def qK (E:AE) (o:Oper) (K:ASt→Prop) (σ:ASt):Prop :=
 match kE o with
 | some (f,args)=>(match σ.rd f,bQ (args.map σ.rd) with
  | some (.func (.func g) first caps),some az=>YN E g (first ++ az ++ caps) o.dst K σ
  | _,_=>False)
 | none=>sW E o K σ
def eX (E:AE) (ops:Array Oper):List Oper→(ASt→Prop)→ASt→Prop
 | [],Q,σ=>Q σ
 | o::l,Q,σ =>
  match o.guard with
  | none=>qK E o (eX E ops l Q) σ
  | some (j,want)=>match OG ops σ j with
   | some none=>bJ E o.dst (.tuple []) σ (eX E ops l Q)
   | some (some b)=>(b=want→qK E o (eX E ops l Q) σ)∧(b≠want→bJ E o.dst (.tuple []) σ (eX E ops l Q))
   | none=>False
def aLB (E:AE) (ops:Array Oper) (K:ASt→Prop) (σ:ASt):Prop:=okD E ops=true∧eX E ops ops.toList K σ
theorem sU {d:Option Nat} {p:PV} {K:ASt→Prop} (h:bJ E d p σ K):∃ σ',ASt.put E d p σ=some σ'∧K σ':=by
 unfold bJ at h; split at h
 ·rename_i σ' hs; exact ⟨σ',hs,h⟩
 ·exact h.elim
theorem YI {K:ASt→Prop} (h:qK E o K σ):∃ σ',QB E o σ σ'∧K σ':=by
 unfold qK at h
 unfold QB
 split at h
 ·rename_i f args hc
  split at h
  ·rename_i g first caps az h1 h2
   rcases h with ⟨r,a1,a2,a3,a4⟩ | ⟨hsy,r,h',a1,aro,a4⟩
   ·obtain ⟨σ',a5,a6⟩:=sU a4
    exact ⟨σ',⟨g,first,caps,az,r,h1,h2,.inl ⟨a1,a2,a3,a5⟩⟩,a6⟩
   ·obtain ⟨σ',a5,a6⟩:=sU a4
    exact ⟨σ',⟨g,first,caps,az,r,h1,h2,.inr ⟨hsy,h',a1,aro,a5⟩⟩,a6⟩
  ·exact h.elim
 ·rename_i hc
  unfold sW at h
  split at h
  ·rename_i p σ1 hs
   obtain ⟨σ',a5,a6⟩:=sU h.2
   exact ⟨σ',⟨p,σ1,hs,h.1,a5⟩,a6⟩
  ·exact h.elim
theorem vN {K:ASt→Prop}:∀ (l:List Oper) (k:Nat) {σ:ASt},(∀ j,l[j]? = ops[k+j]?)→eX E ops l K σ→∃ σ',Chain E ops (List.range' k l.length) σ σ'∧K σ'
 | [],k,σ,_,h=>⟨σ,rfl,h⟩
 | o::l,k,σ,hl,h=>by
  have ho:ops[k]? = some o:=by have:=hl 0; simpa using this.symm
  have go:∀ σ1,AStepD E ops o σ σ1→eX E ops l K σ1→∃ σ',Chain E ops (List.range' k (o::l).length) σ σ'∧K σ':=fun σ1 h1 h2=>by
   obtain ⟨σ',h3,h4⟩:=vN l (k+1) (fun j=>by have:=hl (j+1); simpa[Nat.add_assoc,Nat.add_comm 1 j] using this) h2
   exact ⟨σ',by rw[List.length_cons,List.range'_succ]; exact ⟨o,ho,σ1,h1,h3⟩,h4⟩
  have run:XI ops σ o=some true→qK E o (eX E ops l K) σ→∃ σ',Chain E ops (List.range' k (o::l).length) σ σ'∧K σ':=fun hg h=>by
   obtain ⟨σ1,h1,h2⟩:=YI h
   exact go σ1 (.inl ⟨hg,h1⟩) h2
  have skip:XI ops σ o=some false→bJ E o.dst (.tuple []) σ (eX E ops l K)→∃ σ',Chain E ops (List.range' k (o::l).length) σ σ'∧K σ':=fun hg h=>by
   obtain ⟨σ1,h1,h2⟩:=sU h
   exact go σ1 (.inr ⟨hg,h1⟩) h2
  rw[eX] at h
  split at h
  ·rename_i hg; exact run (by simp[XI,hg]) h
  ·rename_i j want hg
   split at h
   ·rename_i hv; exact skip (by simp[XI,hg,hv]) h
   ·rename_i b hv
    by_cases hb:b=want
    ·exact run (by simp[XI,hg,hv,hb]) (h.1 hb)
    ·exact skip (by simp[XI,hg,hv,hb]) (h.2 hb)
   ·exact h.elim
theorem a6M (hm:E.P.follows .mixedOrders=true) {out:Nat→Nat} {M:Mem} {B:bY} {a:Act} {w:World} {id:Nat} {Q:Exit→Act→World→Prop} {K:ASt→Prop} (hI:Inv E.n M B out σ a.tmps w) (h:aLB E ops K σ)
 (hQ:∀ σ' M' B' a' w',K σ'→Good E.n out M B σ a.tmps w M' B' σ' a'.tmps w'→a'.defers=a.defers→Q .normal a' w'):(Code.region id ops true).wp E.P Q a w:=by
 obtain ⟨hok,h⟩:=h
 obtain ⟨σ',hc,hk⟩:=vN ops.toList 0 (fun j=>by simp) h
 have hd:=hI.drew
 have hu:dJ ops.size (Array.replicate ops.size false)=List.range' 0 ops.toList.length:=by
  unfold dJ
  rw[List.filter_eq_self.2 (fun i hi=>by have:=List.mem_range.1 hi; simp[this]),List.range_eq_range']; simp
 refine wp_region_any hm ?_
 refine WP hok ops.size (Array.replicate ops.size false) (K:=K) (σ':=σ') (by simp) (by rw[hu]; simp) (fun j o _ h => ?_) hd.1 (by rw[hu]; exact hc) hk fun M' B' a' w' hk' hG hd'=>hQ σ' M' B' a' w' hk' (hd.2.trans hG) hd'
 have h':(Array.replicate ops.size false).getD j false=true:=h
 simp[Array.getElem?_replicate] at h'
 split at h'<;>simp at h'
end
end Go.Proofs.YtcdceiloganlnaaGreatDoor
namespace Go.Proofs.YtcdceiloganlnaaGreatDoor
open Go.RowKit
def aFI (E:AE) (ops:Array Oper) (Kp:ASt→Prop):Nat→Array Bool→ASt→Prop
 | 0,L,σ=>Region.ready .any ops L = []∧Kp σ
 | fuel+1,L,σ=>(Region.ready .any ops L = []→Kp σ)∧∀ i,i∈Region.ready .any ops L→∃ o,ops[i]? = some o∧∃ σ',AStepD E ops o σ σ'∧aFI E ops Kp fuel (L.setIfInBounds i true) σ'
def aSU (j:Nat) (o:Oper):Bool:=o.after.toList.any fun e=>Region.binds .any e&&e.on==j
def a8G (E:AE) (ops:Array Oper) (L:Array Bool) (j:Nat):Bool:=match ops[j]? with
 | none=>false
 | some o=>(dJ ops.size L).all fun k=>k==j||(match ops[k]? with | none=>false | some ok=>aSU j ok||TF E ops o ok)
def AL (E:AE) (ops:Array Oper) (L:Array Bool):List Nat→Option Nat
 | []=>none
 | j::l=>match a8G E ops L j with | true=>some j | false=>AL E ops L l
def a7R (E:AE) (ops:Array Oper) (Kp:ASt→Prop):Nat→Array Bool→ASt→Prop
 | 0,L,σ=>Region.ready .any ops L = []∧Kp σ
 | fuel+1,L,σ=>(Region.ready .any ops L = []→Kp σ)∧∀ i,i∈(match AL E ops L (Region.ready .any ops L) with | some j => [j] | none=>Region.ready .any ops L)→∃ o,ops[i]? = some o∧∃ σ',AStepD E ops o σ σ'∧a7R E ops Kp fuel (L.setIfInBounds i true) σ'
section
variable {E:AE} {ops:Array Oper} {Kp:ASt→Prop}
theorem XZ {Kq:ASt→Prop} (hm:∀ σ,Kp σ→Kq σ):∀ (fuel:Nat) {L:Array Bool} {σ:ASt},a7R E ops Kp fuel L σ→a7R E ops Kq fuel L σ
 | 0,L,σ,h=>⟨h.1,hm σ h.2⟩
 | fuel+1,L,σ,h=>⟨fun e=>hm σ (h.1 e),fun i hi=>by
  obtain ⟨o,ho,σ',h1,h2⟩:=h.2 i hi
  exact ⟨o,ho,σ',h1,XZ hm fuel h2⟩⟩
theorem FZ {out:Nat→Nat} {Q:Exit→Act→World→Prop}:∀ (fuel:Nat) (L:Array Bool) {M:Mem} {B:bY} {σ:ASt} {a:Act} {w:World},Inv E.n M B out σ a.tmps w→aFI E ops Kp fuel L σ →
 (∀ σt M' B' a' w',Kp σt→Good E.n out M B σ a.tmps w M' B' σt a'.tmps w'→a'.defers=a.defers→Q .normal a' w')→wpAny E.P .any ops Q fuel L a w
 | 0,L,M,B,σ,a,w,hI,h,hQ=>⟨h.1,hQ σ M B a w h.2 (Good.refl hI) rfl⟩
 | fuel+1,L,M,B,σ,a,w,hI,h,hQ=>by
  refine ⟨fun e=>hQ σ M B a w (h.1 e) (Good.refl hI) rfl,fun i hi => ?_⟩
  obtain ⟨o,ho,σ',h1,h2⟩:=h.2 i hi
  refine QN hI ho h1 fun v M' B' w' hG => ?_
  exact FZ fuel _ hG.inv h2 fun σ3 M3 B3 a3 w3 hk3 hG3 hd=>hQ σ3 M3 B3 a3 w3 hk3 (hG.trans hG3) (by rw[hd,Act.put_defers'])
theorem TC {L:Array Bool} {j:Nat}:∀ {l:List Nat},AL E ops L l=some j→j∈l∧a8G E ops L j=true
 | [],h=>by cases h
 | i::l,h=>by
  unfold AL at h
  split at h
  ·rename_i hc; cases h; exact ⟨by simp,hc⟩
  ·have:=TC h; exact ⟨by simp[this.1],this.2⟩
theorem aDK {L:Array Bool} {i j:Nat}:(L.setIfInBounds i true).setIfInBounds j true=(L.setIfInBounds j true).setIfInBounds i true:=by
 apply Array.ext
 ·simp
 ·intro k h1 h2
  rw[Array.getElem_setIfInBounds (by simpa using h1),Array.getElem_setIfInBounds (by simpa using h1),Array.getElem_setIfInBounds (by simpa using h1),Array.getElem_setIfInBounds (by simpa using h1)]
  split<;>split<;>rfl
theorem MM {L:Array Bool} {i j:Nat} (hi:i∈Region.ready .any ops L) (hne:i≠j):i∈Region.ready .any ops (L.setIfInBounds j true):=by
 obtain ⟨h1,o,ho,hd⟩:=mem_ready.1 hi
 refine mem_ready.2 ⟨?_,o,ho,fun e he hb=>getD_set_true (hd e he hb)⟩
 rw[getD_set_ne true (Ne.symm hne)]; exact h1
theorem aMJ {n:Nat} {L:Array Bool} {i k:Nat} (h:k∈dJ n (L.setIfInBounds i true)):k∈dJ n L:=by
 obtain ⟨h1,h2⟩:=mem_unlisted.1 h
 refine mem_unlisted.2 ⟨h1,?_⟩
 by_cases hik:i=k
 ·subst hik
  by_cases hs:i<L.size
  ·simp[hs] at h2
  ·simp[hs] at h2
 ·rwa [getD_set_ne true hik] at h2
theorem aIF {j:Nat} {o:Oper} (ho:ops[j]? = some o):∀ (fuel:Nat) {L:Array Bool} {σ σj:ASt},yT σ.s→j∈Region.ready .any ops L→(∀ k,k∈dJ ops.size L→k≠j→∀ ok,ops[k]? = some ok→aSU j ok=true∨TF E ops o ok=true) →
 AStepD E ops o σ σj→aFI E ops Kp fuel (L.setIfInBounds j true) σj→aFI E ops Kp (fuel+1) L σ:=by
 intro fuel
 induction fuel with
 | zero =>
  intro L σ σj hs hj hc h1 h2
  refine ⟨fun e=>(by rw[e] at hj; cases hj),fun i hi => ?_⟩
  by_cases hij:i=j
  ·subst hij; exact ⟨o,ho,σj,h1,h2⟩
  ·have hi':=MM hi hij
   rw[h2.1] at hi'; cases hi'
 | succ fuel ih =>
  intro L σ σj hs hj hc h1 h2
  refine ⟨fun e=>(by rw[e] at hj; cases hj),fun i hi => ?_⟩
  by_cases hij:i=j
  ·subst hij; exact ⟨o,ho,σj,h1,h2⟩
  ·obtain ⟨oi,hoi,σji,h3,h4⟩:=h2.2 i (MM hi hij)
   obtain ⟨hi1,oi2,hoi2,hdep⟩:=mem_ready.1 hi
   rw[hoi] at hoi2; cases hoi2
   have hcomm:=(hc i (mem_unlisted.2 ⟨(Array.getElem?_eq_some_iff.1 hoi).1,hi1⟩) hij oi hoi).resolve_left fun hd=>by
    obtain ⟨e,he,hb⟩:=List.any_eq_true.1 hd
    simp only[Bool.and_eq_true,beq_iff_eq] at hb
    have h5:=hdep e (by simpa using he) hb.1
    rw[hb.2] at h5
    have h6:=(mem_ready.1 hj).1
    have hz:j<L.size:=by
     by_cases hz:j<L.size
     ·exact hz
     ·simp[hz] at h6
    simp[hz] at h5 h6
    rw[h5] at h6; cases h6
   obtain ⟨τ,t1,t2⟩:=aA' hs h1 h3 hcomm
   refine ⟨oi,hoi,τ,t1,ih (AStepD.srt t1 hs) (MM hj (Ne.symm hij)) (fun k hk hkj ok hok=>hc k (aMJ hk) hkj ok hok) t2 ?_⟩
   rw[aDK]; exact h4
theorem a09:∀ (fuel:Nat) {L:Array Bool} {σ:ASt},yT σ.s→a7R E ops Kp fuel L σ→aFI E ops Kp fuel L σ
 | 0,L,σ,_,h=>h
 | fuel+1,L,σ,hs,h=>by
  unfold a7R at h
  cases hf:AL E ops L (Region.ready .any ops L) with
  | some j =>
   rw[hf] at h
   obtain ⟨hm,hc⟩:=TC hf
   obtain ⟨o,ho,σj,h1,h2⟩:=h.2 j (by simp)
   unfold a8G at hc
   rw[ho] at hc
   simp only[List.all_eq_true,Bool.or_eq_true,beq_iff_eq] at hc
   refine aIF ho fuel hs hm (fun k hk hkj ok hok => ?_) h1 (a09 fuel (h1.srt hs) h2)
   have:=(hc k hk).resolve_left hkj
   rw[hok] at this
   exact (Bool.or_eq_true _ _).mp this
  | none =>
   rw[hf] at h
   refine ⟨h.1,fun i hi => ?_⟩
   obtain ⟨o,ho,σ',h1,h2⟩:=h.2 i hi
   exact ⟨o,ho,σ',h1,a09 fuel (h1.srt hs) h2⟩
theorem a3P {o:Oper} {σ:ASt} (h:eX E ops [o] Kp σ):∃ σ',AStepD E ops o σ σ'∧Kp σ':=by
 have run:XI ops σ o=some true→qK E o Kp σ→∃ σ',AStepD E ops o σ σ'∧Kp σ':=fun hg h=>by
  obtain ⟨σ1,h1,h2⟩:=YI h
  exact ⟨σ1,.inl ⟨hg,h1⟩,h2⟩
 have skip:XI ops σ o=some false→bJ E o.dst (.tuple []) σ Kp→∃ σ',AStepD E ops o σ σ'∧Kp σ':=fun hg h=>by
  obtain ⟨σ1,h1,h2⟩:=sU h
  exact ⟨σ1,.inr ⟨hg,h1⟩,h2⟩
 rw[eX] at h
 split at h
 ·rename_i hg; exact run (by simp[XI,hg]) h
 ·rename_i j want hg
  split at h
  ·rename_i hv; exact skip (by simp[XI,hg,hv]) h
  ·rename_i b hv
   by_cases hb:b=want
   ·exact run (by simp[XI,hg,hv,hb]) (h.1 hb)
   ·exact skip (by simp[XI,hg,hv,hb]) (h.2 hb)
  ·exact h.elim
end
def aSF (E:AE) (ops:Array Oper) (K:ASt→Prop) (σ:ASt):Prop:=aLB E ops K σ∨a7R E ops K ops.size (Array.replicate ops.size false) σ
theorem a1U {E:AE} (hm:E.P.follows .mixedOrders=true) {out:Nat→Nat} {M:Mem} {B:bY} {σ:ASt} {a:Act} {w:World} {id:Nat} {ops:Array Oper} {Q:Exit→Act→World→Prop} {K:ASt→Prop} (hI:Inv E.n M B out σ a.tmps w) (h:aSF E ops K σ)
 (hQ:∀ σ' M' B' a' w',K σ'→Good E.n out M B σ a.tmps w M' B' σ' a'.tmps w'→a'.defers=a.defers→Q .normal a' w'):(Code.region id ops true).wp E.P Q a w:=by
 rcases h with h | h
 ·exact a6M hm hI h hQ
 ·have hd:=hI.drew
  exact wp_region_any hm (FZ ops.size _ hd.1 (a09 _ hd.1.srt h) fun σt M' B' a' w' hk hG hdf=>hQ σt M' B' a' w' hk (hd.2.trans hG) hdf)
inductive AX where
 | normal
 | ret
 | exit (id:Nat)
def AX.toExit:AX→Exit
 | .normal => .normal
 | .ret => .ret
 | .exit i => .exit i
def ASt.keep (l:List Nat) (σ:ASt):ASt := { σ with s:=σ.s.filter fun kp=>l.contains kp.1 }
def zZ (sz:List (Nat×List Nat)):cZ→cZ
 | [] => []
 | (k,p)::l=>(match sz.lookup k with | some z=>(k,p.reszT z) | none=>(k,p))::zZ sz l
def a6J (zs:List Nat) (p:PV) (h:aG):aG:=match p with
 | .ptr i 0=>(match h[i]? with | some (some cs)=>h.set i (some (EY zs cs)) | _=>h)
 | _=>h
def a8E (s:cZ):List (Nat×List Nat)→aG→aG
 | [],h=>h
 | (k,zs)::l,h=>a8E s l (match bK k s with | some p=>a6J zs p h | none=>h)
def ASt.head (E:AE) (σ:ASt):ASt:=⟨zZ E.sz (σ.keep E.vars).s,a8E (zZ E.sz (σ.keep E.vars).s) E.pt σ.h⟩
def ASt.gc (l:List Nat) (m:Nat) (σ:ASt):ASt:=⟨σ.s.filter fun kp=>l.contains kp.1,σ.h.take m⟩
def QL (l:List Nat) (m:Nat) (σ:ASt):Bool:=(σ.gc l m).s.all (fun kp=>kp.2.blw m)&&OM m (σ.gc l m).h
def E5 (K:ASt→Prop) (Q:AX→ASt→Prop):AX→ASt→Prop
 | .normal,σ=>K σ
 | e,σ=>Q e σ
def dY (sz:Nat) (cs:List PV) (n:Nat):List PV:=match sz with
 | 1=>(cs.take n).map PV.un
 | _=>(List.range n).map fun j => .agg (((cs.drop (j*sz)).take sz).map PV.un)
def aMM (k:Nat) (σ:ASt):ASt:=match bK k σ.s with
 | some (.slh i 0 n sz)=>(match σ.h[i]? with
  | some (some cs)=>(match decide (n*sz≤cs.length)&&decide (0<sz)&&cs.all fun p=>p.one&&p.flat with
   | true=>⟨iH k (.sl false sz (dY sz cs n)) σ.s,σ.h.set i none⟩
   | false=>σ)
  | _=>σ)
 | _=>σ
def aUG (k:Nat) (σ:ASt):ASt:=match bK k σ.s with
 | some (.slh i 0 n 1)=>(match σ.h[i]? with
  | some (some cs)=>(match Nat.beq cs.length n&&cs.all fun p=>p.one&&p.flat with
   | true=>⟨iH k (.sl true 1 (cs.map PV.un)) σ.s,σ.h.set i none⟩
   | false=>σ)
  | _=>σ)
 | _=>σ
def thw (k:Nat) (σ:ASt):ASt:=match bK k σ.s with
 | some (.slp true n sz cs)=>(match Nat.ble 1 n with
  | true=>⟨iH k (.slh σ.h.length 0 n sz) σ.s,σ.h ++ [some cs]⟩
  | false=>⟨iH k (.sl false sz []) σ.s,σ.h⟩)
 | _=>σ
def aHT (k j:Nat) (σ:ASt):ASt:=match bK k σ.s with
 | some (.ptr i 0)=>(match σ.h[i]? with
  | some (some cs0)=>(match cs0[j]? with
   | some (.slp true n sz cs)=>(match Nat.ble 1 n with
    | true=>⟨σ.s,σ.h.set i (some (cs0.set j (.slh σ.h.length 0 n sz))) ++ [some cs]⟩
    | false=>⟨σ.s,σ.h.set i (some (cs0.set j (.sl false sz [])))⟩)
   | _=>σ)
  | _=>σ)
 | _=>σ
def aNH (k j:Nat) (σ:ASt):ASt:=match bK k σ.s with
 | some (.ptr i2 0)=>(match σ.h[i2]? with
  | some (some cs0)=>(match cs0[j]? with
   | some (.slh i 0 n sz)=>(match σ.h[i]? with
    | some (some cs)=>(match decide (n*sz≤cs.length)&&decide (0<sz)&&cs.all (fun p=>p.one&&p.flat) && !Nat.beq i i2 with
     | true=>⟨σ.s,(σ.h.set i none).set i2 (some (cs0.set j (.sl false sz (dY sz cs n))))⟩
     | false=>σ)
    | _=>σ)
   | _=>σ)
  | _=>σ)
 | _=>σ
def aKW (k:Nat) (σ:ASt):ASt:=match bK k σ.s with
 | some (.ptr i 0)=>(match σ.h[i]? with
  | some (some cs)=>(match decide (0<cs.length)&&cs.all fun p=>p.one&&p.flat with
   | true=>⟨iH k (.cst ((dY cs.length cs 1).headD .nilp)) σ.s,σ.h.set i none⟩
   | false=>σ)
  | _=>σ)
 | _=>σ
def F7 (k:Nat) (σ:ASt):ASt:=match Nat.ble 9000000 k with
 | true=>aKW (k-9000000) σ
 | false=>match Nat.ble 5000000 k with
 | true=>aNH ((k-5000000) / 100) ((k-5000000) % 100) σ
 | false=>match Nat.ble 4000000 k with
 | true=>aHT ((k-4000000) / 100) ((k-4000000) % 100) σ
 | false=>match Nat.ble 3000000 k with
 | true=>thw ((k-3000000) % 500000) σ
 | false=>match Nat.ble 1000000 k with
  | true=>aMM (k-1000000) σ
  | false=>aUG k σ
def HY:List Nat→ASt→ASt
 | [],σ=>σ
 | k::ks,σ=>HY ks (F7 k σ)
def jA (m0:Nat) (K:ASt→Prop) (σ:ASt):Prop:=∃ ks,K (HY ks σ)∨∃ l m,m0≤m∧QL l m (HY ks σ)=true∧K ((HY ks σ).gc l m)
def KZ (id:Nat) (Q:AX→ASt→Prop):AX→ASt→Prop
 | .exit i,σ=>if i=id then Q .normal σ else Q (.exit i) σ
 | e,σ=>Q e σ
def yM (m0:Nat) (body:(AX→ASt→Prop)→ASt→Prop) (Q:AX→ASt→Prop):Nat→ASt→Prop
 | 0,_=>False
 | n+1,σ=>∃ l m,m0≤m∧QL l m σ=true∧body (E5 (yM m0 body Q n) Q) (σ.gc l m)
def aTD (m0:Nat) (body:(AX→ASt→Prop)→ASt→Prop) (Q:AX→ASt→Prop) (σ:ASt):Prop:=∃ n,yM m0 body Q n σ
def kP (E:AE) (m0:Nat):Code→(AX→ASt→Prop)→ASt→Prop
 | .skip,Q,σ=>Q .normal σ
 | .region _ ops draw,Q,σ=>if draw then aSF E ops (Q .normal) (σ.head E) else dZ E ops ops.toList (Q .normal) (σ.head E)
 | .seq x y,Q,σ=>kP E m0 x (E5 (jA m0 (kP E m0 y Q)) Q) σ
 | .cond c x y,Q,σ=>match σ.rd c with
  | some (.bool b)=>(b=true→kP E m0 x Q σ)∧(b=false→kP E m0 y Q σ)
  | _=>False
 | .block id x,Q,σ=>kP E m0 x (KZ id Q) σ
 | .loop x,Q,σ=>aTD m0 (kP E m0 x) Q σ
 | .exit id,Q,σ=>Q (.exit id) σ
 | .ret,Q,σ=>Q .ret σ
 | .scope x,Q,σ=>kP E m0 x Q σ
 | .label _,Q,σ=>Q .normal σ
 | .rangeFunc _ _ _ _,_,_=>False
 | .goto _,_,_=>False
 | .refuse _,_,_=>False
structure GoodC (n:Nat) (out:Nat→Nat) (m0:Nat) (M:Mem) (B:bY) (σ:ASt) (t:Array Value) (w:World) (M':Mem) (B':bY) (σ':ASt) (t':Array Value) (w':World):Prop where
 inv:Inv n M' B' out σ' t' w'
 mem:∀ (b o:Nat) (v:Value),M b o=some v→M' b o=some v
 pre:∀ (i:Nat) (c:Nat×Nat×TypeId),i<m0→B[i]? = some c→B'[i]? = some c
 fr:Fr (fp B σ t w) M w M' w'
 own:∀ b,b<w.heap.size→fp B' σ' t' w' b≤fp B σ t w b
section
variable {n:Nat} {out:Nat→Nat} {m0:Nat} {M M1 M2:Mem} {B B1 B2:bY} {σ σ1 σ2:ASt} {t t1 t2:Array Value} {w w1 w2:World} {E:AE}
theorem GoodC.trans (h:GoodC n out m0 M B σ t w M1 B1 σ1 t1 w1) (k:GoodC n out m0 M1 B1 σ1 t1 w1 M2 B2 σ2 t2 w2):GoodC n out m0 M B σ t w M2 B2 σ2 t2 w2 :=
 ⟨k.inv,fun b o v e=>k.mem b o v (h.mem b o v e),fun i c hi e=>k.pre i c hi (h.pre i c hi e),h.fr.trans k.fr (fun b hb h0=>by have:=h.own b hb; omega),fun b hb=>Nat.le_trans (k.own b (Nat.lt_of_lt_of_le hb h.fr.size)) (h.own b hb)⟩
theorem Good.c (h:Good n out M B σ t w M1 B1 σ1 t1 w1):GoodC n out m0 M B σ t w M1 B1 σ1 t1 w1:=⟨h.inv,h.le.mem,fun i c _ e=>h.le.blk i c e,h.fr,h.own⟩
theorem GoodC.refl (h:Inv n M B out σ t w):GoodC n out m0 M B σ t w M B σ t w:=(Good.refl h).c
theorem AV (f:Nat×PV→Bool) (b:Nat):∀ s:cZ,iI (s.filter f) t b≤iI s t b
 | []=>Nat.le_refl _
 | (k,p)::l=>by
  have:=AV f b l
  rw[List.filter_cons]
  split
  ·rw[iI,iI]; omega
  ·rw[iI]; omega
theorem uM (f:Nat→Bool) {k:Nat} {p:PV}:∀ {s:cZ},bK k (s.filter fun kp=>f kp.1)=some p→bK k s=some p
 | [],h=>by simp[bK] at h
 | (j,q)::l,h=>by
  rw[List.filter_cons] at h
  split at h
  ·rw[bK] at h ⊢
   split at h
   ·rename_i e; rw[if_pos e]; exact h
   ·rename_i e; rw[if_neg e]; exact uM f h
  ·rename_i hf
   have:=uM f h
   rw[bK]
   split
   ·rename_i e; subst e
    have hm:=IM h
    rw[List.mem_filter] at hm
    exact absurd hm.2 hf
   ·exact this
theorem KQ (m:Nat) (b:Nat):∀ (h:aG) (B:bY),aJ w (h.take m) (B.take m) b≤aJ w h B b:=by
 induction m with
 | zero=>intro h B; simp[aJ]
 | succ m ih =>
  intro h B
  cases h with
  | nil=>simp[aJ]
  | cons x h =>
   cases B with
   | nil=>cases x<;>simp[aJ]
   | cons c B =>
    have:=ih h B
    cases x<;>simp only[List.take_succ_cons,aJ]<;>omega
theorem aCY (hI:Inv n M B out σ t w) (l:List Nat):Good n out M B σ t w M B (σ.keep l) t w:=by
 have hle:∀ b,fp B (σ.keep l) t w b≤fp B σ t w b:=fun b=>by
  have:=AV (t:=t) (fun kp=>l.contains kp.1) b σ.s
  simp only[fp,ASt.keep]; omega
 exact ⟨⟨hI.size,hI.mem,List.Pairwise.sublist List.filter_sublist hI.srt,fun k p hp=>hI.slots k p (uM (fun k=>l.contains k) hp),hI.heap,fun b=>by have:=hle b; have:=hI.cnt b; omega,fun b hb=>by have:=hle b; have:=hI.new b hb; omega⟩,MLe.refl _ _,Fr.refl _ _ _,fun b _=>hle b⟩
theorem BQ {k:Nat} {p:PV} {b:Nat} (hk:k<t.size) (hs:yT σ.s):iI (iH k p σ.s) t b+oN σ.s t k b=iI σ.s t b+bF p (t.getD k undef) b:=by
 have hset:t.setIfInBounds k (t.getD k undef)=t:=by
  apply Array.ext (by simp)
  intro i h1 h2
  by_cases h:k=i
  ·subst h; simp[hk]
  ·rw[Array.getElem_setIfInBounds (by simpa using h1),if_neg h]
 have:=BX (p:=p) (v:=t.getD k undef) (b:=b) hk hs
 rwa [hset] at this
theorem jU {b:Nat}:∀ {h:aG} {B:bY} {i:Nat} {cs:List PV} {c:Nat×Nat×TypeId},h[i]? = some (some cs)→B[i]? = some c→aJ w (h.set i none) B b+((if c.1=b then 1 else 0)+dP cs (aZ w c.1) b)=aJ w h B b
 | [],_,_,_,_,h,_=>by simp at h
 | _::_,[],_,_,_,_,h=>by simp at h
 | some ds::h,d::B,0,cs,c,h1,h2=>by simp at h1 h2; subst h1; subst h2; simp only[List.set_cons_zero,aJ]; omega
 | none::h,d::B,0,cs,c,h1,h2=>by simp at h1
 | some ds::h,d::B,i+1,cs,c,h1,h2=>by have:=jU (b:=b) (h:=h) (B:=B) (i:=i) (cs:=cs) (c:=c) (by simpa using h1) (by simpa using h2); simp only[List.set_cons_succ,aJ]; omega
 | none::h,d::B,i+1,cs,c,h1,h2=>by have:=jU (b:=b) (h:=h) (B:=B) (i:=i) (cs:=cs) (c:=c) (by simpa using h1) (by simpa using h2); simp only[List.set_cons_succ,aJ]; omega
theorem aCV (hI:Inv n M B out σ t w) (k:Nat):∃ M',GoodC n out m0 M B σ t w M' B (aUG k σ) t w:=by
 unfold aUG
 split
 case h_2=>exact ⟨M,GoodC.refl hI⟩
 rename_i i m hk
 split
 case h_2=>exact ⟨M,GoodC.refl hI⟩
 rename_i cs hi
 split
 case h_2=>exact ⟨M,GoodC.refl hI⟩
 rename_i hb
 simp only[Bool.and_eq_true,List.all_eq_true] at hb
 obtain ⟨hb1,hb2⟩:=hb
 have hm:cs.length=m:=Nat.eq_of_beq_eq_true hb1
 obtain ⟨hkn,hrep,_⟩:=hI.slots k _ hk
 obtain ⟨c,cap,⟨hc,hcm⟩,hv,hle,hcap⟩:=rep_slh.1 hrep
 obtain ⟨vs,ty,r1,o2,o3,o4,o5⟩:=hI.heap.at hi hc
 obtain ⟨ty,rfl,o1⟩:=jS r1 (by rw[o2.2]; exact hcm)
 have hkt:k<t.size:=by rw[hI.size]; exact hkn
 have hown:1≤aJ w σ.h B c.1:=by
  have:=bP (w:=w) c.1 hi hc
  simp only[if_true] at this; omega
 obtain ⟨M',hM'⟩:∃ M':Mem,∀ b o,M' b o=if b=c.1 then (if o<m then vs[o]? else none) else M b o:=⟨mkM _ _,sJ (IZ o5)⟩
 have hmem:MLe M M' B B:=⟨fun b o v h=>by
  have:b≠c.1:=fun e=>by subst e; rw[o5] at h; cases h
  rw[hM']; simp only[if_neg this]; exact h,fun _ _ h=>h⟩
 have hne:∀ b,b≠c.1→∀ o,M' b o=M b o:=fun b h o=>by rw[hM']; simp only[if_neg h]
 have hcell:∀ o,w.cell? ⟨c.1,o,none⟩=vs[o]? := fun o=>by simp[World.cell?,o1]
 have hS:=fun b=>BQ (t:=t) (p := .sl true 1 (cs.map PV.un)) (b:=b) hkt hI.srt
 have hH:=fun b=>jU (w:=w) (b:=b) hi hc
 have hvo:∀ b,bF (.sl true 1 (cs.map PV.un)) (t.getD k undef) b=if c.1=b then 1 else 0:=fun b=>by rw[hv]; simp[bF,PV.own]
 have hfp:∀ b,fp B ⟨iH k (.sl true 1 (cs.map PV.un)) σ.s,σ.h.set i none⟩ t w b≤fp B σ t w b:=fun b=>by
  have h1:=hS b
  have h2:=hH b
  rw[hvo] at h1
  simp only[fp]; omega
 have hfc:∀ b,1≤iI σ.s t b→b≠c.1:=fun b h e=>by
  subst e
  have:=hI.cnt c.1
  simp only[fp] at this; omega
 have hreps:∀ (j:Nat) e,(cs.map PV.un)[j]? = some e→Loc M' [] e c.1 (0+j*1):=fun j e he=>by
  rw[List.getElem?_map] at he
  cases hcj:cs[j]? with
  | none=>rw[hcj] at he; cases he
  | some q =>
   rw[hcj] at he
   cases he
   obtain ⟨v,hv',hr,_,_⟩:=o4 j q hcj
   have hj:j<m:=by rw[← hm]; exact (List.getElem?_eq_some_iff.1 hcj).1
   have hq:=hb2 q (List.mem_of_getElem? hcj)
   have h1:M' c.1 (0+j*1)=some v:=by rw[hM']; simp only[if_true]; rw[if_pos (by omega),show 0+j*1=j by omega]; exact hv'
   have hone:q.isAgg=false∧∀ ds,q ≠ .tuple ds:=by
    have:=hq.1
    cases q<;>first | (simp[PV.one] at this; done) | exact ⟨rfl,fun ds h=>by cases h⟩
   rw[a9C,jD hone.1 hone.2]
   exact ⟨v,h1,Rep.flat [] hq.2 (hr.mono hmem)⟩
 refine ⟨M',⟨⟨hI.size,fun b o v h => ?_,kV hI.srt,fun j p hj => ?_,⟨by simp[hI.heap.1],fun i' cs' hi' => ?_⟩,fun b=>by have:=hfp b; have:=hI.cnt b; omega,fun b hb=>by have:=hfp b; have:=hI.new b hb; omega⟩,hmem.mem,fun _ _ _ h=>h,⟨rfl,rfl,rfl,Nat.le_refl _,fun b hb h0=>⟨rfl,fun o=>hne b (fun e=>by subst e; simp only[fp] at h0; omega) o⟩⟩,fun b _=>hfp b⟩⟩
 ·by_cases e:b=c.1
  ·subst e
   rw[hM'] at h
   simp only[if_true] at h
   split at h
   ·rename_i ho
    rw[hcell]
    refine ⟨h,?_⟩
    obtain ⟨q,hq⟩:∃ q,cs[o]? = some q:=⟨_,List.getElem?_eq_getElem (by omega)⟩
    obtain ⟨v',hv',_,_,h1⟩:=o4 o q hq
    rw[hv'] at h; cases h; exact h1
   ·cases h
  ·rw[hne b e] at h; exact hI.mem b o v h
 ·rw[jG j hI.srt] at hj
  split at hj
  ·rename_i e; subst e; injection hj with hj; subst hj
   refine ⟨hkn,?_,?_⟩
   ·rw[hv]
    refine rep_sl.2 ⟨some ⟨c.1,0,none⟩,cap,by simp[hm],by simpa[hm] using hle,fun e he => ?_,(fun h=>by cases h),fun _=>⟨c.1,0,rfl,lI hreps⟩⟩
    obtain ⟨q,hq,rfl⟩:=List.mem_map.1 he
    have:=(hb2 q hq).1
    rw[ZJ]
    cases q<;>first | (simp[PV.one] at this; done) | rfl
   ·refine Y8 (fun l h=>by cases h) ?_
    intro sz es A n' cap' e1 e2
    rw[hv] at e2
    injection e1 with _ e1 e3
    subst e1; subst e3
    injection e2 with e2 e4 e5
    subst e2; subst e4; subst e5
    refine ⟨(fun h=>by cases h),(fun h=>by cases h),fun a ha => ?_⟩
    cases ha
    refine ⟨vs,ty,o1,by rw[o2.1]; simpa using hcap,fun o ho => ?_,rfl,rfl⟩
    rw[hM']; simp only[if_true]
    rw[if_neg (by simp at ho; omega)]
  ·rename_i hjk
   obtain ⟨s1,s2,s3⟩:=hI.slots j p hj
   refine ⟨s1,s2.mono hmem,s3.kept fun b ho=>⟨rfl,hne b (hfc b ?_)⟩⟩
   have:=pI (s:=σ.s) (t:=t) (k:=j) (b:=b)
   simp only[oN,hj] at this
   omega
 ·have hii:i'≠i:=fun e=>by
   subst e
   rw[List.getElem?_set_self (List.getElem?_eq_some_iff.1 hi).1] at hi'
   cases hi'
  simp only at hi'
  rw[List.getElem?_set_ne (Ne.symm hii)] at hi'
  obtain ⟨c',hc',vs',ty',q1,q2,q3,q4,q5⟩:=hI.heap.2 i' cs' hi'
  have hoc:∀ b,1≤(if c'.1=b then 1 else 0)+dP cs' (aZ w c'.1) b→b≠c.1:=fun b h e=>by
   subst e
   have h2:=jU (w:=w) (b:=c.1) hi hc
   have h3:=bP (w:=w) (h:=σ.h.set i none) c.1 (by rw[List.getElem?_set_ne (Ne.symm hii)]; exact hi') hc'
   have:=hI.cnt c.1
   simp only[if_true] at h2
   simp only[fp] at this; omega
  refine ⟨c',hc',vs',ty',q1,q2,q3,fun j p hj => ?_,fun o => ?_⟩
  ·obtain ⟨v,a1,a2,a3,a4⟩:=q4 j p hj
   refine ⟨v,a1,a2.mono hmem,a3.kept fun b ho=>⟨rfl,hne b (hoc b ?_)⟩,a4⟩
   have:=iF b hj (by rw[bM q1]; simpa using a1:(aZ w c'.1)[j]? = some v)
   omega
  ·rw[hne c'.1 (hoc c'.1 (by simp))]; exact q5 o
theorem xQ {sz:Nat} {cs:List PV} {n:Nat} (h0:0<sz) (hn:n*sz≤cs.length) (h1:∀ p,p∈cs→p.one=true):(dY sz cs n).length=n∧(∀ e,e∈dY sz cs n→e.size=sz) ∧
 ∀ (M:Mem) (b:Nat),(∀ (j:Nat) p,cs[j]? = some p→j<n*sz→Loc M [] p b j)→Locs M [] sz (dY sz cs n) b 0:=by
 by_cases h:sz=1
 ·subst h
  have e:dY 1 cs n=(cs.take n).map PV.un:=rfl
  rw[e]
  refine ⟨by simp; omega,fun e he => ?_,fun M b hc=>lI fun j p hj => ?_⟩
  ·obtain ⟨q,hq,rfl⟩:=List.mem_map.1 he
   have:=h1 q (List.mem_of_mem_take hq)
   rw[ZJ]
   cases q<;>first | (simp[PV.one] at this; done) | rfl
  ·rw[List.getElem?_map] at hj
   cases hq:(cs.take n)[j]? with
   | none=>simp[hq] at hj
   | some q =>
    simp[hq] at hj; subst hj
    have hlt:=(List.getElem?_eq_some_iff.1 hq).1
    simp at hlt
    rw[List.getElem?_take,if_pos (by omega)] at hq
    rw[a9C]
    have:=hc j q hq (by omega)
    rwa [show 0+j*1=j by omega]
 ·have e:dY sz cs n=(List.range n).map fun j => .agg (((cs.drop (j*sz)).take sz).map PV.un):=by
   unfold dY; split
   ·exact absurd rfl h
   ·rfl
  rw[e]
  have hfit:∀ j,j<n→j*sz+sz≤cs.length:=fun j hj=>by
   have:(j+1)*sz≤n*sz:=Nat.mul_le_mul_right _ hj
   rw[Nat.succ_mul] at this; omega
  refine ⟨by simp,fun e he => ?_,fun M b hc=>lI fun j p hj => ?_⟩
  ·obtain ⟨j,hj,rfl⟩:=List.mem_map.1 he
   have:=hfit j (List.mem_range.1 hj)
   simp[PV.size]; omega
  ·rw[List.getElem?_map] at hj
   cases hq:(List.range n)[j]? with
   | none=>simp[hq] at hj
   | some q =>
    obtain ⟨hlt,hq'⟩:=List.getElem?_eq_some_iff.1 hq
    simp at hlt hq'
    subst hq'
    rw[hq] at hj; injection hj with hj; subst hj
    refine loc_agg.2 (nG fun k r hr => ?_)
    rw[List.getElem?_map] at hr
    cases hd:((cs.drop (j*sz)).take sz)[k]? with
    | none=>simp[hd] at hr
    | some r' =>
     simp[hd] at hr; subst hr
     have hk:=(List.getElem?_eq_some_iff.1 hd).1
     simp at hk
     rw[List.getElem?_take,if_pos (by omega),List.getElem?_drop] at hd
     have hone:=h1 r' (List.mem_of_getElem? hd)
     have:=hc (j*sz+k) r' hd (by
      have:(j+1)*sz≤n*sz:=Nat.mul_le_mul_right _ hlt
      rw[Nat.succ_mul] at this; omega)
     obtain ⟨u,hu,hr⟩:=(iC hone).1 this
     exact ⟨u,by rw[Nat.zero_add]; exact hu,rep_un.2 hr⟩
theorem aC' (hI:Inv n M B out σ t w) (k:Nat):∃ M',GoodC n out m0 M B σ t w M' B (aMM k σ) t w:=by
 unfold aMM
 split
 case h_2=>exact ⟨M,GoodC.refl hI⟩
 rename_i i m sz hk
 split
 case h_2=>exact ⟨M,GoodC.refl hI⟩
 rename_i cs hi
 split
 case h_2=>exact ⟨M,GoodC.refl hI⟩
 rename_i hb
 simp only[Bool.and_eq_true,List.all_eq_true,decide_eq_true_eq] at hb
 obtain ⟨⟨hb1,hb0⟩,hb2⟩:=hb
 obtain ⟨hkn,hrep,_⟩:=hI.slots k _ hk
 obtain ⟨c,cap,⟨hc,hcm⟩,hv,hle,hcap⟩:=rep_slh.1 hrep
 obtain ⟨vs,ty,r1,o2,o3,o4,o5⟩:=hI.heap.at hi hc
 obtain ⟨ty,rfl,o1⟩:=jS r1 (by rw[o2.2]; exact hcm)
 have hkt:k<t.size:=by rw[hI.size]; exact hkn
 have hown:1≤aJ w σ.h B c.1:=by
  have:=bP (w:=w) c.1 hi hc
  simp only[if_true] at this; omega
 obtain ⟨M',hM'⟩:∃ M':Mem,∀ b o,M' b o=if b=c.1 then (if o<m*sz then vs[o]? else none) else M b o:=⟨mkM _ _,sJ (IZ o5)⟩
 have hmem:MLe M M' B B:=⟨fun b o v h=>by
  have:b≠c.1:=fun e=>by subst e; rw[o5] at h; cases h
  rw[hM']; simp only[if_neg this]; exact h,fun _ _ h=>h⟩
 have hne:∀ b,b≠c.1→∀ o,M' b o=M b o:=fun b h o=>by rw[hM']; simp only[if_neg h]
 have hcell:∀ o,w.cell? ⟨c.1,o,none⟩=vs[o]? := fun o=>by simp[World.cell?,o1]
 obtain ⟨k1,k2,k3⟩:=xQ hb0 hb1 fun p hp=>(hb2 p hp).1
 have hH:=fun b=>jU (w:=w) (b:=b) hi hc
 have hS:=fun b=>BQ (t:=t) (p := .sl false sz (dY sz cs m)) (b:=b) hkt hI.srt
 have hfp:∀ b,fp B ⟨iH k (.sl false sz (dY sz cs m)) σ.s,σ.h.set i none⟩ t w b≤fp B σ t w b:=fun b=>by
  have h1:=hS b
  have h2:=hH b
  rw[aN rfl] at h1
  simp only[fp]; omega
 have hfc:∀ b,1≤iI σ.s t b→b≠c.1:=fun b h e=>by
  subst e
  have:=hI.cnt c.1
  simp only[fp] at this; omega
 refine ⟨M',⟨⟨hI.size,fun b o v h => ?_,kV hI.srt,fun j p hj => ?_,⟨by simp[hI.heap.1],fun i' cs' hi' => ?_⟩,fun b=>by have:=hfp b; have:=hI.cnt b; omega,fun b hb=>by have:=hfp b; have:=hI.new b hb; omega⟩,hmem.mem,fun _ _ _ h=>h,⟨rfl,rfl,rfl,Nat.le_refl _,fun b hb h0=>⟨rfl,hne b (fun e=>by subst e; simp only[fp] at h0; omega)⟩⟩,fun b _=>hfp b⟩⟩
 ·by_cases e:b=c.1
  ·subst e
   rw[hM'] at h
   simp only[if_true] at h
   split at h
   ·rename_i ho
    rw[hcell]
    refine ⟨h,?_⟩
    obtain ⟨q,hq⟩:∃ q,cs[o]? = some q:=⟨_,List.getElem?_eq_getElem (by omega)⟩
    obtain ⟨v',hv',_,_,h1⟩:=o4 o q hq
    rw[hv'] at h; cases h; exact h1
   ·cases h
  ·rw[hne b e] at h; exact hI.mem b o v h
 ·rw[jG j hI.srt] at hj
  split at hj
  ·rename_i e; subst e; injection hj with hj; subst hj
   refine ⟨hkn,?_,cO rfl⟩
   rw[hv]
   refine rep_sl.2 ⟨some ⟨c.1,0,none⟩,cap,by rw[k1],by rw[k1]; exact hle,k2,(fun h=>by omega),fun _=>⟨c.1,0,rfl,k3 M' c.1 fun j q hq hlt => ?_⟩⟩
   obtain ⟨v,hv',hr,_,_⟩:=o4 j q hq
   have hq':=hb2 q (List.mem_of_getElem? hq)
   refine (iC hq'.1).2 ⟨v,?_,Rep.flat [] hq'.2 (hr.mono hmem)⟩
   rw[hM']; simp only[if_true]; rw[if_pos hlt]; exact hv'
  ·rename_i hjk
   obtain ⟨s1,s2,s3⟩:=hI.slots j p hj
   refine ⟨s1,s2.mono hmem,s3.kept fun b ho=>⟨rfl,hne b (hfc b ?_)⟩⟩
   have:=pI (s:=σ.s) (t:=t) (k:=j) (b:=b)
   simp only[oN,hj] at this
   omega
 ·have hii:i'≠i:=fun e=>by
   subst e
   rw[List.getElem?_set_self (List.getElem?_eq_some_iff.1 hi).1] at hi'
   cases hi'
  simp only at hi'
  rw[List.getElem?_set_ne (Ne.symm hii)] at hi'
  obtain ⟨c',hc',vs',ty',q1,q2,q3,q4,q5⟩:=hI.heap.2 i' cs' hi'
  have hoc:∀ b,1≤(if c'.1=b then 1 else 0)+dP cs' (aZ w c'.1) b→b≠c.1:=fun b h e=>by
   subst e
   have h2:=jU (w:=w) (b:=c.1) hi hc
   have h3:=bP (w:=w) (h:=σ.h.set i none) c.1 (by rw[List.getElem?_set_ne (Ne.symm hii)]; exact hi') hc'
   have:=hI.cnt c.1
   simp only[if_true] at h2
   simp only[fp] at this; omega
  refine ⟨c',hc',vs',ty',q1,q2,q3,fun j p hj => ?_,fun o => ?_⟩
  ·obtain ⟨v,a1,a2,a3,a4⟩:=q4 j p hj
   refine ⟨v,a1,a2.mono hmem,a3.kept fun b ho=>⟨rfl,hne b (hoc b ?_)⟩,a4⟩
   have:=iF b hj (by rw[bM q1]; simpa using a1:(aZ w c'.1)[j]? = some v)
   omega
  ·rw[hne c'.1 (hoc c'.1 (by simp))]; exact q5 o
theorem aC2 (hI:Inv n M B out σ t w) (k:Nat):∃ M',GoodC n out m0 M B σ t w M' B (aKW k σ) t w:=by
 unfold aKW
 split
 case h_2=>exact ⟨M,GoodC.refl hI⟩
 rename_i i hk
 split
 case h_2=>exact ⟨M,GoodC.refl hI⟩
 rename_i cs hi
 split
 case h_2=>exact ⟨M,GoodC.refl hI⟩
 rename_i hb
 simp only[Bool.and_eq_true,List.all_eq_true,decide_eq_true_eq] at hb
 obtain ⟨hb0,hb2⟩:=hb
 generalize hsz:cs.length=sz at hb0 ⊢
 have hb1:1*sz≤cs.length:=by omega
 obtain ⟨hkn,hrep,_⟩:=hI.slots k _ hk
 obtain ⟨c,⟨hc,hcm⟩,hv⟩:=rep_ptr.1 hrep
 obtain ⟨vs,ty,r1,o2,o3,o4,o5⟩:=hI.heap.at hi hc
 obtain ⟨ty,rfl,o1⟩:=jS r1 (by rw[o2.2]; exact hcm)
 have hkt:k<t.size:=by rw[hI.size]; exact hkn
 have hown:1≤aJ w σ.h B c.1:=by
  have:=bP (w:=w) c.1 hi hc
  simp only[if_true] at this; omega
 obtain ⟨M',hM'⟩:∃ M':Mem,∀ b o,M' b o=if b=c.1 then (if o<1*sz then vs[o]? else none) else M b o:=⟨mkM _ _,sJ (IZ o5)⟩
 have hmem:MLe M M' B B:=⟨fun b o v h=>by
  have:b≠c.1:=fun e=>by subst e; rw[o5] at h; cases h
  rw[hM']; simp only[if_neg this]; exact h,fun _ _ h=>h⟩
 have hne:∀ b,b≠c.1→∀ o,M' b o=M b o:=fun b h o=>by rw[hM']; simp only[if_neg h]
 have hcell:∀ o,w.cell? ⟨c.1,o,none⟩=vs[o]? := fun o=>by simp[World.cell?,o1]
 obtain ⟨k1,k2,k3⟩:=xQ hb0 hb1 fun p hp=>(hb2 p hp).1
 obtain ⟨x,hx⟩:∃ x,dY sz cs 1 = [x]:=by
  match hh:dY sz cs 1,k1 with
  | [x],_=>exact ⟨x,rfl⟩
 rw[hx] at k3 ⊢
 show ∃ M',GoodC n out m0 M B σ t w M' B ⟨iH k (.cst x) σ.s,σ.h.set i none⟩ t w
 have hH:=fun b=>jU (w:=w) (b:=b) hi hc
 have hS:=fun b=>BQ (t:=t) (p := .cst x) (b:=b) hkt hI.srt
 have hfp:∀ b,fp B ⟨iH k (.cst x) σ.s,σ.h.set i none⟩ t w b≤fp B σ t w b:=fun b=>by
  have h1:=hS b
  have h2:=hH b
  rw[aN rfl] at h1
  simp only[fp]; omega
 have hfc:∀ b,1≤iI σ.s t b→b≠c.1:=fun b h e=>by
  subst e
  have:=hI.cnt c.1
  simp only[fp] at this; omega
 refine ⟨M',⟨⟨hI.size,fun b o v h => ?_,kV hI.srt,fun j p hj => ?_,⟨by simp[hI.heap.1],fun i' cs' hi' => ?_⟩,fun b=>by have:=hfp b; have:=hI.cnt b; omega,fun b hb=>by have:=hfp b; have:=hI.new b hb; omega⟩,hmem.mem,fun _ _ _ h=>h,⟨rfl,rfl,rfl,Nat.le_refl _,fun b hb h0=>⟨rfl,hne b (fun e=>by subst e; simp only[fp] at h0; omega)⟩⟩,fun b _=>hfp b⟩⟩
 ·by_cases e:b=c.1
  ·subst e
   rw[hM'] at h
   simp only[if_true] at h
   split at h
   ·rename_i ho
    rw[hcell]
    refine ⟨h,?_⟩
    obtain ⟨q,hq⟩:∃ q,cs[o]? = some q:=⟨_,List.getElem?_eq_getElem (by omega)⟩
    obtain ⟨v',hv',_,_,h1⟩:=o4 o q hq
    rw[hv'] at h; cases h; exact h1
   ·cases h
  ·rw[hne b e] at h; exact hI.mem b o v h
 ·rw[jG j hI.srt] at hj
  split at hj
  ·rename_i e; subst e; injection hj with hj; subst hj
   refine ⟨hkn,?_,cO rfl⟩
   rw[hv]
   refine rep_cst.2 ⟨c.1,0,rfl,(locs_cons.1 (k3 M' c.1 fun j q hq hlt => ?_)).1⟩
   obtain ⟨v,hv',hr,_,_⟩:=o4 j q hq
   have hq':=hb2 q (List.mem_of_getElem? hq)
   refine (iC hq'.1).2 ⟨v,?_,Rep.flat [] hq'.2 (hr.mono hmem)⟩
   rw[hM']; simp only[if_true]; rw[if_pos hlt]; exact hv'
  ·rename_i hjk
   obtain ⟨s1,s2,s3⟩:=hI.slots j p hj
   refine ⟨s1,s2.mono hmem,s3.kept fun b ho=>⟨rfl,hne b (hfc b ?_)⟩⟩
   have:=pI (s:=σ.s) (t:=t) (k:=j) (b:=b)
   simp only[oN,hj] at this
   omega
 ·have hii:i'≠i:=fun e=>by
   subst e
   rw[List.getElem?_set_self (List.getElem?_eq_some_iff.1 hi).1] at hi'
   cases hi'
  simp only at hi'
  rw[List.getElem?_set_ne (Ne.symm hii)] at hi'
  obtain ⟨c',hc',vs',ty',q1,q2,q3,q4,q5⟩:=hI.heap.2 i' cs' hi'
  have hoc:∀ b,1≤(if c'.1=b then 1 else 0)+dP cs' (aZ w c'.1) b→b≠c.1:=fun b h e=>by
   subst e
   have h2:=jU (w:=w) (b:=c.1) hi hc
   have h3:=bP (w:=w) (h:=σ.h.set i none) c.1 (by rw[List.getElem?_set_ne (Ne.symm hii)]; exact hi') hc'
   have:=hI.cnt c.1
   simp only[if_true] at h2
   simp only[fp] at this; omega
  refine ⟨c',hc',vs',ty',q1,q2,q3,fun j p hj => ?_,fun o => ?_⟩
  ·obtain ⟨v,a1,a2,a3,a4⟩:=q4 j p hj
   refine ⟨v,a1,a2.mono hmem,a3.kept fun b ho=>⟨rfl,hne b (hoc b ?_)⟩,a4⟩
   have:=iF b hj (by rw[bM q1]; simpa using a1:(aZ w c'.1)[j]? = some v)
   omega
  ·rw[hne c'.1 (hoc c'.1 (by simp))]; exact q5 o
theorem PE {p:PV} (h:p.lit=true):p.own=false:=by cases p<;>first | rfl | (simp[PV.lit] at h)
theorem a1V {cs:List PV} {us:List Value} {b:Nat} (h:∀ p,p∈cs→p.own=false):dP cs us b=0:=by
 induction cs generalizing us with
 | nil=>cases us<;>rfl
 | cons p cs ih =>
  cases us with
  | nil=>rfl
  | cons u us=>rw[dP,aN (h p (by simp)),ih fun q hq=>h q (by simp[hq])]
theorem a3M {p0 q:PV} {v:Value} {b:Nat} (hq:q.own=false):∀ (cs:List PV) (us:List Value) (j:Nat),cs[j]? = some p0→us[j]? = some v→dP (cs.set j q) us b+bF p0 v b=dP cs us b:=by
 intro cs
 induction cs with
 | nil=>intro us j h1; simp at h1
 | cons c cs ih =>
  intro us j h1 h2
  cases us with
  | nil=>simp at h2
  | cons u us =>
   cases j with
   | zero=>simp at h1 h2; subst h1; subst h2; simp only[List.set_cons_zero,dP,aN hq]; omega
   | succ j=>have:=ih us j (by simpa using h1) (by simpa using h2); simp only[List.set_cons_succ,dP]; omega
theorem MH {cs cs':List PV} {c:Nat×Nat×TypeId} {k b:Nat} (hk:dP cs' (aZ w c.1) b+k=dP cs (aZ w c.1) b):∀ (h:aG) (B:bY) (i:Nat),h[i]? = some (some cs)→B[i]? = some c→aJ w (h.set i (some cs')) B b+k=aJ w h B b:=by
 intro h
 induction h with
 | nil=>intro B i h1; simp at h1
 | cons x h ih =>
  intro B i h1 h2
  cases B with
  | nil=>simp at h2
  | cons d B =>
   cases i with
   | zero=>simp at h1 h2; subst h1; subst h2; simp only[List.set_cons_zero,aJ]; omega
   | succ i =>
    simp at h1 h2
    have:=ih B i h1 h2
    cases x<;>simp only[List.set_cons_succ,aJ]<;>omega
theorem aBS {M:Mem} {w:World} {k sz:Nat} {cs:List PV} {v:Value} (hr:Rep M B (.slp true k sz cs) v) (hT:Tl M w (.slp true k sz cs) v) (hk:1≤k) :
 ∃ g cap vs ty,v = .slice (some ⟨g,0,none⟩) k cap∧k≤cap∧w.heap[g]? = some (.cells vs ty (0,0))∧cap*sz≤vs.size∧cs.length=k*sz∧0<sz∧(∀ (j:Nat) p,cs[j]? = some p→p.lit=true∧∃ u,vs[j]? = some u∧Rep noM [] p u∧u.oneCell'=true)∧∀ o,M g o=none:=by
 obtain ⟨A,cap,e1,hle⟩:=rep_slp.1 hr
 obtain ⟨⟨h1,h2⟩,h3,h4⟩:=hT.p _ _ _ _ _ _ rfl e1
 cases A with
 | none=>have:=h3 rfl; omega
 | some ad =>
  obtain ⟨vs,ty,g1,g2,g3,g4,g5,g6⟩:=h4 ad rfl
  obtain ⟨g,off,spot⟩:=ad
  simp only at g1 g4 g5 g6
  subst g5; subst g6
  exact ⟨g,cap,vs,ty,e1,hle,g1,g2,h1,h2,g3,g4⟩
theorem a3N {M:Mem} {w:World} {k sz:Nat} {cs:List PV} {v:Value} (hr:Rep M B (.slp true k sz cs) v) (hT:Tl M w (.slp true k sz cs) v) (hk:k=0):Rep M B (.sl false sz []) v:=by
 obtain ⟨A,cap,e1,hle⟩:=rep_slp.1 hr
 obtain ⟨⟨h1,h2⟩,h3,h4⟩:=hT.p _ _ _ _ _ _ rfl e1
 subst hk
 exact rep_sl.2 ⟨A,cap,e1,Nat.zero_le _,by simp,fun h=>by omega,by simp⟩
theorem aEU (hI:Inv n M B out σ t w) (k:Nat):∃ B',GoodC n out m0 M B σ t w M B' (thw k σ) t w:=by
 unfold thw
 split
 case h_2=>exact ⟨B,GoodC.refl hI⟩
 rename_i m sz cs hk
 obtain ⟨hkn,hrep,hT⟩:=hI.slots k _ hk
 have hkt:k<t.size:=by rw[hI.size]; exact hkn
 split
 ·rename_i hm
  have hm:=Nat.le_of_ble_eq_true hm
  obtain ⟨g,cap,vs,ty,hv,hle,r1,r2,r3,r4,r5,r6⟩:=aBS hrep hT hm
  have hBl:σ.h.length=B.length:=hI.heap.1
  have hle2:MLe M M B (B ++ [(g,vs.size,ty+1)]):=⟨fun _ _ _ h=>h,fun i c h=>by rw[List.getElem?_append_left (List.getElem?_eq_some_iff.1 h).1]; exact h⟩
  have hown:∀ p,p∈cs→p.own=false:=fun p hp=>by
   obtain ⟨j,hj⟩:=List.mem_iff_getElem?.1 hp
   exact PE (r5 j p hj).1
  have hfp:∀ b,fp (B ++ [(g,vs.size,ty+1)]) ⟨iH k (.slh σ.h.length 0 m sz) σ.s,σ.h ++ [some cs]⟩ t w b=fp B σ t w b:=fun b=>by
   have h1:=BQ (t:=t) (p := .slh σ.h.length 0 m sz) (b:=b) hkt hI.srt
   rw[aN rfl,oN,hk] at h1
   have h2:bF (.slp true m sz cs) (t.getD k undef) b=if g=b then 1 else 0:=by rw[hv]; simp[bF,PV.own]
   simp only at h1
   rw[h2] at h1
   simp only[fp]
   rw[mV b hBl,a1V hown]
   simp only
   omega
  refine ⟨B ++ [(g,vs.size,ty+1)],⟨⟨hI.size,hI.mem,kV hI.srt,fun j p hj => ?_,⟨by simp[hBl],fun i cs' hi => ?_⟩,fun b=>by rw[hfp]; exact hI.cnt b,fun b hb=>by rw[hfp]; exact hI.new b hb⟩,fun _ _ _ h=>h,fun i c _ h=>hle2.blk i c h,Fr.refl _ _ _,fun b _=>by rw[hfp]; exact Nat.le_refl _⟩⟩
  ·rw[jG j hI.srt] at hj
   split at hj
   ·rename_i e; subst e; injection hj with hj; subst hj
    exact ⟨hkn,by rw[hv]; exact rep_slh.2 ⟨(g,vs.size,ty+1),cap,⟨by rw[hBl]; simp,by simp⟩,rfl,hle,by simpa using r2⟩,cO rfl⟩
   ·obtain ⟨s1,s2,s3⟩:=hI.slots j p hj
    exact ⟨s1,s2.mono hle2,s3⟩
  ·rcases Nat.lt_or_ge i σ.h.length with hlt | hge
   ·simp only at hi
    rw[List.getElem?_append_left hlt] at hi
    obtain ⟨c,hc,vs',ty',q1,q2,q3,q4,q5⟩:=hI.heap.2 i cs' hi
    exact ⟨c,hle2.blk _ _ hc,vs',ty',q1,q2,q3,fun j p hj=>by obtain ⟨v,a1,a2,a3,a4⟩:=q4 j p hj; exact ⟨v,a1,a2.mono hle2,a3,a4⟩,q5⟩
   ·simp only at hi
    rw[List.getElem?_append_right hge] at hi
    have:i-σ.h.length=0:=by
     rcases Nat.eq_zero_or_pos (i-σ.h.length) with h0 | h0
     ·exact h0
     ·rw[List.getElem?_eq_none (by simp; omega)] at hi; cases hi
    rw[this] at hi
    simp at hi; subst hi
    have hi':i=B.length:=by omega
    subst hi'
    refine ⟨(g,vs.size,ty+1),by simp,vs,ty+1,kS r1,⟨rfl,rfl⟩,?_,fun j p hj => ?_,r6⟩
    ·rw[r3]; exact Nat.le_trans (Nat.mul_le_mul_right _ hle) r2
    ·obtain ⟨p1,u,p2,p3,p4⟩:=r5 j p hj
     exact ⟨u,p2,aA4 p1 p3,cO (PE p1),p4⟩
 ·rename_i hm
  have hm0:m=0:=by
   rcases Nat.eq_zero_or_pos m with h | h
   ·exact h
   ·have:=Nat.ble_eq_true_of_le h; rw[show Nat.ble 1 m=Nat.ble (Nat.succ 0) m from rfl] at hm; rw[this] at hm; cases hm
  have hfp:∀ b,fp B ⟨iH k (.sl false sz []) σ.s,σ.h⟩ t w b≤fp B σ t w b:=fun b=>by
   have h1:=BQ (t:=t) (p := .sl false sz []) (b:=b) hkt hI.srt
   rw[aN rfl] at h1
   simp only[fp]; omega
  refine ⟨B,⟨⟨hI.size,hI.mem,kV hI.srt,fun j p hj => ?_,hI.heap,fun b=>by have:=hfp b; have:=hI.cnt b; omega,fun b hb=>by have:=hfp b; have:=hI.new b hb; omega⟩,fun _ _ _ h=>h,fun i c _ h=>h,Fr.refl _ _ _,fun b _=>hfp b⟩⟩
  rw[jG j hI.srt] at hj
  split at hj
  ·rename_i e; subst e; injection hj with hj; subst hj
   exact ⟨hkn,a3N hrep hT hm0,cO rfl⟩
  ·exact hI.slots j p hj
theorem aD9 (hI:Inv n M B out σ t w) (k j:Nat):∃ B',GoodC n out m0 M B σ t w M B' (aHT k j σ) t w:=by
 unfold aHT
 split
 case h_2=>exact ⟨B,GoodC.refl hI⟩
 rename_i i hk
 split
 case h_2=>exact ⟨B,GoodC.refl hI⟩
 rename_i cs0 hi
 split
 case h_2=>exact ⟨B,GoodC.refl hI⟩
 rename_i m sz cs hj
 obtain ⟨c,hc,vs0,ty0,o1,o2,o3,o4,o5⟩:=hI.heap.2 i cs0 hi
 obtain ⟨v,hv0,hrep,hT,hone⟩:=o4 j _ hj
 have hBl:σ.h.length=B.length:=hI.heap.1
 have hil:=(List.getElem?_eq_some_iff.1 hi).1
 have hcs:∀ (q:PV) (b:Nat),q.own=false→dP (cs0.set j q) (aZ w c.1) b+bF (.slp true m sz cs) v b=dP cs0 (aZ w c.1) b:=fun q b hq=>by
  rw[bM o1]; exact a3M hq cs0 vs0.toList j hj (by simpa using hv0)
 split
 ·rename_i hm
  have hm:=Nat.le_of_ble_eq_true hm
  obtain ⟨g,cap,vs,ty,hv,hle,r1,r2,r3,r4,r5,r6⟩:=aBS hrep hT hm
  have hle2:MLe M M B (B ++ [(g,vs.size,ty+1)]):=⟨fun _ _ _ h=>h,fun i c h=>by rw[List.getElem?_append_left (List.getElem?_eq_some_iff.1 h).1]; exact h⟩
  have hown:∀ p,p∈cs→p.own=false:=fun p hp=>by
   obtain ⟨j,hj⟩:=List.mem_iff_getElem?.1 hp
   exact PE (r5 j p hj).1
  have hfp:∀ b,fp (B ++ [(g,vs.size,ty+1)]) ⟨σ.s,σ.h.set i (some (cs0.set j (.slh σ.h.length 0 m sz))) ++ [some cs]⟩ t w b=fp B σ t w b:=fun b=>by
   have h1:=MH (hcs (.slh σ.h.length 0 m sz) b rfl) σ.h B i hi hc
   have h2:bF (.slp true m sz cs) v b=if g=b then 1 else 0:=by rw[hv]; simp[bF,PV.own]
   rw[h2] at h1
   simp only[fp]
   rw[mV b (by rw[List.length_set]; exact hBl),a1V hown]
   simp only
   omega
  refine ⟨B ++ [(g,vs.size,ty+1)],⟨⟨hI.size,hI.mem,hI.srt,fun j p hj => ?_,⟨by simp[hBl],fun i' cs' hi' => ?_⟩,fun b=>by rw[hfp]; exact hI.cnt b,fun b hb=>by rw[hfp]; exact hI.new b hb⟩,fun _ _ _ h=>h,fun i c _ h=>hle2.blk i c h,Fr.refl _ _ _,fun b _=>by rw[hfp]; exact Nat.le_refl _⟩⟩
  ·obtain ⟨s1,s2,s3⟩:=hI.slots j p hj
   exact ⟨s1,s2.mono hle2,s3⟩
  ·simp only at hi'
   rcases Nat.lt_or_ge i' σ.h.length with hlt | hge
   ·rw[List.getElem?_append_left (by rw[List.length_set]; exact hlt)] at hi'
    by_cases hii:i'=i
    ·subst hii
     rw[List.getElem?_set_self hil] at hi'
     injection hi' with hi'; injection hi' with hi'; subst hi'
     refine ⟨c,hle2.blk _ _ hc,vs0,ty0,o1,o2,by rw[List.length_set]; exact o3,fun j' p hj' => ?_,o5⟩
     by_cases hjj:j=j'
     ·subst hjj
      rw[List.getElem?_set_self (List.getElem?_eq_some_iff.1 hj).1] at hj'
      injection hj' with hj'; subst hj'
      exact ⟨v,hv0,by rw[hv]; exact rep_slh.2 ⟨(g,vs.size,ty+1),cap,⟨by rw[hBl]; simp,by simp⟩,rfl,hle,by simpa using r2⟩,cO rfl,hone⟩
     ·rw[List.getElem?_set_ne hjj] at hj'
      obtain ⟨u,a1,a2,a3,a4⟩:=o4 j' p hj'
      exact ⟨u,a1,a2.mono hle2,a3,a4⟩
    ·rw[List.getElem?_set_ne (Ne.symm hii)] at hi'
     obtain ⟨c,hc,vs',ty',q1,q2,q3,q4,q5⟩:=hI.heap.2 i' cs' hi'
     exact ⟨c,hle2.blk _ _ hc,vs',ty',q1,q2,q3,fun j p hj=>by obtain ⟨v,a1,a2,a3,a4⟩:=q4 j p hj; exact ⟨v,a1,a2.mono hle2,a3,a4⟩,q5⟩
   ·rw[List.getElem?_append_right (by rw[List.length_set]; exact hge),List.length_set] at hi'
    have:i'-σ.h.length=0:=by
     rcases Nat.eq_zero_or_pos (i'-σ.h.length) with h0 | h0
     ·exact h0
     ·rw[List.getElem?_eq_none (by simp; omega)] at hi'; cases hi'
    rw[this] at hi'
    simp at hi'; subst hi'
    have hi2:i'=B.length:=by omega
    subst hi2
    refine ⟨(g,vs.size,ty+1),by simp,vs,ty+1,kS r1,⟨rfl,rfl⟩,?_,fun j p hj => ?_,r6⟩
    ·rw[r3]; exact Nat.le_trans (Nat.mul_le_mul_right _ hle) r2
    ·obtain ⟨p1,u,p2,p3,p4⟩:=r5 j p hj
     exact ⟨u,p2,aA4 p1 p3,cO (PE p1),p4⟩
 ·rename_i hm
  have hm0:m=0:=by
   rcases Nat.eq_zero_or_pos m with h | h
   ·exact h
   ·have:=Nat.ble_eq_true_of_le h; rw[show Nat.ble 1 m=Nat.ble (Nat.succ 0) m from rfl] at hm; rw[this] at hm; cases hm
  have hfp:∀ b,fp B ⟨σ.s,σ.h.set i (some (cs0.set j (.sl false sz [])))⟩ t w b≤fp B σ t w b:=fun b=>by
   have h1:=MH (hcs (.sl false sz []) b rfl) σ.h B i hi hc
   simp only[fp]; omega
  refine ⟨B,⟨⟨hI.size,hI.mem,hI.srt,hI.slots,⟨by simp[hBl],fun i' cs' hi' => ?_⟩,fun b=>by have:=hfp b; have:=hI.cnt b; omega,fun b hb=>by have:=hfp b; have:=hI.new b hb; omega⟩,fun _ _ _ h=>h,fun i c _ h=>h,Fr.refl _ _ _,fun b _=>hfp b⟩⟩
  simp only at hi'
  by_cases hii:i'=i
  ·subst hii
   rw[List.getElem?_set_self hil] at hi'
   injection hi' with hi'; injection hi' with hi'; subst hi'
   refine ⟨c,hc,vs0,ty0,o1,o2,by rw[List.length_set]; exact o3,fun j' p hj' => ?_,o5⟩
   by_cases hjj:j=j'
   ·subst hjj
    rw[List.getElem?_set_self (List.getElem?_eq_some_iff.1 hj).1] at hj'
    injection hj' with hj'; subst hj'
    exact ⟨v,hv0,a3N hrep hT hm0,cO rfl,hone⟩
   ·rw[List.getElem?_set_ne hjj] at hj'
    exact o4 j' p hj'
  ·rw[List.getElem?_set_ne (Ne.symm hii)] at hi'
   exact hI.heap.2 i' cs' hi'
theorem aD3 (hI:Inv n M B out σ t w) (k j:Nat):∃ M',GoodC n out m0 M B σ t w M' B (aNH k j σ) t w:=by
 unfold aNH
 split
 case h_2=>exact ⟨M,GoodC.refl hI⟩
 rename_i i2 hk
 split
 case h_2=>exact ⟨M,GoodC.refl hI⟩
 rename_i cs0 hi2
 split
 case h_2=>exact ⟨M,GoodC.refl hI⟩
 rename_i i m sz hj
 split
 case h_2=>exact ⟨M,GoodC.refl hI⟩
 rename_i cs hi
 split
 case h_2=>exact ⟨M,GoodC.refl hI⟩
 rename_i hb
 simp only[Bool.and_eq_true,List.all_eq_true,decide_eq_true_eq,Bool.not_eq_true'] at hb
 obtain ⟨⟨⟨hb1,hb0⟩,hb2⟩,hbn⟩:=hb
 have hii2:i≠i2:=fun e=>by subst e; rw[Nat.beq_refl] at hbn; cases hbn
 obtain ⟨c2,hc2,vs2,ty2,p1,p2,p3,p4,p5⟩:=hI.heap.2 i2 cs0 hi2
 obtain ⟨v,hv0,hrep,_,hone⟩:=p4 j _ hj
 obtain ⟨c,cap,⟨hc,hcm⟩,hv,hle,hcap⟩:=rep_slh.1 hrep
 obtain ⟨vs,ty,r1,o2,o3,o4,o5⟩:=hI.heap.at hi hc
 obtain ⟨ty,rfl,o1⟩:=jS r1 (by rw[o2.2]; exact hcm)
 have hown:1≤aJ w σ.h B c.1:=by
  have:=bP (w:=w) c.1 hi hc
  simp only[if_true] at this; omega
 obtain ⟨M',hM'⟩:∃ M':Mem,∀ b o,M' b o=if b=c.1 then (if o<m*sz then vs[o]? else none) else M b o:=⟨mkM _ _,sJ (IZ o5)⟩
 have hmem:MLe M M' B B:=⟨fun b o v h=>by
  have:b≠c.1:=fun e=>by subst e; rw[o5] at h; cases h
  rw[hM']; simp only[if_neg this]; exact h,fun _ _ h=>h⟩
 have hne:∀ b,b≠c.1→∀ o,M' b o=M b o:=fun b h o=>by rw[hM']; simp only[if_neg h]
 have hcell:∀ o,w.cell? ⟨c.1,o,none⟩=vs[o]? := fun o=>by simp[World.cell?,o1]
 obtain ⟨k1,k2,k3⟩:=xQ hb0 hb1 fun p hp=>(hb2 p hp).1
 have hH:=fun b=>jU (w:=w) (b:=b) hi hc
 have hi2':(σ.h.set i none)[i2]? = some (some cs0):=by rw[List.getElem?_set_ne hii2]; exact hi2
 have hcs:∀ b,dP (cs0.set j (.sl false sz (dY sz cs m))) (aZ w c2.1) b+bF (.slh i 0 m sz) v b=dP cs0 (aZ w c2.1) b:=fun b=>by
  rw[bM p1]; exact a3M rfl cs0 vs2.toList j hj (by simpa using hv0)
 have hfp:∀ b,fp B ⟨σ.s,(σ.h.set i none).set i2 (some (cs0.set j (.sl false sz (dY sz cs m))))⟩ t w b≤fp B σ t w b:=fun b=>by
  have h1:=MH (hcs b) (σ.h.set i none) B i2 hi2' hc2
  have h2:=hH b
  simp only[fp]; omega
 have hfc:∀ b,1≤iI σ.s t b→b≠c.1:=fun b h e=>by
  subst e
  have:=hI.cnt c.1
  simp only[fp] at this; omega
 have hother:∀ {i':Nat} {cs':List PV} {c':Nat×Nat×TypeId} {b:Nat},i'≠i→σ.h[i']? = some (some cs')→B[i']? = some c'→1≤(if c'.1=b then 1 else 0)+dP cs' (aZ w c'.1) b→b≠c.1:=fun {i' cs' c' b} hii hi' hc' h e=>by
  subst e
  have h2:=jU (w:=w) (b:=c.1) hi hc
  have h3:=bP (w:=w) (h:=σ.h.set i none) c.1 (by rw[List.getElem?_set_ne (Ne.symm hii)]; exact hi') hc'
  have:=hI.cnt c.1
  simp only[if_true] at h2
  simp only[fp] at this; omega
 refine ⟨M',⟨⟨hI.size,fun b o v h => ?_,hI.srt,fun j p hj => ?_,⟨by simp[hI.heap.1],fun i' cs' hi' => ?_⟩,fun b=>by have:=hfp b; have:=hI.cnt b; omega,fun b hb=>by have:=hfp b; have:=hI.new b hb; omega⟩,hmem.mem,fun _ _ _ h=>h,⟨rfl,rfl,rfl,Nat.le_refl _,fun b hb h0=>⟨rfl,hne b (fun e=>by subst e; simp only[fp] at h0; omega)⟩⟩,fun b _=>hfp b⟩⟩
 ·by_cases e:b=c.1
  ·subst e
   rw[hM'] at h
   simp only[if_true] at h
   split at h
   ·rename_i ho
    rw[hcell]
    refine ⟨h,?_⟩
    obtain ⟨q,hq⟩:∃ q,cs[o]? = some q:=⟨_,List.getElem?_eq_getElem (by omega)⟩
    obtain ⟨v',hv',_,_,h1⟩:=o4 o q hq
    rw[hv'] at h; cases h; exact h1
   ·cases h
  ·rw[hne b e] at h; exact hI.mem b o v h
 ·obtain ⟨s1,s2,s3⟩:=hI.slots j p hj
  refine ⟨s1,s2.mono hmem,s3.kept fun b ho=>⟨rfl,hne b (hfc b ?_)⟩⟩
  have:=pI (s:=σ.s) (t:=t) (k:=j) (b:=b)
  simp only[oN,hj] at this
  omega
 ·by_cases hi22:i'=i2
  ·subst hi22
   simp only at hi'
   rw[List.getElem?_set_self (by rw[List.length_set]; exact (List.getElem?_eq_some_iff.1 hi2).1)] at hi'
   injection hi' with hi'; injection hi' with hi'; subst hi'
   refine ⟨c2,hc2,vs2,ty2,p1,p2,by rw[List.length_set]; exact p3,fun j' p hj' => ?_,fun o => ?_⟩
   ·by_cases hjj:j=j'
    ·subst hjj
     rw[List.getElem?_set_self (List.getElem?_eq_some_iff.1 hj).1] at hj'
     injection hj' with hj'; subst hj'
     refine ⟨v,hv0,?_,cO rfl,hone⟩
     rw[hv]
     refine rep_sl.2 ⟨some ⟨c.1,0,none⟩,cap,by rw[k1],by rw[k1]; exact hle,k2,(fun h=>by omega),fun _=>⟨c.1,0,rfl,k3 M' c.1 fun j q hq hlt => ?_⟩⟩
     obtain ⟨v,hv',hr,_,_⟩:=o4 j q hq
     have hq':=hb2 q (List.mem_of_getElem? hq)
     refine (iC hq'.1).2 ⟨v,?_,Rep.flat [] hq'.2 (hr.mono hmem)⟩
     rw[hM']; simp only[if_true]; rw[if_pos hlt]; exact hv'
    ·rw[List.getElem?_set_ne hjj] at hj'
     obtain ⟨u,a1,a2,a3,a4⟩:=p4 j' p hj'
     refine ⟨u,a1,a2.mono hmem,a3.kept fun b ho=>⟨rfl,hne b (hother (Ne.symm hii2) hi2 hc2 ?_)⟩,a4⟩
     have:=iF b hj' (by rw[bM p1]; simpa using a1:(aZ w c2.1)[j']? = some u)
     omega
   ·rw[hne c2.1 (hother (Ne.symm hii2) hi2 hc2 (by simp))]; exact p5 o
  ·have hii:i'≠i:=fun e=>by
    subst e
    simp only at hi'
    rw[List.getElem?_set_ne (Ne.symm hi22),List.getElem?_set_self (List.getElem?_eq_some_iff.1 hi).1] at hi'
    cases hi'
   simp only at hi'
   rw[List.getElem?_set_ne (Ne.symm hi22),List.getElem?_set_ne (Ne.symm hii)] at hi'
   obtain ⟨c',hc',vs',ty',q1,q2,q3,q4,q5⟩:=hI.heap.2 i' cs' hi'
   refine ⟨c',hc',vs',ty',q1,q2,q3,fun j p hj => ?_,fun o => ?_⟩
   ·obtain ⟨v,a1,a2,a3,a4⟩:=q4 j p hj
    refine ⟨v,a1,a2.mono hmem,a3.kept fun b ho=>⟨rfl,hne b (hother hii hi' hc' ?_)⟩,a4⟩
    have:=iF b hj (by rw[bM q1]; simpa using a1:(aZ w c'.1)[j]? = some v)
    omega
   ·rw[hne c'.1 (hother hii hi' hc' (by simp))]; exact q5 o
theorem aGE (hI:Inv n M B out σ t w) (k:Nat):∃ M' B',GoodC n out m0 M B σ t w M' B' (F7 k σ) t w:=by
 unfold F7
 split
 ·obtain ⟨M',h⟩:=aC2 (m0:=m0) hI (k-9000000)
  exact ⟨M',B,h⟩
 split
 ·obtain ⟨M',h⟩:=aD3 (m0:=m0) hI ((k-5000000) / 100) ((k-5000000) % 100)
  exact ⟨M',B,h⟩
 split
 ·obtain ⟨B',h⟩:=aD9 (m0:=m0) hI ((k-4000000) / 100) ((k-4000000) % 100)
  exact ⟨M,B',h⟩
 split
 ·obtain ⟨B',h⟩:=aEU (m0:=m0) hI ((k-3000000) % 500000)
  exact ⟨M,B',h⟩
 split
 ·obtain ⟨M',h⟩:=aC' (m0:=m0) hI (k-1000000)
  exact ⟨M',B,h⟩
 ·obtain ⟨M',h⟩:=aCV (m0:=m0) hI k
  exact ⟨M',B,h⟩
theorem CG:∀ (ks:List Nat) {M:Mem} {B:bY} {σ:ASt},Inv n M B out σ t w→∃ M' B',GoodC n out m0 M B σ t w M' B' (HY ks σ) t w
 | [],M,B,_,hI=>⟨M,B,GoodC.refl hI⟩
 | k::ks,M,B,σ,hI=>by
  obtain ⟨M1,B1,h1⟩:=aGE (m0:=m0) hI k
  obtain ⟨M2,B2,h2⟩:=CG ks h1.inv
  exact ⟨M2,B2,h1.trans h2⟩
theorem rE (hI:Inv n M B out σ t w) {l:List Nat} {m:Nat} (hm:m0≤m) (hg:QL l m σ=true):GoodC n out m0 M B σ t w M (B.take m) (σ.gc l m) t w:=by
 unfold QL at hg
 simp only[Bool.and_eq_true,List.all_eq_true] at hg
 obtain ⟨g1,g2⟩:=hg
 have hle:∀ b,fp (B.take m) (σ.gc l m) t w b≤fp B σ t w b:=fun b=>by
  have h1:=AV (t:=t) (fun kp=>l.contains kp.1) b σ.s
  have h2:=KQ (w:=w) m b σ.h B
  simp only[fp,ASt.gc]; omega
 refine ⟨⟨hI.size,hI.mem,List.Pairwise.sublist List.filter_sublist hI.srt,fun k p hp => ?_,⟨by simp[ASt.gc,hI.heap.1],fun i cs hi => ?_⟩,fun b=>by have:=hle b; have:=hI.cnt b; omega,fun b hb=>by have:=hle b; have:=hI.new b hb; omega⟩,fun _ _ _ h=>h,fun i c hi hc=>by rw[List.getElem?_take,if_pos (by omega)]; exact hc,Fr.refl _ _ _,fun b _=>hle b⟩
 ·obtain ⟨s1,s2,s3⟩:=hI.slots k p (uM (fun k=>l.contains k) hp)
  exact ⟨s1,s2.blw (g1 _ (IM hp)),s3⟩
 ·have hi0:=hi
  simp only[ASt.gc] at hi
  rw[List.getElem?_take] at hi
  split at hi
  ·rename_i hlt
   obtain ⟨c,hc,vs,ty,o1,o2,o3,o4,o5⟩:=hI.heap.2 i cs hi
   refine ⟨c,by rw[List.getElem?_take,if_pos hlt]; exact hc,vs,ty,o1,o2,o3,fun j p hj => ?_,o5⟩
   obtain ⟨v,a1,a2,a3,a4⟩:=o4 j p hj
   refine ⟨v,a1,a2.blw ?_,a3,a4⟩
   have:=List.all_eq_true.1 g2 _ (List.mem_of_getElem? hi0)
   exact blws_iff.1 this p (List.mem_of_getElem? hj)
  ·cases hi
theorem aHY (sz:List (Nat×List Nat)) {s:cZ} (h:yT s):yT (zZ sz s):=by
 induction s with
 | nil=>exact h
 | cons a l ih =>
  obtain ⟨k,p⟩:=a
  obtain ⟨h1,h2⟩:=srt_cons.1 h
  have hm:∀ (l:cZ) (b:Nat×PV),b∈zZ sz l→∃ c,c∈l∧c.1=b.1:=by
   intro l
   induction l with
   | nil=>intro b hb; simp[zZ] at hb
   | cons a l ih =>
    intro b hb
    obtain ⟨k,p⟩:=a
    rw[zZ] at hb
    rcases List.mem_cons.1 hb with hb | hb
    ·refine ⟨(k,p),by simp,?_⟩
     rw[hb]; split<;>rfl
    ·obtain ⟨c,hc,e⟩:=ih b hb
     exact ⟨c,by simp[hc],e⟩
  rw[zZ]
  refine srt_cons.2 ⟨fun b hb => ?_,ih h2⟩
  obtain ⟨c,hc,e⟩:=hm l b hb
  have:=h1 c hc
  rw[← e]
  split<;>exact this
theorem XN {sz:List (Nat×List Nat)} {k:Nat} {p:PV}:∀ {s:cZ},bK k (zZ sz s)=some p→∃ q,bK k s=some q∧(p=q∨∃ z,p=q.reszT z)
 | [],h=>by simp[zZ,bK] at h
 | (j,q)::l,h=>by
  rw[zZ] at h
  by_cases e:j=k
  ·refine ⟨q,by rw[bK,if_pos e],?_⟩
   split at h<;>(rw[bK,if_pos e] at h; injection h with h)
   ·exact .inr ⟨_,h.symm⟩
   ·exact .inl h.symm
  ·have h':bK k (zZ sz l)=some p:=by split at h<;>(rw[bK,if_neg e] at h; exact h)
   obtain ⟨r,h1,h2⟩:=XN h'
   exact ⟨r,by rw[bK,if_neg e]; exact h1,h2⟩
theorem XW {sz:List (Nat×List Nat)} {t:Array Value} {b:Nat}:∀ {s:cZ},iI (zZ sz s) t b=iI s t b
 | []=>rfl
 | (j,q)::l=>by
  rw[zZ]
  split<;>simp only[iI,U3,XW]
theorem aET (hI:Inv n M B out σ t w) (sz:List (Nat×List Nat)):Good n out M B σ t w M B { σ with s:=zZ sz σ.s } t w:=by
 have hle:∀ b,fp B { σ with s:=zZ sz σ.s } t w b=fp B σ t w b:=fun b=>by simp only[fp,XW]
 refine ⟨⟨hI.size,hI.mem,aHY _ hI.srt,fun k p hp => ?_,hI.heap,fun b=>by have:=hle b; have:=hI.cnt b; omega,fun b hb=>by have:=hle b; have:=hI.new b hb; omega⟩,MLe.refl _ _,Fr.refl _ _ _,fun b _=>by rw[hle b]; exact Nat.le_refl _⟩
 obtain ⟨q,h1,h2⟩:=XN hp
 obtain ⟨g1,g2,g3⟩:=hI.slots k q h1
 rcases h2 with rfl | ⟨z,rfl⟩
 ·exact ⟨g1,g2,g3⟩
 ·exact ⟨g1,wI z g2,a1G z g2 g3⟩
theorem a2E:∀ {zs:List Nat} {cs:List PV} {j:Nat} {p:PV},(EY zs cs)[j]? = some p→∃ q,cs[j]? = some q∧(p=q∨∃ z,p=q.own1 z)
 | [],cs,j,p,h=>by cases cs<;>exact ⟨p,h,.inl rfl⟩
 | z::zs,[],j,p,h=>by simp[EY] at h
 | z::zs,c::cs,0,p,h=>by simp[EY] at h; exact ⟨c,rfl,.inr ⟨z,h.symm⟩⟩
 | z::zs,c::cs,j+1,p,h=>by rw[EY,List.getElem?_cons_succ] at h; simpa using a2E h
theorem NC:∀ (zs:List Nat) (cs:List PV),(EY zs cs).length=cs.length
 | [],cs=>by cases cs<;>rfl
 | _::_,[]=>rfl
 | z::zs,c::cs=>by simp[EY,NC zs cs]
theorem WE:∀ {zs:List Nat} {cs:List PV} {vs:List Value} {b:Nat},(∀ (j:Nat) p v,cs[j]? = some p→vs[j]? = some v→Rep M B p v)→dP (EY zs cs) vs b=dP cs vs b
 | [],cs,vs,b,_=>by cases cs<;>rfl
 | _::_,[],vs,b,_=>rfl
 | z::zs,c::cs,[],b,_=>by simp[EY,dP]
 | z::zs,c::cs,v::vs,b,h=>by
  rw[EY,dP,dP,aED (M:=M) (B:=B) z (h 0 c v rfl rfl),WE fun j p u hp hu=>h (j+1) p u (by simpa using hp) (by simpa using hu)]
theorem aIO (hI:Inv n M B out σ t w) {i:Nat} {cs:List PV} (hi:σ.h[i]? = some (some cs)) (zs:List Nat):Good n out M B σ t w M B { σ with h:=σ.h.set i (some (EY zs cs)) } t w:=by
 obtain ⟨c,hc,vs,ty,o1,o2,o3,o4,o5⟩:=hI.heap.2 i cs hi
 have hrep:∀ (j:Nat) p v,cs[j]? = some p→vs.toList[j]? = some v→Rep M B p v:=fun j p v hp hv=>by
  obtain ⟨u,a1,a2,_⟩:=o4 j p hp
  rw[show vs[j]? = some v by simpa using hv] at a1; injection a1 with a1; subst a1; exact a2
 have hown:∀ b,aJ w (σ.h.set i (some (EY zs cs))) B b=aJ w σ.h B b:=fun b=>by
  have key:∀ (h:aG) (B':bY) (i:Nat),h[i]? = some (some cs)→B'[i]? = some c→aJ w (h.set i (some (EY zs cs))) B' b=aJ w h B' b:=by
   intro h
   induction h with
   | nil=>intro B' i h1; simp at h1
   | cons x h ih =>
    intro B' i h1 h2
    cases B' with
    | nil=>simp at h2
    | cons d B' =>
     cases i with
     | zero =>
      simp at h1 h2; subst h1; subst h2
      simp only[List.set_cons_zero,aJ]
      rw[bM o1,WE hrep]
     | succ i =>
      simp at h1 h2
      cases x with
      | none=>simp only[List.set_cons_succ,aJ]; exact ih B' i h1 h2
      | some ds=>simp only[List.set_cons_succ,aJ]; rw[ih B' i h1 h2]
  exact key σ.h B i hi hc
 have hfp:∀ b,fp B { σ with h:=σ.h.set i (some (EY zs cs)) } t w b=fp B σ t w b:=fun b=>by simp only[fp,hown]
 refine ⟨⟨hI.size,hI.mem,hI.srt,hI.slots,⟨by simp[hI.heap.1],fun i' cs' hi' => ?_⟩,fun b=>by rw[hfp]; exact hI.cnt b,fun b hb=>by rw[hfp]; exact hI.new b hb⟩,MLe.refl _ _,Fr.refl _ _ _,fun b _=>by rw[hfp]; exact Nat.le_refl _⟩
 by_cases hii:i'=i
 ·subst hii
  rw[List.getElem?_set_self (List.getElem?_eq_some_iff.1 hi).1] at hi'
  injection hi' with hi'; injection hi' with hi'; subst hi'
  refine ⟨c,hc,vs,ty,o1,o2,by rw[NC]; exact o3,fun j p hp => ?_,o5⟩
  obtain ⟨q,hq,h⟩:=a2E hp
  obtain ⟨u,a1,a2,a3,a4⟩:=o4 j q hq
  rcases h with rfl | ⟨z,rfl⟩
  ·exact ⟨u,a1,a2,a3,a4⟩
  ·exact ⟨u,a1,aFK z a2,aRG z a2 a3,a4⟩
 ·rw[List.getElem?_set_ne (Ne.symm hii)] at hi'
  exact hI.heap.2 i' cs' hi'
theorem NT (s:cZ):∀ (l:List (Nat×List Nat)) {σ:ASt},Inv n M B out σ t w→Good n out M B σ t w M B { σ with h:=a8E s l σ.h } t w
 | [],σ,hI=>Good.refl hI
 | (k,zs)::l,σ,hI=>by
  have h1:Good n out M B σ t w M B { σ with h:=match bK k s with | some p=>a6J zs p σ.h | none=>σ.h } t w:=by
   split
   ·rename_i p hp
    unfold a6J
    split
    ·rename_i i
     split
     ·rename_i cs hcs; exact aIO hI hcs zs
     ·exact Good.refl hI
    ·exact Good.refl hI
   ·exact Good.refl hI
  exact h1.trans (NT s l h1.inv)
theorem D7 {E:AE} (hI:Inv n M B out σ t w):Good n out M B σ t w M B (σ.head E) t w:=by
 have hk:=aCY hI E.vars
 have h2:=aET hk.inv E.sz
 exact (hk.trans h2).trans (NT (zZ E.sz (σ.keep E.vars).s) E.pt h2.inv)
def lift (E:AE) (out:Nat→Nat) (m0:Nat) (M:Mem) (B:bY) (σ:ASt) (t:Array Value) (w:World) (ds:List Deferred) (Q:AX→ASt→Prop) (e:Exit) (a':Act) (w':World):Prop :=
 ∃ ax σ' M' B',e=ax.toExit∧Q ax σ'∧a'.defers=ds∧GoodC E.n out m0 M B σ t w M' B' σ' a'.tmps w'
theorem yH {ds:List Deferred} {Q:AX→ASt→Prop} (h:GoodC E.n out m0 M B σ t w M1 B1 σ1 t1 w1) {e:Exit} {a':Act} {w':World} (k:lift E out m0 M1 B1 σ1 t1 w1 ds Q e a' w'):lift E out m0 M B σ t w ds Q e a' w':=by
 obtain ⟨ax,σ',M',B',h1,h2,h3,h4⟩:=k
 exact ⟨ax,σ',M',B',h1,h2,h3,h.trans h4⟩
theorem fC (hm:E.P.follows .mixedOrders=true):∀ (c:Code) {M:Mem} {B:bY} {σ:ASt} {a:Act} {w:World} {Q:AX→ASt→Prop},Inv E.n M B out σ a.tmps w→kP E m0 c Q σ→c.wp E.P (lift E out m0 M B σ a.tmps w a.defers Q) a w
 | .skip,M,B,σ,a,w,Q,hI,h=>wp_skip ⟨.normal,σ,M,B,rfl,h,rfl,GoodC.refl hI⟩
 | .label l,M,B,σ,a,w,Q,hI,h=>wp_label ⟨.normal,σ,M,B,rfl,h,rfl,GoodC.refl hI⟩
 | .exit id,M,B,σ,a,w,Q,hI,h=>wp_exit ⟨.exit id,σ,M,B,rfl,h,rfl,GoodC.refl hI⟩
 | .ret,M,B,σ,a,w,Q,hI,h=>wp_ret ⟨.ret,σ,M,B,rfl,h,rfl,GoodC.refl hI⟩
 | .region id ops draw,M,B,σ,a,w,Q,hI,h=>by
  have hk:=D7 (E:=E) hI
  rw[kP] at h
  cases draw with
  | false =>
   simp only[Bool.false_eq_true,if_false] at h
   exact wp_region_list (nY _ hk.inv h fun σ' M' B' a' w' hq hG hd=>⟨.normal,σ',M',B',rfl,hq,hd,(hk.trans hG).c⟩)
  | true =>
   simp only[if_true] at h
   exact a1U hm hk.inv h fun σ' M' B' a' w' hq hG hd=>⟨.normal,σ',M',B',rfl,hq,hd,(hk.trans hG).c⟩
 | .seq x y,M,B,σ,a,w,Q,hI,h=>by
  rw[kP] at h
  refine wp_seq (wp_mono (fC hm x hI h) fun e a' w' hl => ?_)
  obtain ⟨ax,σ',M',B',rfl,hq,hd,hG⟩:=hl
  cases ax with
  | normal =>
   obtain ⟨ks,hq⟩:=hq
   obtain ⟨M2,B2,hz⟩:=CG (m0:=m0) ks hG.inv
   have hG:=hG.trans hz
   rcases hq with hq | ⟨l,m,hm0,hg,hq⟩
   ·exact wp_mono (fC hm y hG.inv hq) fun e a2 w2 hl2=>by rw[hd] at hl2; exact yH hG hl2
   ·have hgc:=hG.trans (rE hG.inv hm0 hg)
    exact wp_mono (fC hm y hgc.inv hq) fun e a2 w2 hl2=>by rw[hd] at hl2; exact yH hgc hl2
  | ret=>exact ⟨.ret,σ',M',B',rfl,hq,hd,hG⟩
  | exit i=>exact ⟨.exit i,σ',M',B',rfl,hq,hd,hG⟩
 | .cond c x y,M,B,σ,a,w,Q,hI,h=>by
  rw[kP] at h
  split at h
  ·rename_i b hb
   have he:=rep_bool.1 (hI.rd _ _ hb).1
   refine wp_cond_split he (fun hb=>fC hm x hI (h.1 hb)) (fun hb=>fC hm y hI (h.2 hb))
  ·exact h.elim
 | .block id x,M,B,σ,a,w,Q,hI,h=>by
  rw[kP] at h
  refine wp_block (wp_mono (fC hm x hI h) fun e a' w' hl => ?_)
  obtain ⟨ax,σ',M',B',rfl,hq,hd,hG⟩:=hl
  cases ax with
  | normal=>exact ⟨.normal,σ',M',B',rfl,hq,hd,hG⟩
  | ret=>exact ⟨.ret,σ',M',B',rfl,hq,hd,hG⟩
  | exit i =>
   simp only[AX.toExit,Exit.inBlock]
   simp only[KZ] at hq
   split
   ·rename_i e; rw[if_pos e] at hq; exact ⟨.normal,σ',M',B',rfl,hq,hd,hG⟩
   ·rename_i e; rw[if_neg e] at hq; exact ⟨.exit i,σ',M',B',rfl,hq,hd,hG⟩
 | .scope x,M,B,σ,a,w,Q,hI,h=>by
  rw[kP] at h
  refine wp_scope_straight (wp_mono (fC hm x hI h) fun e a' w' hl => ?_)
  obtain ⟨ax,σ',M',B',rfl,hq,hd,hG⟩:=hl
  cases ax<;>exact ⟨_,σ',M',B',rfl,hq,hd,hG⟩
 | .loop x,M,B,σ,a,w,Q,hI,h=>by
  rw[kP] at h
  obtain ⟨k,hk⟩:=h
  refine wp_loop_rounds k ?_
  have key:∀ (k:Nat) (M1:Mem) (B1:bY) (σ1:ASt) (a1:Act) (w1:World),GoodC E.n out m0 M B σ a.tmps w M1 B1 σ1 a1.tmps w1→a1.defers=a.defers→yM m0 (kP E m0 x) Q k σ1→Code.rounds E.P x (lift E out m0 M B σ a.tmps w a.defers Q) k a1 w1:=by
   intro k
   induction k with
   | zero=>intro M1 B1 σ1 a1 w1 _ _ h; exact h.elim
   | succ k ih =>
    intro M1 B1 σ1 a1 w1 hG hd h
    obtain ⟨l,m,hm0,hg,hb⟩:=h
    have hgc:=rE hG.inv hm0 hg
    rw[rounds_succ]
    refine wp_mono (fC hm x hgc.inv hb) fun e a' w' hl => ?_
    obtain ⟨ax,σ',M',B',rfl,hq,hd',hG'⟩:=hl
    have hG2:=(hG.trans hgc).trans hG'
    cases ax with
    | normal=>exact ih M' B' σ' a' w' hG2 (by rw[hd',hd]) hq
    | ret=>exact ⟨.ret,σ',M',B',rfl,hq,by rw[hd',hd],hG2⟩
    | exit i=>exact ⟨.exit i,σ',M',B',rfl,hq,by rw[hd',hd],hG2⟩
  exact key k M B σ a w (GoodC.refl hI) rfl hk
 | .rangeFunc f ps az b,_,_,_,_,_,_,_,h=>by rw[kP] at h; exact h.elim
 | .goto l,_,_,_,_,_,_,_,h=>by rw[kP] at h; exact h.elim
 | .refuse l,_,_,_,_,_,_,_,h=>by rw[kP] at h; exact h.elim
end
def dX:Nat→List PV→cZ
 | _,[] => []
 | k,p::ps=>(k,p.un)::dX (k+1) ps
def resV (P:Program) (σ:ASt):ResultVar→Option PV
 | .tmp t=>bK t σ.s
 | .cell t ty=>match ti P ty,bK t σ.s with
  | some I,some q=>(jR false I q σ).map (·.1)
  | _,_=>none
def IC (P:Program) (rs:List ResultVar) (m0:Nat) (r:PV) (h':aG) (σ:ASt):Prop :=
 m0≤h'.length∧σ.h.take h'.length=h'∧r.blw h'.length=true∧OM h'.length h'=true ∧
  match rs with
  | [x]=>resV P σ x=some r
  | rs=>(bQ (rs.map (resV P σ))).map (fun ps=>PV.tuple (ps.map PV.un))=some r
section
variable {n:Nat} {out:Nat→Nat} {m0:Nat} {M:Mem} {B:bY} {σ:ASt} {a:Act} {w:World} {P:Program}
def YL (tmps:Array Value):ResultVar→Sem Value
 | .tmp t=>pure (tmps.getD t undef)
 | .cell a t=>do loadVar t (← asAddr (tmps.getD a undef))
theorem a5L (fn:Func) (tmps:Array Value):results fn tmps=(do let vs←fn.results.mapM (YL tmps); pure (if h:vs.size=1 then vs[0] else .tuple vs)):=by
 unfold results
 congr 1
theorem a3X (hI:Inv n M B out σ a.tmps w) {x:ResultVar} {p:PV} (h:resV P σ x=some p) :
 ∃ v,(YL a.tmps x).run P w = .ok v w∧Rep M B p v∧Tl M w p v∧∀ b,bF p v b≤iI σ.s a.tmps b:=by
 cases x with
 | tmp t =>
  obtain ⟨h1,h2,h3⟩:=hI.slots t p h
  refine ⟨_,rfl,h2,h3,fun b => ?_⟩
  have:=pI (s:=σ.s) (t:=a.tmps) (k:=t) (b:=b)
  have h':bK t σ.s=some p:=h
  simpa only[oN,h'] using this
 | cell c t =>
  simp only[resV] at h
  split at h
  ·rename_i I q hI' hq
   cases hl:jR false I q σ with
   | none=>simp[hl] at h
   | some pσ =>
    obtain ⟨p',σ1⟩:=pσ
    simp[hl] at h; subst h
    have hrd:σ.rd (.tmp c)=some q.un:=by simp[ASt.rd,ASt.ev,hq]
    have hl':jR false I q.un σ=some (p',σ1):=by
     have:jR false I q.un σ=jR false I q σ:=by cases q<;>rfl
     rw[this,hl]
    obtain ⟨v,h1,h2⟩:=EZ hI hI' hrd hl'
    have hpure:p'.own=false:=by
     unfold jR at hl
     split at hl
     ·split at hl
      ·cases hl; exact iM _
      ·cases hl
     ·split at hl
      ·split at hl
       ·split at hl
        ·cases hl; rfl
        ·cases hl
       ·split at hl
        ·simp at hl; rw[← hl.1]; exact iM _
        ·cases hl
      ·cases hl
     ·cases hl
    refine ⟨v,?_,h2.rep,h2.tl,fun b=>by rw[aN hpure]; exact Nat.zero_le _⟩
    show (do loadVar t (← asAddr (a.tmps.getD c undef)):Sem Value).run P w=_
    have he:a.eval (.tmp c)=a.tmps.getD c undef:=rfl
    rw[he] at h1
    have hr:=(hI.rd _ _ hrd).1
    rw[he] at hr
    have hptr:∃ ad,a.tmps.getD c undef = .pointer (some ad):=by
     unfold jR at hl'
     split at hl'
     ·rename_i e hq'; rw[hq'] at hr; obtain ⟨b,off,e1,_⟩:=rep_cst.1 hr; exact ⟨_,e1⟩
     ·rename_i i off hq'; rw[hq'] at hr; obtain ⟨cc,_,e1⟩:=rep_ptr.1 hr; exact ⟨_,e1⟩
     ·cases hl'
    obtain ⟨ad,had⟩:=hptr
    rw[had] at h1 ⊢
    simpa[Instr.loadAt,Instr.sureAddr,asAddr] using h1
  ·cases h
theorem MX (hI:Inv n M B out σ a.tmps w):∀ {rs:List ResultVar} {ps:List PV},bQ (rs.map (resV P σ))=some ps →
 ∃ vs,(rs.mapM (YL a.tmps)).run P w = .ok vs w∧Reps M B ps vs
 | [],ps,h=>by simp[bQ] at h; subst h; exact ⟨[],by simp,reps_nil.2 rfl⟩
 | x::rs,ps,h=>by
  have h':=uP h
  cases ps with
  | nil=>simp at h'
  | cons p ps =>
   simp only[List.map_cons,List.cons.injEq] at h'
   obtain ⟨v,h1,h2,_,_⟩:=a3X hI h'.1
   have hall:∀ ps:List PV,bQ (ps.map some)=some ps:=by
    intro ps; induction ps with
    | nil=>rfl
    | cons a l ih=>simp[bQ,ih]
   obtain ⟨vs,h3,h4⟩:=MX hI (rs:=rs) (ps:=ps) (by rw[h'.2]; exact hall ps)
   refine ⟨v::vs,?_,reps_cons.2 ⟨v,vs,rfl,h2,h4⟩⟩
   rw[List.mapM_cons,Sem.run_bind,h1,Result.andThen_ok,Sem.run_bind,h3]; rfl
theorem aB0 (hI:Inv n M B out σ a.tmps w) {fn:Func} {m0:Nat} {r:PV} {h':aG} (hr:IC P fn.results.toList m0 r h' σ) :
 ∃ v,(results fn a.tmps).run P w = .ok v w∧Rep M B r v∧Tl M w r v∧∀ b,bF r v b≤iI σ.s a.tmps b:=by
 obtain ⟨_,_,_,_,hres⟩:=hr
 have hst:∀ vs:List Value,(fn.results.toList.mapM (YL a.tmps)).run P w = .ok vs w→(results fn a.tmps).run P w = .ok (if h:vs.toArray.size=1 then vs.toArray[0] else .tuple vs.toArray) w:=fun vs h=>by
  rw[a5L,Array.mapM_eq_mapM_toList,Sem.run_bind,Sem.run_map,h]; rfl
 split at hres
 ·rename_i x hx
  obtain ⟨v,h1,h2,h3,h4⟩:=a3X hI hres
  refine ⟨v,?_,h2,h3,h4⟩
  rw[hst [v] (by rw[hx,List.mapM_cons,Sem.run_bind,h1]; rfl)]
  rfl
 ·rename_i hx
  obtain ⟨ps,hps,rfl⟩:=Option.map_eq_some_iff.1 hres
  obtain ⟨vs,h1,h2⟩:=MX hI hps
  have hne:vs.length≠1:=by
   have e1:=bC h2
   have e2:=congrArg List.length (uP hps)
   simp only[List.length_map] at e2
   intro h
   generalize fn.results.toList=L at *
   match L with
   | []=>simp at e2; omega
   | [x]=>exact hx x rfl
   | x::y::l=>simp at e2; omega
  refine ⟨.tuple vs.toArray,?_,rep_tuple.2 ⟨_,rfl,by simpa using uN h2⟩,cO rfl,fun b=>by rw[aN rfl]; exact Nat.zero_le _⟩
  rw[hst vs h1,dif_neg (by simpa using hne)]
theorem F5:∀ {args:List PV} {k j:Nat} {p:PV},bK j (dX k args)=some p→∃ i q,j=k+i∧args[i]? = some q∧p=q.un
 | [],_,_,_,h=>by simp[dX,bK] at h
 | q::qs,k,j,p,h=>by
  rw[dX,bK] at h
  split at h
  ·rename_i e; subst e; cases h; exact ⟨0,q,rfl,rfl,rfl⟩
  ·obtain ⟨i,q',h1,h2,h3⟩:=F5 h
   exact ⟨i+1,q',by omega,by simpa using h2,h3⟩
theorem slots0_srt:∀ {args:List PV} {k:Nat},yT (dX k args)∧∀ x,x∈dX k args→k≤x.1
 | [],k=>⟨by simp[dX,yT],by simp[dX]⟩
 | q::qs,k=>by
  obtain ⟨h1,h2⟩:=slots0_srt (args:=qs) (k:=k+1)
  rw[dX]
  refine ⟨srt_cons.2 ⟨fun x hx=>by have:=h2 x hx; show k<x.1; omega,h1⟩,fun x hx => ?_⟩
  rcases List.mem_cons.1 hx with rfl | hx
  ·exact Nat.le_refl _
  ·have:=h2 x hx; omega
theorem sV {t:Array Value} {b:Nat}:∀ {args:List PV} {k:Nat},iI (dX k args) t b=0
 | [],_=>rfl
 | q::qs,k=>by rw[dX,iI,xY,sV]
def fin1 (p:PV) (z:List Nat×Bool):PV:=match z.2 with | true=>p.reszT z.1 | false=>(p.reszT z.1).un
def aWT:List (List Nat×Bool)→List PV→List PV
 | z::zs,p::ps=>fin1 p z::aWT zs ps
 | _,ps=>ps
def AO (ro:List (List Nat×Bool)) (r:PV):PV:=match ro,r with
 | [],r=>r
 | _,.tuple ps => .tuple (aWT ro ps)
 | z::_,r=>fin1 r z
theorem a2Z {p:PV} {z:List Nat×Bool} {v:Value} (h:Rep M B p v):Rep M B (fin1 p z) v:=by
 unfold fin1; split
 ·exact wI _ h
 ·exact rep_un.2 (wI _ h)
theorem a0U:∀ {zs:List (List Nat×Bool)} {ps:List PV} {vs:List Value},Reps M B ps vs→Reps M B (aWT zs ps) vs
 | [],ps,vs,h=>by cases ps<;>exact h
 | z::zs,[],vs,h=>h
 | z::zs,p::ps,vs,h=>by
  obtain ⟨u,us,rfl,h1,h2⟩:=reps_cons.1 h
  exact reps_cons.2 ⟨u,us,rfl,a2Z h1,a0U h2⟩
theorem a3S {ro:List (List Nat×Bool)} {r:PV} {v:Value} (h:Rep M B r v):Rep M B (AO ro r) v:=by
 unfold AO; split
 ·exact h
 ·obtain ⟨vs,rfl,hr⟩:=rep_tuple.1 h
  exact rep_tuple.2 ⟨vs,rfl,a0U hr⟩
 ·exact a2Z h
theorem aOO {p:PV} {z:List Nat×Bool} {v:Value} (hr:Rep M B p v) (h:Tl M w p v):Tl M w (fin1 p z) v:=by
 unfold fin1; split
 ·exact a1G _ hr h
 ·exact cO (iM _)
theorem aBF {ro:List (List Nat×Bool)} {r:PV} {v:Value} (hr:Rep M B r v) (h:Tl M w r v):Tl M w (AO ro r) v:=by
 unfold AO; split
 ·exact h
 ·exact cO rfl
 ·exact aOO hr h
theorem a0Y {ro:List (List Nat×Bool)} {r:PV} {v:Value} {b:Nat}:bF (AO ro r) v b≤bF r v b:=by
 unfold AO; split
 ·exact Nat.le_refl _
 ·rw[aN rfl]; omega
 ·unfold fin1; split
  ·rw[U3]; exact Nat.le_refl _
  ·rw[xY]; omega
theorem XM {n:Nat} {h:aG} {args:List PV} {vals:Array Value} {out:Nat→Nat} {M:Mem} {B:bY} {w:World} (hlen:args.length≤n) (hmem:qV M w) (hheap:HeapOK M B w h) (hcnt:∀ b,aJ w h B b+out b≤1) (hnew:∀ b,w.heap.size≤b→aJ w h B b+out b=0)
 (hv:Reps M B args vals.toList):Inv n M B out ⟨dX 0 args,h⟩ (vals ++ Array.replicate (n-vals.size) undef) w:=by
 have hvl:=bC hv
 simp only[Array.length_toList] at hvl
 have hfp:∀ t b,fp B ⟨dX 0 args,h⟩ t w b=aJ w h B b:=fun t b=>by simp only[fp,sV]; omega
 refine ⟨by simp; omega,hmem,slots0_srt.1,fun k p hk => ?_,hheap,fun b=>by rw[hfp]; exact hcnt b,fun b hb=>by rw[hfp]; exact hnew b hb⟩
 obtain ⟨i,q,rfl,hq,rfl⟩:=F5 hk
 obtain ⟨v,hv1,hv2⟩:=fB hv hq
 have hi:=(List.getElem?_eq_some_iff.1 hq).1
 refine ⟨by omega,?_,cO (iM _)⟩
 have hvi:vals[i]? = some v:=by simpa using hv1
 have:(vals ++ Array.replicate (n-vals.size) undef).getD (0+i) undef=v:=by
  rw[Nat.zero_add,Array.getD_eq_getD_getElem?,Array.getElem?_append_left (by omega),hvi]; rfl
 rw[this]; exact rep_un.2 hv2
theorem a4K {n:Nat} {fn:Func} {h h':aG} {args:List PV} {out:Nat→Nat} {M M':Mem} {B B':bY} {w w':World} {t:Array Value} {a':Act} {σ':ASt} {r0:PV} {ro:List (List Nat×Bool)} (hheap:HeapOK M B w h)
 (hG:GoodC n out h.length M B ⟨dX 0 args,h⟩ t w M' B' σ' a'.tmps w') (hret:IC P fn.results.toList h.length r0 h' σ'):∃ v,(results fn a'.tmps).run P w' = .ok v w'∧∃ M'' B'',Post h B out M w (AO ro r0) h' v M'' B'' w':=by
 have hfp:∀ t b,fp B ⟨dX 0 args,h⟩ t w b=aJ w h B b:=fun t b=>by simp only[fp,sV]; omega
 obtain ⟨v,hrun,hrep,htl,hown⟩:=aB0 hG.inv hret
 obtain ⟨hm0,hht,hb1,hb2,_⟩:=hret
 generalize hm':h'.length=m at *
 subst hht
 have hpost:Post h B out M w (AO ro r0) (σ'.h.take m) v M' (B'.take m) w':=by
  have hBl:B.length=h.length:=hheap.1.symm
  have htake:=fun b=>KQ (w:=w') m b σ'.h B'
  have hfin:∀ b,aJ w' (σ'.h.take m) (B'.take m) b+bF (AO ro r0) v b≤fp B' σ' a'.tmps w' b:=fun b=>by have:=htake b; have:=hown b; have:=a0Y (ro:=ro) (r:=r0) (v:=v) (b:=b); simp only[fp]; omega
  refine ⟨hG.inv.mem,⟨hG.mem,fun i c hc => ?_⟩,hG.fr.mono fun b hb h0=>by rw[hfp]; exact h0,⟨by simp[hG.inv.heap.1],fun i cs hi => ?_⟩,a3S (hrep.blw hb1),aBF (hrep.blw hb1) htl,fun b hb => ?_,fun b => ?_,fun b hb => ?_⟩
  ·have hlt:=(List.getElem?_eq_some_iff.1 hc).1
   rw[List.getElem?_take,if_pos (by omega)]
   exact hG.pre i c (by omega) hc
  ·have hi0:=hi
   rw[List.getElem?_take] at hi
   split at hi
   ·rename_i hlt
    obtain ⟨c,hc,vs,ty,o1,o2,o3,o4,o5⟩:=hG.inv.heap.2 i cs hi
    refine ⟨c,by rw[List.getElem?_take,if_pos hlt]; exact hc,vs,ty,o1,o2,o3,fun j p hj => ?_,o5⟩
    obtain ⟨u,a1,a2,a3,a4⟩:=o4 j p hj
    refine ⟨u,a1,a2.blw ?_,a3,a4⟩
    have:=List.all_eq_true.1 hb2 _ (List.mem_of_getElem? hi0)
    exact blws_iff.1 this p (List.mem_of_getElem? hj)
   ·cases hi
  ·have h1:=hG.own b hb; rw[hfp] at h1; exact Nat.le_trans (hfin b) h1
  ·have h1:=hG.inv.cnt b; have:=hfin b; omega
  ·have h1:=hG.inv.new b hb; have:=hfin b; omega
 exact ⟨v,hrun,M',_,hpost⟩
theorem EvG.of_awp {cp:CP} {g:FuncId} {fn:Func} {c:Code} (hcp:∀ {vals:Array Value} {w:World} {R:Ending→World→Prop},c.wp P (bodyPost P fn R) { tmps:=vals ++ Array.replicate (fn.ntmps-vals.size) undef,defers := [] } w→cp g vals w R) (hm:P.follows .mixedOrders=true) (hf:P.funcs[g]? = some fn) (hb:fn.body=some c) (hn:(fn.name != "runtime.NumGoroutine")=true) {args:List PV} {h:aG} {r:PV} {h':aG} (vars mv mu:List Nat) (sz jt lt pt:List (Nat×List Nat)) (fz:List Nat) (ro:List (List Nat×Bool)) (ft:List (Nat×List Nat)) (sy ln:List Nat) (hlen:args.length≤fn.ntmps)
 (hA:kP ⟨P,fn.ntmps,vars,mv,mu,sz,jt,lt,pt,fz,ft,sy,ln⟩ h.length c (fun e σ'=>(match e with | .exit _=>False | _=>True)∧∃ r0,IC P fn.results.toList h.length r0 h' σ'∧AO ro r0=r) ⟨dX 0 args,h⟩):EvG P cp g args h r h':=by
 refine ⟨by simp[callable,hf,hb]; simpa using hn,fun out M B w vals hmem hheap hcnt hnew hv => ?_⟩
 have hI:=XM (n:=fn.ntmps) hlen hmem hheap hcnt hnew hv
 refine hcp (wp_mono (fC (E:=⟨P,fn.ntmps,vars,mv,mu,sz,jt,lt,pt,fz,ft,sy,ln⟩) (out:=out) (a := { tmps:=vals ++ Array.replicate (fn.ntmps-vals.size) undef,defers := [] }) hm c hI hA) fun e a' w' hl => ?_)
 obtain ⟨ax,σ',M',B',rfl,⟨hax,r0,hret,rfl⟩,hd,hG⟩:=hl
 obtain ⟨v,hrun,M'',B'',hpost⟩:=a4K (ro:=ro) hheap hG hret
 cases ax with
 | normal=>exact ⟨hd,v,hrun,v,M'',B'',rfl,hpost⟩
 | ret=>exact ⟨hd,v,hrun,v,M'',B'',rfl,hpost⟩
 | exit i=>exact hax.elim
theorem Ev.of_awp {g:FuncId} {fn:Func} {c:Code} (hm:P.follows .mixedOrders=true) (hf:P.funcs[g]? = some fn) (hb:fn.body=some c) (hn:(fn.name != "runtime.NumGoroutine")=true) {args:List PV} {h:aG} {r:PV} {h':aG} (vars mv mu:List Nat) (sz jt lt pt:List (Nat×List Nat)) (fz:List Nat) (ro:List (List Nat×Bool)) (ft:List (Nat×List Nat)) (sy ln:List Nat) (hlen:args.length≤fn.ntmps)
 (hA:kP ⟨P,fn.ntmps,vars,mv,mu,sz,jt,lt,pt,fz,ft,sy,ln⟩ h.length c (fun e σ'=>(match e with | .exit _=>False | _=>True)∧∃ r0,IC P fn.results.toList h.length r0 h' σ'∧AO ro r0=r) ⟨dX 0 args,h⟩):Ev P g args h r h' :=
 EvG.of_awp (cp:=Calls P) (fun k=>calls_of_wp hf hb k) hm hf hb hn vars mv mu sz jt lt pt fz ro ft sy ln hlen hA
theorem EvD.of_awp {g:FuncId} {fn:Func} {c:Code} (hm:P.follows .mixedOrders=true) (hf:P.funcs[g]? = some fn) (hb:fn.body=some c) (hn:(fn.name != "runtime.NumGoroutine")=true) {args:List PV} {h:aG} {r:PV} {h':aG} (vars mv mu:List Nat) (sz jt lt pt:List (Nat×List Nat)) (fz:List Nat) (ro:List (List Nat×Bool)) (ft:List (Nat×List Nat)) (sy ln:List Nat) (hlen:args.length≤fn.ntmps)
 (hA:kP ⟨P,fn.ntmps,vars,mv,mu,sz,jt,lt,pt,fz,ft,sy,ln⟩ h.length c (fun e σ'=>(match e with | .exit _=>False | _=>True)∧∃ r0,IC P fn.results.toList h.length r0 h' σ'∧AO ro r0=r) ⟨dX 0 args,h⟩):EvG P (CD P) g args h r h' :=
 EvG.of_awp (cp:=CD P) (fun k=>callsD_of_wp hf hb k) hm hf hb hn vars mv mu sz jt lt pt fz ro ft sy ln hlen hA
end
end Go.Proofs.YtcdceiloganlnaaGreatDoor
namespace Go.Proofs.YtcdceiloganlnaaGreatDoor
open Go.RowKit
theorem Ev.frame {P:Program} {g:FuncId} {args:List PV} {r:PV} (h:Ev P g args [] r []) (hr:r.flat=true) (ha:PV.flats args=true) (hh:aG):Ev P g args hh r hh:=h.frame' hr ha hh
theorem FU {E:AE} {g:FuncId} {args:List PV} {dst:Option Nat} {K:ASt→Prop} {σ:ASt} {r:PV} (h:Ev E.P g args [] r []) (hr:r.flat=true) (ha:PV.flats args=true) (hk:bJ E dst r σ K):WM E g args dst K σ:=⟨r,σ.h,h.frame hr ha _,hk⟩
theorem wrap64 {n:Int} (h1 : -9223372036854775808≤n) (h2:n≤9223372036854775807):IntKind.i64.wrap n=n:=IntWalk.i64_in n ⟨h1,h2⟩
theorem dG {E:AE} {dst:Option Nat} {p:PV} {σ:ASt} {K K':ASt→Prop} (hk:∀ σ,K σ→K' σ) (h:bJ E dst p σ K):bJ E dst p σ K':=by
 unfold bJ at *
 split at h
 ·exact hk _ h
 ·exact h.elim
theorem UC {E:AE} {o:Oper} {σ:ASt} {K K':ASt→Prop} (hk:∀ σ,K σ→K' σ) (h:sW E o K σ):sW E o K' σ:=by
 unfold sW at *
 split at h
 ·exact ⟨h.1,dG hk h.2⟩
 ·exact h.elim
theorem RF {E:AE} {o:Oper} {σ:ASt} {K K':ASt→Prop} (hk:∀ σ,K σ→K' σ) (h:Y3 E o K σ):Y3 E o K' σ:=by
 rcases h with h | h
 ·exact .inl (UC hk h)
 ·refine .inr ?_
  unfold aI4 at *
  split at h
  ·exact fun b hb=>dG hk (h b hb)
  ·exact h.elim
theorem y7 {E:AE} {o:Oper} {σ:ASt} {K K':ASt→Prop} (hk:∀ σ,K σ→K' σ) (h:uH E o K σ):uH E o K' σ:=by
 unfold uH at *
 split
 ·rename_i c hc
  simp only[hc] at h
  split
  ·rename_i f hf
   simp only[hf] at h
   split at h
   ·rename_i h1 h2
    obtain ⟨r,h',a,b⟩:=h
    exact ⟨r,h',a,dG hk b⟩
   ·exact h.elim
  ·rename_i hf
   split at h
   ·rename_i f hf'; exact absurd hf' (hf f)
   ·exact RF hk h
 ·rename_i hc
  split at h
  ·rename_i c hc'; exact absurd hc' (hc c)
  ·exact RF hk h
theorem gV {E:AE} {ops:Array Oper} {K K':ASt→Prop} (hk:∀ σ,K σ→K' σ):∀ (l:List Oper) {σ:ASt},dZ E ops l K σ→dZ E ops l K' σ
 | [],σ,h=>hk σ h
 | o::l,σ,h=>by
  rw[dZ] at h ⊢
  split
  ·rename_i hg
   simp only[hg] at h
   exact y7 (fun σ hσ=>gV hk l hσ) h
  ·rename_i j want hg
   simp only[hg] at h
   split
   ·rename_i hv
    rw[hv] at h
    exact dG (fun σ hσ=>gV hk l hσ) h
   ·rename_i b hv
    rw[hv] at h
    exact ⟨fun e=>y7 (fun σ hσ=>gV hk l hσ) (h.1 e),fun e=>dG (fun σ hσ=>gV hk l hσ) (h.2 e)⟩
   ·rename_i hv
    rw[hv] at h
    exact h.elim
theorem uT {E:AE} {o:Oper} {σ:ASt} {K K':ASt→Prop} (hk:∀ σ,K σ→K' σ) (h:qK E o K σ):qK E o K' σ:=by
 unfold qK at *
 split
 ·rename_i f args hc
  simp only[hc] at h
  split at h
  ·rename_i h1 h2
   rcases h with ⟨r,a,b,c,d⟩ | ⟨hsy,r,h',a,ro,d⟩
   ·exact .inl ⟨r,a,b,c,dG hk d⟩
   ·exact .inr ⟨hsy,r,h',a,ro,dG hk d⟩
  ·exact h.elim
 ·rename_i hc
  simp only[hc] at h
  exact UC hk h
theorem nO {E:AE} {ops:Array Oper} {K K':ASt→Prop} (hk:∀ σ,K σ→K' σ):∀ (l:List Oper) {σ:ASt},eX E ops l K σ→eX E ops l K' σ
 | [],σ,h=>hk σ h
 | o::l,σ,h=>by
  rw[eX] at h ⊢
  split
  ·rename_i hg
   simp only[hg] at h
   exact uT (fun σ hσ=>nO hk l hσ) h
  ·rename_i j want hg
   simp only[hg] at h
   split
   ·rename_i hv
    rw[hv] at h
    exact dG (fun σ hσ=>nO hk l hσ) h
   ·rename_i b hv
    rw[hv] at h
    exact ⟨fun e=>uT (fun σ hσ=>nO hk l hσ) (h.1 e),fun e=>dG (fun σ hσ=>nO hk l hσ) (h.2 e)⟩
   ·rename_i hv
    rw[hv] at h
    exact h.elim
theorem aD4 {E:AE} {ops:Array Oper} {σ:ASt} {K K':ASt→Prop} (hk:∀ σ,K σ→K' σ) (h:aLB E ops K σ):aLB E ops K' σ:=⟨h.1,nO hk _ h.2⟩
theorem NE {m0:Nat} {b:(AX→ASt→Prop)→ASt→Prop} {Q Q':AX→ASt→Prop} (hb:∀ (Q Q':AX→ASt→Prop) (σ:ASt),(∀ e σ,Q e σ→Q' e σ)→b Q σ→b Q' σ) (hq:∀ e σ,Q e σ→Q' e σ):∀ (k:Nat) (σ:ASt),yM m0 b Q k σ→yM m0 b Q' k σ
 | 0,_,h=>h.elim
 | k+1,σ,⟨l,m,h1,h2,h3⟩=>⟨l,m,h1,h2,hb _ _ _ (fun e σ he=>by
  cases e with
  | normal=>exact NE hb hq k σ he
  | ret=>exact hq _ _ he
  | exit i=>exact hq _ _ he) h3⟩
theorem iD {E:AE} {m0:Nat}:∀ (c:Code) {Q Q':AX→ASt→Prop} {σ:ASt},(∀ e σ,Q e σ→Q' e σ)→kP E m0 c Q σ→kP E m0 c Q' σ
 | .skip,_,_,_,hq,h=>hq _ _ h
 | .label _,_,_,_,hq,h=>hq _ _ h
 | .exit _,_,_,_,hq,h=>hq _ _ h
 | .ret,_,_,_,hq,h=>hq _ _ h
 | .region _ ops draw,_,_,_,hq,h=>by
  rw[kP] at h ⊢
  cases draw with
  | false=>simp only[Bool.false_eq_true,if_false] at h ⊢; exact gV (fun σ=>hq _ σ) _ h
  | true=>simp only[if_true] at h ⊢; exact h.elim (fun h => .inl (aD4 (fun σ=>hq _ σ) h)) fun h => .inr (XZ (fun σ=>hq _ σ) _ h)
 | .seq x y,Q,Q',_,hq,h=>by
  rw[kP] at h ⊢
  refine iD x (fun e σ he => ?_) h
  cases e with
  | normal =>
   obtain ⟨ks,he⟩:=he
   rcases he with he | ⟨l,m,a1,a2,he⟩
   ·exact ⟨ks,.inl (iD y hq he)⟩
   ·exact ⟨ks,.inr ⟨l,m,a1,a2,iD y hq he⟩⟩
  | ret=>exact hq _ _ he
  | exit i=>exact hq _ _ he
 | .cond c x y,_,_,_,hq,h=>by
  rw[kP] at h ⊢
  split
  ·rename_i b hb
   rw[hb] at h
   exact ⟨fun e=>iD x hq (h.1 e),fun e=>iD y hq (h.2 e)⟩
  ·rename_i hb
   split at h
   ·rename_i b hb'; exact absurd hb' (hb b)
   ·exact h
 | .block id x,_,_,_,hq,h=>by
  rw[kP] at h ⊢
  refine iD x (fun e σ he => ?_) h
  cases e with
  | normal=>exact hq _ _ he
  | ret=>exact hq _ _ he
  | exit i =>
   simp only[KZ] at he ⊢
   split
   ·rename_i e; rw[if_pos e] at he; exact hq _ _ he
   ·rename_i e; rw[if_neg e] at he; exact hq _ _ he
 | .loop x,_,_,_,hq,h=>by
  rw[kP] at h ⊢
  obtain ⟨k,hk⟩:=h
  exact ⟨k,NE (b:=kP E m0 x) (fun _ _ _ hq hb=>iD x hq hb) hq k _ hk⟩
 | .scope x,_,_,_,hq,h=>by rw[kP] at h ⊢; exact iD x hq h
 | .rangeFunc ..,_,_,_,_,h=>by rw[kP] at h; exact h.elim
 | .goto _,_,_,_,_,h=>by rw[kP] at h; exact h.elim
 | .refuse _,_,_,_,_,h=>by rw[kP] at h; exact h.elim
theorem O8 {E:AE} {g:FuncId} {args:List PV} {dst:Option Nat} {K:ASt→Prop} {σ:ASt} {r:PV} (h:Ev E.P g args [] r []) (hr:r.flat=true) (ha:PV.flats args=true) (hk:bJ E dst r σ K):YN E g args dst K σ := .inl ⟨r,h,hr,ha,hk⟩
section
variable {E:AE} {m0:Nat} {Q:AX→ASt→Prop} {σ:ASt}
end
section
variable {E:AE} {ops:Array Oper} {l:List Oper} {Q:ASt→Prop} {σ:ASt} {o:Oper}
@[simp] theorem aXM : dZ E ops [] Q σ = Q σ := rfl
@[simp] theorem aTP : eX E ops [] Q σ = Q σ := rfl
theorem a6Q (hc:kE o=none):uH E o Q σ=Y3 E o Q σ:=by
 unfold kE at hc
 unfold uH
 split
 ·rename_i c hop
  simp only[hop] at hc
  split
  ·rename_i f hf; simp only[hf] at hc; cases hc
  ·rfl
 ·rfl
@[simp] theorem aP5 (hc : kE o = none) (hg : o.guard = none) : eX E ops (o :: l) Q σ = sW E o (eX E ops l Q) σ := by
 rw[eX,hg]; simp only[qK,hc]
end
@[simp] theorem b7R (k : IntKind) (n : Int) : PV.un (.int k n) = .int k n := rfl
@[simp] theorem size_int (k : IntKind) (n : Int) : PV.size (.int k n) = 1 := rfl
@[simp] theorem aYY (k : IntKind) (n : Int) : PV.isAgg (.int k n) = false := rfl
@[simp] theorem b49 (k : IntKind) (n : Int) : PV.one (.int k n) = true := rfl
@[simp] theorem b3O (k : IntKind) (n : Int) : PV.okE (.int k n) = true := rfl
@[simp] theorem aOF (k : IntKind) (n : Int) : PV.newCells (.int k n) = some [.int k n] := rfl
@[simp] theorem b3J (m : Nat) (k : IntKind) (n : Int) : PV.blw m (.int k n) = true := by simp [PV.blw]
@[simp] theorem b2K (k : IntKind) (n : Int) : PV.flat (.int k n) = true := by simp [PV.flat]
@[simp] theorem b3K (b : Bool) : PV.un (.bool b) = .bool b := rfl
@[simp] theorem size_bool (b : Bool) : PV.size (.bool b) = 1 := rfl
@[simp] theorem aUY (b : Bool) : PV.isAgg (.bool b) = false := rfl
@[simp] theorem b2T (b : Bool) : PV.one (.bool b) = true := rfl
@[simp] theorem b08 (b : Bool) : PV.okE (.bool b) = true := rfl
@[simp] theorem aK7 (b : Bool) : PV.newCells (.bool b) = some [.bool b] := rfl
@[simp] theorem a'T (m : Nat) (b : Bool) : PV.blw m (.bool b) = true := by simp [PV.blw]
@[simp] theorem aYU (b : Bool) : PV.flat (.bool b) = true := by simp [PV.flat]
@[simp] theorem b78 (s : ByteArray) : PV.un (.str s) = .str s := rfl
@[simp] theorem a'S (s : ByteArray) : PV.size (.str s) = 1 := rfl
@[simp] theorem aYL (s : ByteArray) : PV.isAgg (.str s) = false := rfl
@[simp] theorem b4E (s : ByteArray) : PV.one (.str s) = true := rfl
@[simp] theorem b4L (s : ByteArray) : PV.okE (.str s) = true := rfl
@[simp] theorem aKR (s : ByteArray) : PV.newCells (.str s) = some [.str s] := rfl
@[simp] theorem b46 (m : Nat) (s : ByteArray) : PV.blw m (.str s) = true := by simp [PV.blw]
@[simp] theorem b1Z (s : ByteArray) : PV.flat (.str s) = true := by simp [PV.flat]
@[simp] theorem b4O : PV.un (.nilp) = .nilp := rfl
@[simp] theorem aY7 : PV.size (.nilp) = 1 := rfl
@[simp] theorem aU8 : PV.isAgg (.nilp) = false := rfl
@[simp] theorem b0T : PV.one (.nilp) = true := rfl
@[simp] theorem b33 : PV.okE (.nilp) = true := rfl
@[simp] theorem aJ' : PV.newCells (.nilp) = some [.nilp] := rfl
@[simp] theorem a'N (m : Nat) : PV.blw m (.nilp) = true := by simp [PV.blw]
@[simp] theorem aYE : PV.flat (.nilp) = true := by simp [PV.flat]
@[simp] theorem b68 (v : Value) : PV.un (.raw v) = .raw v := rfl
@[simp] theorem b2B (v : Value) : PV.size (.raw v) = 1 := rfl
@[simp] theorem aY9 (v : Value) : PV.isAgg (.raw v) = false := rfl
@[simp] theorem b3Q (v : Value) : PV.one (.raw v) = true := rfl
@[simp] theorem b4Y (v : Value) : PV.okE (.raw v) = true := rfl
@[simp] theorem aNI (v : Value) : PV.newCells (.raw v) = some [.raw v] := rfl
@[simp] theorem b4V (m : Nat) (v : Value) : PV.blw m (.raw v) = true := by simp [PV.blw]
@[simp] theorem b03 (v : Value) : PV.flat (.raw v) = true := by simp [PV.flat]
@[simp] theorem b6H (i off : Nat) : PV.un (.ptr i off) = .ptr i off := rfl
@[simp] theorem b2O (i off : Nat) : PV.size (.ptr i off) = 1 := rfl
@[simp] theorem aYW (i off : Nat) : PV.isAgg (.ptr i off) = false := rfl
@[simp] theorem b5I (i off : Nat) : PV.one (.ptr i off) = true := rfl
@[simp] theorem b4M (i off : Nat) : PV.okE (.ptr i off) = false := rfl
@[simp] theorem aPU (i off : Nat) : PV.newCells (.ptr i off) = some [.ptr i off] := rfl
@[simp] theorem b58 (m : Nat) (i off : Nat) : PV.blw m (.ptr i off) = decide (i < m) := by simp [PV.blw]
@[simp] theorem aZK (i off : Nat) : PV.flat (.ptr i off) = false := by simp [PV.flat]
@[simp] theorem b7L (e : PV) : PV.un (.cst e) = .cst e := rfl
@[simp] theorem b0E (e : PV) : PV.size (.cst e) = 1 := rfl
@[simp] theorem aZ1 (e : PV) : PV.isAgg (.cst e) = false := rfl
@[simp] theorem b5C (e : PV) : PV.one (.cst e) = true := rfl
@[simp] theorem b5J (e : PV) : PV.okE (.cst e) = true := rfl
@[simp] theorem aRY (e : PV) : PV.newCells (.cst e) = some [.cst e] := rfl
@[simp] theorem b41 (m : Nat) (e : PV) : PV.blw m (.cst e) = true := by simp [PV.blw]
@[simp] theorem b0F (e : PV) : PV.flat (.cst e) = true := by simp [PV.flat]
@[simp] theorem bAB (o : Bool) (z : Nat) (es : List PV) : PV.un (.sl o z es) = .sl false z es := rfl
@[simp] theorem b4T (o : Bool) (z : Nat) (es : List PV) : PV.size (.sl o z es) = 1 := rfl
@[simp] theorem a_9 (o : Bool) (z : Nat) (es : List PV) : PV.isAgg (.sl o z es) = false := rfl
@[simp] theorem b80 (o : Bool) (z : Nat) (es : List PV) : PV.one (.sl o z es) = true := rfl
@[simp] theorem b5N (o : Bool) (z : Nat) (es : List PV) : PV.okE (.sl o z es) = true := rfl
@[simp] theorem aSM (o : Bool) (z : Nat) (es : List PV) : PV.newCells (.sl o z es) = some [.sl false z es] := rfl
@[simp] theorem b5L (m : Nat) (o : Bool) (z : Nat) (es : List PV) : PV.blw m (.sl o z es) = true := by simp [PV.blw]
@[simp] theorem b4N (o : Bool) (z : Nat) (es : List PV) : PV.flat (.sl o z es) = true := by simp [PV.flat]
@[simp] theorem b6Q (i off n z : Nat) : PV.un (.slh i off n z) = .slh i off n z := rfl
@[simp] theorem b2X (i off n z : Nat) : PV.size (.slh i off n z) = 1 := rfl
@[simp] theorem aYJ (i off n z : Nat) : PV.isAgg (.slh i off n z) = false := rfl
@[simp] theorem b54 (i off n z : Nat) : PV.one (.slh i off n z) = true := rfl
@[simp] theorem b5H (i off n z : Nat) : PV.okE (.slh i off n z) = false := rfl
@[simp] theorem aQ7 (i off n z : Nat) : PV.newCells (.slh i off n z) = some [.slh i off n z] := rfl
@[simp] theorem b51 (m : Nat) (i off n z : Nat) : PV.blw m (.slh i off n z) = decide (i < m) := by simp [PV.blw]
@[simp] theorem a_G (i off n z : Nat) : PV.flat (.slh i off n z) = false := by simp [PV.flat]
@[simp] theorem b56 (f : Fn) (a c : List PV) : PV.un (.func f a c) = .func f a c := rfl
@[simp] theorem aYX (f : Fn) (a c : List PV) : PV.size (.func f a c) = 1 := rfl
@[simp] theorem aUU (f : Fn) (a c : List PV) : PV.isAgg (.func f a c) = false := rfl
@[simp] theorem a_K (f : Fn) (a c : List PV) : PV.one (.func f a c) = true := rfl
@[simp] theorem b0Y (f : Fn) (a c : List PV) : PV.okE (.func f a c) = (PV.flats a && PV.flats c) := rfl
@[simp] theorem aK2 (f : Fn) (a c : List PV) : PV.newCells (.func f a c) = some [.func f a c] := rfl
@[simp] theorem b2C (m : Nat) (f : Fn) (a c : List PV) : PV.blw m (.func f a c) = (PV.blws m a && PV.blws m c) := by simp [PV.blw]
@[simp] theorem aY' (f : Fn) (a c : List PV) : PV.flat (.func f a c) = (PV.flats a && PV.flats c) := by simp [PV.flat]
@[simp] theorem b5U (cs : List PV) : PV.un (.agg cs) = .agg cs := rfl
@[simp] theorem a_A (cs : List PV) : PV.size (.agg cs) = cs.length := rfl
@[simp] theorem aYR (cs : List PV) : PV.isAgg (.agg cs) = true := rfl
@[simp] theorem b5D (cs : List PV) : PV.one (.agg cs) = false := rfl
@[simp] theorem b4A (cs : List PV) : PV.okE (.agg cs) = (cs.all PV.one && PV.flats cs) := rfl
@[simp] theorem aKL (cs : List PV) : PV.newCells (.agg cs) = if cs.all PV.one then some (cs.map PV.un) else none := rfl
@[simp] theorem b5A (m : Nat) (cs : List PV) : PV.blw m (.agg cs) = PV.blws m cs := by simp [PV.blw]
@[simp] theorem flat_agg (cs : List PV) : PV.flat (.agg cs) = PV.flats cs := by simp [PV.flat]
@[simp] theorem b23 (cs : List PV) : PV.un (.tuple cs) = .tuple cs := rfl
@[simp] theorem aXU (cs : List PV) : PV.size (.tuple cs) = 1 := rfl
@[simp] theorem aT4 (cs : List PV) : PV.isAgg (.tuple cs) = false := rfl
@[simp] theorem aYS (cs : List PV) : PV.one (.tuple cs) = false := rfl
@[simp] theorem aYA (cs : List PV) : PV.okE (.tuple cs) = false := rfl
@[simp] theorem aFP (cs : List PV) : PV.newCells (.tuple cs) = none := rfl
@[simp] theorem aYB (m : Nat) (cs : List PV) : PV.blw m (.tuple cs) = PV.blws m cs := by simp [PV.blw]
@[simp] theorem aXA (cs : List PV) : PV.flat (.tuple cs) = PV.flats cs := by simp [PV.flat]
@[simp] theorem a'9 (m : Nat) : PV.blws m [] = true := rfl
@[simp] theorem aY8 (m : Nat) (p : PV) (ps : List PV) : PV.blws m (p :: ps) = (p.blw m && PV.blws m ps) := by rw [PV.blws]
@[simp] theorem aYN : PV.flats [] = true := rfl
@[simp] theorem aWG (p : PV) (ps : List PV) : PV.flats (p :: ps) = (p.flat && PV.flats ps) := by rw [PV.flats]
attribute [simp] ASt.rdT E5 KZ ASt.keep sW aU ASt.put bJ iH dX eY iG pop qZ ASt.rd ASt.ev bK yA pG Q4 fF Value.oneCell' kQ ASt.clr dL IC resV jR lL JC LK wP UG ZC sG BA aKN a9K aB7 RI aC0 aBZ iV bQ QL ASt.gc OM kE OG aX
end Go.Proofs.YtcdceiloganlnaaGreatDoor
namespace Go.Proofs.YtcdceiloganlnaaGreatDoor
open Go.RowKit
mutual
def kM (f:Nat→Nat):PV→PV
 | .ptr i o => .ptr (f i) o
 | .bld T i => .bld T (f i)
 | .slh i o n z => .slh (f i) o n z
 | .func fn a c => .func fn (kZ f a) (kZ f c)
 | .agg cs => .agg (kZ f cs)
 | .tuple cs => .tuple (kZ f cs)
 | .int k n => .int k n
 | .bool b => .bool b
 | .str s => .str s
 | .nilp => .nilp
 | .raw v => .raw v
 | .cst e => .cst e
 | .slT l => .slT l
 | .slp o n z cs => .slp o n z cs
 | .mp l => .mp l
 | .sl o z es => .sl o z es
def kZ (f:Nat→Nat):List PV→List PV
 | [] => []
 | p::ps=>kM f p::kZ f ps
end
mutual
def PV.allI (D:Nat→Bool):PV→Bool
 | .ptr i _=>D i
 | .bld _ i=>D i
 | .slh i _ _ _=>D i
 | .func _ a c=>PV.allIL D a&&PV.allIL D c
 | .agg cs=>PV.allIL D cs
 | .tuple cs=>PV.allIL D cs
 | _=>true
def PV.allIL (D:Nat→Bool):List PV→Bool
 | []=>true
 | p::ps=>p.allI D&&PV.allIL D ps
end
def nC (f:Nat→Nat):Option (List PV)→Option (List PV)
 | some cs=>some (kZ f cs)
 | none=>none
def wB:List Nat→Nat→Nat
 | [],_=>0
 | j::l,i=>bif Nat.beq j i then 0 else wB l i+1
def NQ:List Nat→Nat→Bool
 | [],_=>false
 | j::l,i=>Nat.beq j i||NQ l i
def lJ (ids:List Nat) (n m:Nat):Nat:=match ids[m]? with | some i=>i | none=>n+(m-ids.length)
def gJ:List Nat→aG→aG→aG
 | i::is,o::os,H=>gJ is os (H.set i o)
 | _,_,H=>H
def nodupB:List Nat→Bool
 | []=>true
 | i::l => !(NQ l i)&&nodupB l
def rZ (H:aG) (i:Nat):Option (List PV):=match H[i]? with | some o=>o | none=>none
def DN (ids:List Nat) (H h':aG):aG:=gJ ids ((h'.take ids.length).map (nC (lJ ids H.length))) H ++ (h'.drop ids.length).map (nC (lJ ids H.length))
theorem inI_iff {l:List Nat} {i:Nat}:NQ l i=true↔i∈l:=by
 induction l with
 | nil=>simp[NQ]
 | cons j l ih =>
  rw[NQ,Bool.or_eq_true,ih,List.mem_cons]
  constructor
  ·rintro (h | h)
   ·exact .inl (Nat.eq_of_beq_eq_true h).symm
   ·exact .inr h
  ·rintro (h | h)
   ·subst h; exact .inl (by simp)
   ·exact .inr h
theorem aJM {l:List Nat} {i:Nat} (h:i∈l):l[wB l i]? = some i:=by
 induction l with
 | nil=>simp at h
 | cons j l ih =>
  rw[wB]
  cases hb:Nat.beq j i with
  | true=>have:=Nat.eq_of_beq_eq_true hb; subst this; rfl
  | false =>
   have hne:j≠i:=fun e=>by subst e; simp at hb
   show (j::l)[wB l i+1]? = some i
   rw[List.getElem?_cons_succ]
   exact ih (by rcases List.mem_cons.1 h with e | e; exact absurd e.symm hne; exact e)
section
variable {M:Mem} {B B':bY} {w w':World}
mutual
theorem a4O {f:Nat→Nat} {D:Nat→Bool} (hf:∀ i c,D i=true→B[i]? = some c→B'[f i]? = some c):∀ p:PV,p.allI D=true→∀ v,(sem M B p).1 v→(sem M B' (kM f p)).1 v
 | .int _ _,_,v,h=>by simpa only[kM,sem] using h
 | .bool _,_,v,h=>by simpa only[kM,sem] using h
 | .str _,_,v,h=>by simpa only[kM,sem] using h
 | .nilp,_,v,h=>by simpa only[kM,sem] using h
 | .raw _,_,v,h=>by simpa only[kM,sem] using h
 | .cst _,_,v,h=>by simpa only[kM,sem] using h
 | .sl _ _ _,_,v,h=>by simpa only[kM,sem] using h
 | .slT _,_,v,h=>by simpa only[kM,sem] using h
 | .slp _ _ _ _,_,v,h=>by simpa only[kM,sem] using h
 | .mp _,_,v,h=>by simpa only[kM,sem] using h
 | .ptr i o,hd,v,h=>by
  simp only[sem,dD] at h
  simp only[kM,sem,dD]
  obtain ⟨c,hc,e⟩:=h
  exact ⟨c,⟨hf i c (by simpa only[PV.allI] using hd) hc.1,hc.2⟩,e⟩
 | .bld T i,hd,v,h=>by
  simp only[sem,dD] at h
  simp only[kM,sem,dD]
  obtain ⟨c,hc,e⟩:=h
  exact ⟨c,hf i c (by simpa only[PV.allI] using hd) hc,e⟩
 | .slh i o n z,hd,v,h=>by
  simp only[sem,dD] at h
  simp only[kM,sem,dD]
  obtain ⟨c,cap,hc,e⟩:=h
  exact ⟨c,cap,⟨hf i c (by simpa only[PV.allI] using hd) hc.1,hc.2⟩,e⟩
 | .func fn a c,hd,v,h=>by
  simp only[PV.allI,Bool.and_eq_true] at hd
  simp only[sem,dD] at h
  simp only[kM,sem,dD]
  obtain ⟨x,y,e,h1,h2⟩:=h
  exact ⟨x,y,e,rU hf a hd.1 _ h1,rU hf c hd.2 _ h2⟩
 | .agg cs,hd,v,h=>by
  simp only[sem] at h
  simp only[kM,sem]
  obtain ⟨vs,e,h1⟩:=h
  exact ⟨vs,e,rU hf cs (by simpa only[PV.allI] using hd) _ h1⟩
 | .tuple cs,hd,v,h=>by
  simp only[sem] at h
  simp only[kM,sem]
  obtain ⟨vs,e,h1⟩:=h
  exact ⟨vs,e,rU hf cs (by simpa only[PV.allI] using hd) _ h1⟩
theorem rU {f:Nat→Nat} {D:Nat→Bool} (hf:∀ i c,D i=true→B[i]? = some c→B'[f i]? = some c):∀ ps:List PV,PV.allIL D ps=true→∀ vs,rH (gY M B ps) vs→rH (gY M B' (kZ f ps)) vs
 | [],_,vs,h=>by simpa only[kZ,gY] using h
 | p::ps,hd,vs,h=>by
  simp only[PV.allIL,Bool.and_eq_true] at hd
  cases vs with
  | nil=>simp[gY,rH] at h
  | cons v vs =>
   simp only[gY,rH] at h
   simp only[kZ,gY,rH]
   exact ⟨a4O hf p hd.1 v h.1,rU hf ps hd.2 vs h.2⟩
end
theorem ZP {f:Nat→Nat} {D:Nat→Bool} (hf:∀ i c,D i=true→B[i]? = some c→B'[f i]? = some c) {p:PV} (hd:p.allI D=true) {v:Value} (h:Rep M B p v):Rep M B' (kM f p) v:=a4O hf p hd v h
theorem aG2 {f:Nat→Nat} {D:Nat→Bool} (hf:∀ i c,D i=true→B[i]? = some c→B'[f i]? = some c) {ps:List PV} (hd:PV.allIL D ps=true) {vs:List Value} (h:Reps M B ps vs):Reps M B' (kZ f ps) vs:=rU hf ps hd vs h
mutual
theorem L6:∀ p:PV,p.allI (fun _=>true)=true
 | .func _ a c=>by simp only[PV.allI,sZ a,sZ c,Bool.and_self]
 | .agg cs=>by simp only[PV.allI,sZ cs]
 | .tuple cs=>by simp only[PV.allI,sZ cs]
 | .ptr _ _=>rfl
 | .bld _ _=>rfl
 | .slh _ _ _ _=>rfl
 | .int _ _=>rfl
 | .bool _=>rfl
 | .str _=>rfl
 | .nilp=>rfl
 | .raw _=>rfl
 | .cst _=>rfl
 | .sl _ _ _=>rfl
 | .slT _=>rfl
 | .slp _ _ _ _=>rfl
 | .mp _=>rfl
theorem sZ:∀ ps:List PV,PV.allIL (fun _=>true) ps=true
 | []=>rfl
 | p::ps=>by simp only[PV.allIL,L6 p,sZ ps,Bool.and_self]
end
theorem aN7 (f:Nat→Nat) (p:PV):(kM f p).own=p.own:=by cases p<;>rfl
theorem J8 (f:Nat→Nat) (p:PV) (v:Value) (b:Nat):bF (kM f p) v b=bF p v b:=by unfold bF; rw[aN7]
theorem a5K {f:Nat→Nat} {p:PV} {v:Value} (h:Tl M w p v):Tl M w (kM f p) v:=by
 cases p<;>first | exact h | exact cO rfl
theorem UD {f:Nat→Nat}:∀ {ps:List PV} {j:Nat},(kZ f ps)[j]? =(ps[j]?).map (kM f)
 | [],j=>by simp[kZ]
 | p::ps,0=>by simp[kZ]
 | p::ps,j+1=>by rw[kZ,List.getElem?_cons_succ,List.getElem?_cons_succ]; exact UD
theorem BZ {f:Nat→Nat}:∀ ps:List PV,(kZ f ps).length=ps.length
 | []=>rfl
 | p::ps=>by simp[kZ,BZ ps]
theorem a2H {f:Nat→Nat} {b:Nat}:∀ (cs:List PV) (vs:List Value),dP (kZ f cs) vs b=dP cs vs b
 | [],_=>by simp[kZ,dP]
 | p::ps,[]=>by simp[kZ,dP]
 | p::ps,v::vs=>by rw[kZ,dP,dP,J8,a2H ps vs]
theorem BG {f:Nat→Nat} {b:Nat}:∀ (h:aG) (B:bY),aJ w (h.map (nC f)) B b=aJ w h B b
 | [],_=>by simp[aJ]
 | some cs::h,[]=>by simp[nC,aJ]
 | none::h,[]=>by simp[nC,aJ]
 | some cs::h,c::B=>by simp only[List.map_cons,nC,aJ,a2H,BG h B]
 | none::h,c::B=>by simp only[List.map_cons,nC,aJ,BG h B]
def o1 (w:World) (b:Nat) (o:Option (List PV)) (c:Nat×Nat×TypeId):Nat:=match o with | some cs=>(if c.1=b then 1 else 0)+dP cs (aZ w c.1) b | none=>0
theorem lF (o:Option (List PV)) (h:aG) (c:Nat×Nat×TypeId) (B:bY) (b:Nat):aJ w (o::h) (c::B) b=o1 w b o c+aJ w h B b:=by
 cases o with
 | none=>simp only[aJ,o1]; omega
 | some cs=>simp only[aJ,o1]
theorem a1H {b:Nat} {o:Option (List PV)}:∀ {H:aG} {B:bY} {i:Nat} {old:Option (List PV)} {c:Nat×Nat×TypeId},H[i]? = some old→B[i]? = some c→aJ w (H.set i o) B b+o1 w b old c=aJ w H B b+o1 w b o c
 | [],_,_,_,_,h,_=>by simp at h
 | _::_,[],_,_,_,_,h=>by simp at h
 | x::H,d::B,0,old,c,h1,h2=>by
  simp at h1 h2; subst h1; subst h2
  rw[List.set_cons_zero,lF,lF]; omega
 | x::H,d::B,i+1,old,c,h1,h2=>by
  have:=a1H (b:=b) (o:=o) (H:=H) (B:=B) (i:=i) (by simpa using h1) (by simpa using h2)
  rw[List.set_cons_succ,lF,lF]; omega
theorem U8 {b:Nat}:∀ {h k:aG} {B C:bY},h.length=B.length→aJ w (h ++ k) (B ++ C) b=aJ w h B b+aJ w k C b
 | [],k,[],C,_=>by simp[aJ]
 | o::h,k,c::B,C,e=>by
  rw[List.cons_append,List.cons_append,lF,lF,U8 (by simpa using e)]; omega
 | [],_,_::_,_,e=>by simp at e
 | _::_,_,[],_,e=>by simp at e
theorem iZ:∀ (is:List Nat) (os H:aG),(gJ is os H).length=H.length
 | [],os,H=>by cases os<;>rfl
 | i::is,[],H=>rfl
 | i::is,o::os,H=>by rw[gJ,iZ]; simp
theorem sS {i:Nat}:∀ {is:List Nat} {os H:aG},i∉is→(gJ is os H)[i]? = H[i]?
 | [],os,H,_=>by cases os<;>rfl
 | j::is,[],H,_=>rfl
 | j::is,o::os,H,h=>by
  rw[gJ,sS (fun e=>h (by simp[e])),List.getElem?_set_ne (fun e=>h (by simp[e]))]
theorem WH:∀ {is:List Nat} {os H:aG} {j i:Nat} {o:Option (List PV)},is.Nodup→is[j]? = some i→os[j]? = some o→i<H.length→(gJ is os H)[i]? = some o
 | [],_,_,_,_,_,_,h,_,_=>by simp at h
 | _::_,[],_,_,_,_,_,_,h,_=>by simp at h
 | k::is,q::os,H,0,i,o,hn,h1,h2,hi=>by
  simp at h1 h2; subst h1; subst h2
  rw[gJ,sS (List.nodup_cons.1 hn).1,List.getElem?_set_self hi]
 | k::is,q::os,H,j+1,i,o,hn,h1,h2,hi=>by
  rw[gJ]; exact WH (List.nodup_cons.1 hn).2 (by simpa using h1) (by simpa using h2) (by simpa using hi)
theorem xR {b:Nat}:∀ {is:List Nat} {os H:aG},is.Nodup→os.length=is.length→(∀ i,i∈is→i<H.length∧i<B.length) →
 aJ w (gJ is os H) B b+aJ w (is.map (rZ H)) (is.map fun i=>B.getD i (0,0,0)) b=aJ w H B b+aJ w os (is.map fun i=>B.getD i (0,0,0)) b
 | [],[],H,_,_,_=>by simp[gJ,aJ]
 | [],_::_,_,_,h,_=>by simp at h
 | _::_,[],_,_,h,_=>by simp at h
 | i::is,o::os,H,hn,hl,hb=>by
  obtain ⟨hn1,hn2⟩:=List.nodup_cons.1 hn
  obtain ⟨b1,b2⟩:=hb i (by simp)
  have ih:=xR (b:=b) (is:=is) (os:=os) (H:=H.set i o) hn2 (by simpa using hl) fun j hj=>by simpa using hb j (by simp[hj])
  have e1:is.map (rZ (H.set i o))=is.map (rZ H):=List.map_congr_left fun j hj=>by
   unfold rZ; rw[List.getElem?_set_ne (fun e=>hn1 (by rw[e]; exact hj))]
  rw[e1] at ih
  have hB:B[i]? = some (B.getD i (0,0,0)):=by rw[List.getD_eq_getElem?_getD,List.getElem?_eq_getElem b2]; rfl
  have hH:H[i]? = some (rZ H i):=by unfold rZ; rw[List.getElem?_eq_getElem b1]
  have e2:=a1H (w:=w) (b:=b) (o:=o) hH hB
  rw[gJ,List.map_cons,List.map_cons,lF,lF]
  omega
theorem a8I {l:List Nat} (h:nodupB l=true):l.Nodup:=by
 induction l with
 | nil=>exact List.nodup_nil
 | cons i l ih =>
  simp only[nodupB,Bool.and_eq_true,Bool.not_eq_true'] at h
  refine List.nodup_cons.2 ⟨fun hm => ?_,ih h.2⟩
  rw[inI_iff.2 hm] at h; exact absurd h.1 (by simp)
theorem getO_some {H:aG} {i:Nat} {cs:List PV}:rZ H i=some cs↔H[i]? = some (some cs):=by
 unfold rZ
 cases h:H[i]? with
 | none=>simp
 | some o=>simp
end
theorem EvG.sub {P:Program} {cp:CP} (hm:RU cp) {g:FuncId} {ids:List Nat} {H:aG} {big:List PV} {r:PV} {h':aG}
 (k:EvG P cp g (kZ (wB ids) big) ((ids.map (rZ H)).map (nC (wB ids))) r h') (hnd:nodupB ids=true) (hlt:∀ i,i∈ids→i<H.length)
 (hbig:PV.allIL (NQ ids) big=true) (hcs:∀ i cs,i∈ids→H[i]? = some (some cs)→PV.allIL (NQ ids) cs=true):EvG P cp g big H (kM (lJ ids H.length) r) (DN ids H h'):=by
 have hnd:=a8I hnd
 refine ⟨k.1,fun out M B w vals hmem hheap hcnt hnew hv => ?_⟩
 have hBH:H.length=B.length:=hheap.1
 let Bs:bY:=ids.map fun i=>B.getD i (0,0,0)
 let Hc:aG:=gJ ids (ids.map fun _=>none) H
 have hBi:∀ i,i∈ids→B[i]? = some (B.getD i (0,0,0)):=fun i hi=>by
  rw[List.getD_eq_getElem?_getD,List.getElem?_eq_getElem (by rw[← hBH]; exact hlt i hi)]; rfl
 have hin:∀ i,i∈ids→i<H.length∧i<B.length:=fun i hi=>⟨hlt i hi,by rw[← hBH]; exact hlt i hi⟩
 have hpos:∀ i c,NQ ids i=true→B[i]? = some c→Bs[wB ids i]? = some c:=fun i c hi hc=>by
  have hm:=inI_iff.1 hi
  show (ids.map fun i=>B.getD i (0,0,0))[wB ids i]? = some c
  rw[List.getElem?_map,aJM hm,← hc,hBi i hm]; rfl
 have hnone:∀ (l:List Nat) (C:bY) (w:World) b,aJ w (l.map fun _=>(none:Option (List PV))) C b=0:=by
  intro l
  induction l with
  | nil=>intro C w b; simp[aJ]
  | cons i l ih=>intro C w b; cases C with
   | nil=>simp[aJ]
   | cons c C=>rw[List.map_cons,lF,ih]; simp[o1]
 have hsum:∀ (w:World) (os:aG),os.length=ids.length→∀ b,aJ w (gJ ids os H) B b=aJ w Hc B b+aJ w os Bs b:=fun w os hl b=>by
  have e1:=xR (w:=w) (b:=b) (is:=ids) (os:=os) hnd hl hin
  have e2:=xR (w:=w) (b:=b) (is:=ids) (os:=ids.map fun _=>none) hnd (by simp) hin
  rw[hnone] at e2
  show aJ w (gJ ids os H) B b=aJ w (gJ ids (ids.map fun _=>none) H) B b+aJ w os (ids.map fun i=>B.getD i (0,0,0)) b
  omega
 have hs1:∀ b,aJ w Hc B b+aJ w ((ids.map (rZ H)).map (nC (wB ids))) Bs b=aJ w H B b:=fun b=>by
  have e2:=xR (w:=w) (b:=b) (is:=ids) (os:=ids.map fun _=>none) hnd (by simp) hin
  rw[hnone] at e2
  rw[BG]
  show aJ w (gJ ids (ids.map fun _=>none) H) B b+aJ w (ids.map (rZ H)) (ids.map fun i=>B.getD i (0,0,0)) b=_
  omega
 have hheapS:HeapOK M Bs w ((ids.map (rZ H)).map (nC (wB ids))):=by
  refine ⟨by simp[Bs],fun j cs' hj => ?_⟩
  rw[List.getElem?_map,List.getElem?_map] at hj
  cases hi:ids[j]? with
  | none=>simp[hi] at hj
  | some i =>
   have hm:i∈ids:=List.mem_of_getElem? hi
   cases ho:rZ H i with
   | none=>simp[hi,ho,nC] at hj
   | some cs =>
    simp[hi,ho,nC] at hj; subst hj
    have hHi:=getO_some.1 ho
    obtain ⟨c,hc,vs,ty,h1,h2,h3,h4,h5⟩:=hheap.2 i cs hHi
    refine ⟨c,by show (ids.map fun i=>B.getD i (0,0,0))[j]? = some c; rw[List.getElem?_map,hi,← hc,hBi i hm]; rfl,vs,ty,h1,h2,by rw[BZ]; exact h3,fun l p hp => ?_,h5⟩
    rw[UD] at hp
    cases hq:cs[l]? with
    | none=>simp[hq] at hp
    | some q =>
     simp[hq] at hp; subst hp
     obtain ⟨u,a1,a2,a3,a4⟩:=h4 l q hq
     have hd:q.allI (NQ ids)=true:=by
      have:=hcs i cs hm hHi
      have key:∀ (cs:List PV) (l:Nat),PV.allIL (NQ ids) cs=true→cs[l]? = some q→q.allI (NQ ids)=true:=by
       intro cs
       induction cs with
       | nil=>intro l _ h; simp at h
       | cons c cs ih =>
        intro l h1 h2
        simp only[PV.allIL,Bool.and_eq_true] at h1
        cases l with
        | zero=>simp at h2; subst h2; exact h1.1
        | succ l=>exact ih l h1.2 (by simpa using h2)
      exact key cs l this hq
     exact ⟨u,a1,ZP hpos hd a2,a5K a3,a4⟩
 refine hm (k.2 (fun b=>out b+aJ w Hc B b) M Bs w vals hmem hheapS (fun b=>by have:=hs1 b; have:=hcnt b; omega) (fun b hb=>by have:=hs1 b; have:=hnew b hb; omega) (aG2 hpos hbig hv)) fun e w' he => ?_
 obtain ⟨v,M',Bs',rfl,hP⟩:=he
 have hBsl:Bs.length=ids.length:=by simp[Bs]
 have hBs':∀ (m:Nat) c,Bs[m]? = some c→Bs'[m]? = some c:=hP.le.blk
 have hl':h'.length=Bs'.length:=hP.heap.1
 have hk:ids.length≤Bs'.length:=by
  rcases Nat.eq_zero_or_pos ids.length with h0 | h0
  ·omega
  ·have:Bs[ids.length-1]? = some Bs[ids.length-1]:=List.getElem?_eq_getElem (by omega)
   have:=(List.getElem?_eq_some_iff.1 (hBs' _ _ this)).1
   omega
 have htake:Bs'.take ids.length=Bs:=by
  apply List.ext_getElem?
  intro m
  rw[List.getElem?_take]
  split
  ·rename_i hm
   have:Bs[m]? = some Bs[m]:=List.getElem?_eq_getElem (by omega)
   rw[this,hBs' _ _ this]
  ·rw[List.getElem?_eq_none (by omega)]
 let B':bY:=B ++ Bs'.drop ids.length
 have hback:∀ m c,(fun _=>true) m=true→Bs'[m]? = some c→B'[lJ ids H.length m]? = some c:=fun m c _ hc=>by
  unfold lJ
  rcases Nat.lt_or_ge m ids.length with hm | hm
  ·have hi:ids[m]? = some ids[m]:=List.getElem?_eq_getElem hm
   have hmem:ids[m]∈ids:=List.getElem_mem hm
   rw[hi]
   have hb:Bs[m]? = some (B.getD ids[m] (0,0,0)):=by show (ids.map fun i=>B.getD i (0,0,0))[m]? = _; rw[List.getElem?_map,hi]; rfl
   have:=hBs' _ _ hb
   rw[hc] at this; injection this with this
   show (B ++ Bs'.drop ids.length)[ids[m]]? = some c
   rw[List.getElem?_append_left (hin _ hmem).2,hBi _ hmem,this]
  ·rw[List.getElem?_eq_none hm]
   show (B ++ Bs'.drop ids.length)[H.length+(m-ids.length)]? = some c
   rw[List.getElem?_append_right (by omega),List.getElem?_drop,← hc]
   congr 1; omega
 have hlt':∀ b,1≤aJ w Hc B b→b<w.heap.size∧aJ w ((ids.map (rZ H)).map (nC (wB ids))) Bs b=0:=fun b hb=>by
  have h1:=hs1 b
  have h2:=hcnt b
  refine ⟨?_,by omega⟩
  rcases Nat.lt_or_ge b w.heap.size with h' | h'
  ·exact h'
  ·have:=hnew b h'; omega
 have hun:∀ b,1≤aJ w Hc B b→w'.heap[b]? = w.heap[b]? ∧ ∀ o,M' b o=M b o:=fun b hb=>hP.fr.blk b (hlt' b hb).1 (hlt' b hb).2
 have hobj:∀ (i:Nat) cs c,Hc[i]? = some (some cs)→B[i]? = some c→1≤aJ w Hc B c.1:=fun i cs c h1 h2=>by
  have:=bP (w:=w) c.1 h1 h2
  simp only[if_true] at this
  omega
 have hHc':∀ b,aJ w' Hc B b=aJ w Hc B b:=fun b=>jJ b fun i cs c h1 h2=>jX (hun c.1 (hobj i cs c h1 h2)).1
 have hle:MLe M M' B B':=⟨hP.le.mem,fun i c hc=>by
  show (B ++ Bs'.drop ids.length)[i]? = some c
  rw[List.getElem?_append_left (List.getElem?_eq_some_iff.1 hc).1]; exact hc⟩
 have hfin:∀ b,aJ w' (DN ids H h') B' b=aJ w Hc B b+aJ w' h' Bs' b:=fun b=>by
  show aJ w' (gJ ids ((h'.take ids.length).map (nC (lJ ids H.length))) H ++ (h'.drop ids.length).map (nC (lJ ids H.length))) (B ++ Bs'.drop ids.length) b=_
  rw[U8 (by rw[iZ]; exact hBH),hsum w' _ (by simp; omega),BG,BG,hHc']
  have:aJ w' h' Bs' b=aJ w' (h'.take ids.length) Bs b+aJ w' (h'.drop ids.length) (Bs'.drop ids.length) b:=by
   rw[← htake]
   conv=>lhs; rw[← List.take_append_drop ids.length h',← List.take_append_drop ids.length Bs']
   rw[U8 (by simp; omega)]
  omega
 refine ⟨v,M',B',rfl,hP.mem,hle,hP.fr.mono fun b hb h0=>by have:=hs1 b; omega,⟨?_,fun i cs hi => ?_⟩,ZP hback (L6 r) hP.rep,a5K hP.tl,fun b hb => ?_,fun b => ?_,fun b hb => ?_⟩
 ·show (gJ ids _ H ++ (h'.drop ids.length).map _).length=(B ++ Bs'.drop ids.length).length
  simp only[List.length_append,iZ,List.length_map,List.length_drop]; omega
 ·have key:∀ (m:Nat) (cs0:List PV),h'[m]? = some (some cs0)→cs=kZ (lJ ids H.length) cs0→i=lJ ids H.length m→∃ c,B'[i]? = some c∧aFM M' B' w' cs c:=fun m cs0 hm e1 e2=>by
   obtain ⟨c,hc,vs,ty,h1,h2,h3,h4,h5⟩:=hP.heap.2 m cs0 hm
   refine ⟨c,by rw[e2]; exact hback m c rfl hc,vs,ty,h1,h2,by rw[e1,BZ]; exact h3,fun l p hp => ?_,h5⟩
   rw[e1,UD] at hp
   cases hq:cs0[l]? with
   | none=>simp[hq] at hp
   | some q =>
    simp[hq] at hp; subst hp
    obtain ⟨u,a1,a2,a3,a4⟩:=h4 l q hq
    exact ⟨u,a1,ZP hback (L6 q) a2,a5K a3,a4⟩
  have hi0:(gJ ids ((h'.take ids.length).map (nC (lJ ids H.length))) H ++ (h'.drop ids.length).map (nC (lJ ids H.length)))[i]? = some (some cs):=hi
  rcases Nat.lt_or_ge i H.length with hlt1 | hge
  ·rw[List.getElem?_append_left (by rw[iZ]; exact hlt1)] at hi0
   by_cases hm:i∈ids
   ·obtain ⟨j,hj⟩:=List.mem_iff_getElem?.1 hm
    have hjl:=(List.getElem?_eq_some_iff.1 hj).1
    have ho:((h'.take ids.length).map (nC (lJ ids H.length)))[j]? = some (nC (lJ ids H.length) h'[j]):=by
     rw[List.getElem?_map,List.getElem?_take,if_pos hjl,List.getElem?_eq_getElem (by omega)]; rfl
    rw[WH hnd hj ho hlt1] at hi0
    injection hi0 with hi0
    cases hx:h'[j] with
    | none=>rw[hx] at hi0; cases hi0
    | some cs0 =>
     rw[hx] at hi0
     simp only[nC] at hi0
     injection hi0 with hi0
     exact key j cs0 (by rw[List.getElem?_eq_getElem (by omega),hx]) hi0.symm (by unfold lJ; rw[hj])
   ·rw[sS hm] at hi0
    obtain ⟨c,hc,vs,ty,h1,h2,h3,h4,h5⟩:=hheap.2 i cs hi0
    have hHci:Hc[i]? = some (some cs):=by show (gJ ids _ H)[i]? = _; rw[sS hm]; exact hi0
    have hcb:=hun c.1 (hobj i cs c hHci hc)
    refine ⟨c,hle.blk _ _ hc,vs,ty,by rw[kT hcb.1,h1],h2,h3,fun j p hj => ?_,fun o=>by rw[hcb.2]; exact h5 o⟩
    obtain ⟨u,a1,a2,a3,a4⟩:=h4 j p hj
    refine ⟨u,a1,a2.mono hle,a3.kept fun b ho=>hun b ?_,a4⟩
    have e1:=bP (w:=w) b hHci hc
    have e2:=iF b hj (by rw[bM h1]; simpa using a1:(aZ w c.1)[j]? = some u)
    omega
  ·rw[List.getElem?_append_right (by rw[iZ]; exact hge),iZ,List.getElem?_map,List.getElem?_drop] at hi0
   cases hx:h'[ids.length+(i-H.length)]? with
   | none=>simp[hx] at hi0
   | some o =>
    cases o with
    | none=>simp[hx,nC] at hi0
    | some cs0 =>
     simp[hx,nC] at hi0
     exact key _ cs0 hx hi0.symm (by unfold lJ; rw[List.getElem?_eq_none (by omega)]; simp; omega)
 ·have h1:=hP.own b hb; rw[J8,hfin]; have:=hs1 b; omega
 ·have h1:=hP.cnt b; rw[J8,hfin]; omega
 ·have h1:=hP.new b hb; rw[J8,hfin]; omega
theorem Ev.sub {P:Program} {g:FuncId} {ids:List Nat} {H:aG} {big:List PV} {r:PV} {h':aG}
 (k:Ev P g (kZ (wB ids) big) ((ids.map (rZ H)).map (nC (wB ids))) r h') (hnd:nodupB ids=true) (hlt:∀ i,i∈ids→i<H.length)
 (hbig:PV.allIL (NQ ids) big=true) (hcs:∀ i cs,i∈ids→H[i]? = some (some cs)→PV.allIL (NQ ids) cs=true):Ev P g big H (kM (lJ ids H.length) r) (DN ids H h') :=
 EvG.sub (xP P) k hnd hlt hbig hcs
mutual
def PV.noref:PV→Bool
 | .int _ _=>true
 | .bool _=>true
 | .str _=>true
 | .nilp=>true
 | .raw _=>true
 | .agg cs=>UW cs
 | .tuple cs=>UW cs
 | _=>false
def UW:List PV→Bool
 | []=>true
 | p::ps=>p.noref&&UW ps
end
mutual
theorem rW {M M':Mem} {B B':bY}:∀ (p:PV) {v:Value},p.noref=true→Rep M B p v→Rep M' B' p v
 | .int _ _,_,_,h=>rep_int.2 (rep_int.1 h)
 | .bool _,_,_,h=>rep_bool.2 (rep_bool.1 h)
 | .str _,_,_,h=>rep_str.2 (rep_str.1 h)
 | .nilp,_,_,h=>rep_nilp.2 (rep_nilp.1 h)
 | .raw _,_,_,h=>rep_raw.2 (rep_raw.1 h)
 | .agg cs,_,hn,h=>by
  obtain ⟨vs,hv,hr⟩:=rep_agg.1 h
  exact rep_agg.2 ⟨vs,hv,G8 cs hn hr⟩
 | .tuple cs,_,hn,h=>by
  obtain ⟨vs,hv,hr⟩:=rep_tuple.1 h
  exact rep_tuple.2 ⟨vs,hv,G8 cs hn hr⟩
 | .ptr _ _,_,hn,_=>by simp[PV.noref] at hn
 | .bld _ _,_,hn,_=>by simp[PV.noref] at hn
 | .cst _,_,hn,_=>by simp[PV.noref] at hn
 | .sl _ _ _,_,hn,_=>by simp[PV.noref] at hn
 | .slh _ _ _ _,_,hn,_=>by simp[PV.noref] at hn
 | .func _ _ _,_,hn,_=>by simp[PV.noref] at hn
theorem G8 {M M':Mem} {B B':bY}:∀ (ps:List PV) {vs:List Value},UW ps=true→Reps M B ps vs→Reps M' B' ps vs
 | [],_,_,h=>by rw[reps_nil] at h ⊢; exact h
 | p::ps,_,hn,h=>by
  simp only[UW,Bool.and_eq_true] at hn
  obtain ⟨u,us,rfl,h1,h2⟩:=reps_cons.1 h
  exact reps_cons.2 ⟨u,us,rfl,rW p hn.1 h1,G8 ps hn.2 h2⟩
end
theorem mZ {p:PV} (h:p.noref=true):p.own=false:=by cases p<;>first | rfl | (simp[PV.noref] at h)
def kD (p:PV):Bool:=p.one&&p.noref
theorem rO {p:PV} (h:kD p=true):p.isAgg=false∧(∀ ds,p ≠ .tuple ds)∧p.noref=true∧p.size=1:=by
 unfold kD at h
 simp only[Bool.and_eq_true] at h
 obtain ⟨h1,h2⟩:=h
 cases p<;>first | (simp[PV.one] at h1; done) | exact ⟨rfl,(fun ds h=>by cases h),h2,rfl⟩
def IL (h:aG) (p:PV):PV:=match p with
 | .slh i 0 n 1=>(match h[i]? with | some (some cs) => .sl false 1 (cs.take n) | _=>p)
 | .slh i 0 n sz=>(match h[i]? with | some (some cs) => .sl false sz (dY sz cs n) | _=>p)
 | _=>p
def aGC (h:aG) (p:PV):Bool:=match p with
 | .slh i 0 n 1=>(match h[i]? with | some (some cs)=>decide (n≤cs.length)&&cs.all kD | _=>false)
 | .slh i 0 n sz=>(match h[i]? with | some (some cs)=>decide (n*sz≤cs.length)&&decide (0<sz)&&cs.all kD | _=>false)
 | p=>p.flat
def aA8 (h:aG):List PV→List PV
 | [] => []
 | p::ps=>IL h p::aA8 h ps
def U7 (h:aG):List PV→Bool
 | []=>true
 | p::ps=>aGC h p&&U7 h ps
section
variable {M:Mem} {B:bY} {w:World} {h:aG}
def SG (h:aG) (B:bY) (b:Nat):Prop:=∃ (i:Nat) (cs:List PV) (c:Nat×Nat×TypeId),h[i]? = some (some cs)∧(B[i]? = some c∧c.2.2≠0)∧c.1=b∧cs.all kD=true
open Classical in
noncomputable def zU (M:Mem) (h:aG) (B:bY) (w:World):Mem:=mkM M.m fun b o=>if ∃ (i:Nat) (cs:List PV) (c:Nat×Nat×TypeId),h[i]? = some (some cs)∧(B[i]? = some c∧c.2.2≠0)∧c.1=b∧cs.all kD=true∧o<cs.length then w.cell? ⟨b,o,none⟩ else M b o
theorem CQ (hh:HeapOK M B w h) {i:Nat} {cs:List PV} {c:Nat×Nat×TypeId} (hi:h[i]? = some (some cs)) (hc:B[i]? = some c∧c.2.2≠0) (o:Nat):M c.1 o=none:=by
 obtain ⟨c',hc',_,_,_,_,_,_,h5⟩:=hh.2 i cs hi
 rw[hc.1] at hc'; cases hc'; exact h5 o
theorem KP (hh:HeapOK M B w h) {i:Nat} {cs:List PV} {c:Nat×Nat×TypeId} (hi:h[i]? = some (some cs)) (hc:B[i]? = some c∧c.2.2≠0) {o:Nat} {p:PV} (ho:cs[o]? = some p):∃ v,w.cell? ⟨c.1,o,none⟩=some v∧Rep M B p v∧v.oneCell'=true:=by
 obtain ⟨c',hc',vs,ty,r1,h2,h3,h4,h5⟩:=hh.2 i cs hi
 rw[hc.1] at hc'; cases hc'
 obtain ⟨ty,rfl,h1⟩:=jS r1 (by rw[h2.2]; exact hc.2)
 obtain ⟨v,hv,hr,_,h1'⟩:=h4 o p ho
 exact ⟨v,by simp[World.cell?,h1,hv],hr,h1'⟩
open Classical in
theorem AU (hh:HeapOK M B w h) (b o:Nat):zU M h B w b o=if ∃ (i:Nat) (cs:List PV) (c:Nat×Nat×TypeId),h[i]? = some (some cs)∧(B[i]? = some c∧c.2.2≠0)∧c.1=b∧cs.all kD=true∧o<cs.length then w.cell? ⟨b,o,none⟩ else M b o:=by
 unfold zU
 refine sJ (fun b o v e => ?_) b o
 split
 ·rename_i hx
  obtain ⟨i,cs,c,h1,h2,rfl,_⟩:=hx
  have:=M.g _ _ _ e
  rw[CQ hh h1 h2] at this; cases this
 ·exact M.g _ _ _ e
theorem aGS (hh:HeapOK M B w h):MLe M (zU M h B w) B B:=⟨fun b o v e=>by
 rw[AU hh]
 split
 ·rename_i hx
  obtain ⟨i,cs,c,h1,h2,rfl,_⟩:=hx
  rw[CQ hh h1 h2] at e; cases e
 ·exact e,fun _ _ e=>e⟩
theorem aFC (hm:qV M w) (hh:HeapOK M B w h):qV (zU M h B w) w:=fun b o v e=>by
 rw[AU hh] at e
 split at e
 ·rename_i hx
  obtain ⟨i,cs,c,h1,h2,rfl,_,ho⟩:=hx
  obtain ⟨v',q1,_,q3⟩:=KP hh h1 h2 (List.getElem?_eq_getElem ho)
  rw[q1] at e; cases e
  exact ⟨q1,q3⟩
 ·exact hm b o v e
theorem aH3 (hh:HeapOK M B w h) {p:PV} {v:Value} (hr:Rep M B p v) (hc:aGC h p=true):Rep (zU M h B w) [] (IL h p) v:=by
 have hflat:p.flat=true→IL h p=p→Rep (zU M h B w) [] (IL h p) v:=fun h1 h2=>by rw[h2]; exact Rep.flat [] h1 (hr.mono (aGS hh))
 unfold aGC at hc
 split at hc
 ·rename_i i n
  split at hc
  ·rename_i cs hi
   simp only[Bool.and_eq_true,decide_eq_true_eq] at hc
   obtain ⟨hn,hp⟩:=hc
   have e:IL h (.slh i 0 n 1) = .sl false 1 (cs.take n):=by simp only[IL,hi]
   rw[e]
   obtain ⟨c,cap,hB,hv,hle,hcap⟩:=rep_slh.1 hr
   have hpl:=fun p hp'=>rO (List.all_eq_true.1 hp p hp')
   refine rep_sl.2 ⟨some ⟨c.1,0,none⟩,cap,by rw[hv,List.length_take,Nat.min_eq_left hn],by rw[List.length_take]; omega,fun e he=>(hpl e (List.mem_of_mem_take he)).2.2.2,(fun h=>by cases h),fun _=>⟨c.1,0,rfl,lI fun j p hj => ?_⟩⟩
   rw[List.getElem?_take] at hj
   split at hj
   ·have hjl:=(List.getElem?_eq_some_iff.1 hj).1
    obtain ⟨a1,a2,a3,a4⟩:=hpl p (List.mem_of_getElem? hj)
    obtain ⟨u,q1,q2,_⟩:=KP hh hi hB hj
    rw[jD a1 a2]
    refine ⟨u,?_,rW p a3 q2⟩
    rw[AU hh,if_pos ⟨i,cs,c,hi,hB,rfl,hp,by omega⟩,show 0+j*1=j by omega]; exact q1
   ·cases hj
  ·cases hc
 ·rename_i i n sz hne1
  split at hc
  ·rename_i cs hi
   simp only[Bool.and_eq_true,decide_eq_true_eq] at hc
   obtain ⟨⟨hn,h0⟩,hp⟩:=hc
   have e:IL h (.slh i 0 n sz) = .sl false sz (dY sz cs n):=by
    unfold IL
    split
    ·rename_i e; injection e with _ _ _ e; subst e; first | exact absurd rfl (hne1 i n) | exact (hne1 rfl).elim
    ·rename_i e1; injection e1 with e1 _ e2 e3; subst e1; subst e2; subst e3; rw[hi]
    ·rename_i h1 h2; first | exact absurd rfl (h2 i n sz) | exact (h2 _ _ _ rfl).elim
   rw[e]
   obtain ⟨c,cap,hB,hv,hle,hcap⟩:=rep_slh.1 hr
   have hpl:=fun p hp'=>rO (List.all_eq_true.1 hp p hp')
   obtain ⟨k1,k2,k3⟩:=xQ h0 hn fun p hp'=>by
    have:=List.all_eq_true.1 hp p hp'
    unfold kD at this; simp only[Bool.and_eq_true] at this; exact this.1
   refine rep_sl.2 ⟨some ⟨c.1,0,none⟩,cap,by rw[hv,k1],by rw[k1]; exact hle,k2,(fun h=>by omega),fun _=>⟨c.1,0,rfl,k3 _ c.1 fun j p hj hlt => ?_⟩⟩
   have hjl:=(List.getElem?_eq_some_iff.1 hj).1
   obtain ⟨a1,a2,a3,a4⟩:=hpl p (List.mem_of_getElem? hj)
   obtain ⟨u,q1,q2,_⟩:=KP hh hi hB hj
   rw[jD a1 a2]
   refine ⟨u,?_,rW p a3 q2⟩
   rw[AU hh,if_pos ⟨i,cs,c,hi,hB,rfl,hp,hjl⟩]; exact q1
  ·cases hc
 ·rename_i hne1 hne2
  refine hflat hc ?_
  unfold IL
  split
  ·rename_i i n; exact absurd rfl (hne1 i n)
  ·rename_i i n sz _; exact absurd rfl (hne2 i n sz)
  ·rfl
theorem X0 (hh:HeapOK M B w h):∀ {ps:List PV} {vs:List Value},Reps M B ps vs→U7 h ps=true→Reps (zU M h B w) [] (aA8 h ps) vs
 | [],_,hr,_=>by rw[reps_nil] at hr; subst hr; exact reps_nil.2 rfl
 | p::ps,_,hr,hc=>by
  obtain ⟨u,us,rfl,h1,h2⟩:=reps_cons.1 hr
  simp only[U7,Bool.and_eq_true] at hc
  exact reps_cons.2 ⟨u,us,rfl,aH3 hh h1 hc.1,X0 hh h2 hc.2⟩
end
theorem Ev.lend {P:Program} {g:FuncId} {args:List PV} {r:PV} {h:aG} (h0:Ev P g (aA8 h args) [] r []) (hr:r.noref=true) (hc:U7 h args=true):Ev P g args h r h:=by
 classical
 refine ⟨h0.1,fun out M B w vals hmem hheap hcnt hnew hv => ?_⟩
 have hz:∀ w b,aJ w [] [] b=0:=fun w b=>by simp[aJ]
 refine (h0.2 (fun b=>out b+aJ w h B b) (zU M h B w) [] w vals (aFC hmem hheap) ⟨rfl,fun i cs hi=>by simp at hi⟩ (fun b=>by rw[hz]; have:=hcnt b; omega) (fun b hb=>by rw[hz]; have:=hnew b hb; omega) (X0 hheap hv hc)).mono fun e w' he => ?_
 obtain ⟨v,M1,B1,rfl,hP⟩:=he
 have hB1:B1 = []:=List.eq_nil_of_length_eq_zero (by have:=hP.heap.1; simpa using this.symm)
 subst hB1
 have hobj:∀ (i:Nat) cs c,h[i]? = some (some cs)→B[i]? = some c→1≤aJ w h B c.1:=fun i cs c h1 h2=>by
  have:=bP (w:=w) c.1 h1 h2
  simp only[if_true] at this
  omega
 have hlt:∀ b,1≤aJ w h B b→b<w.heap.size:=fun b hb=>by
  rcases Nat.lt_or_ge b w.heap.size with h' | h'
  ·exact h'
  ·have:=hnew b h'; omega
 have hun:∀ b,b<w.heap.size→w'.heap[b]? = w.heap[b]? ∧ ∀ o,M1 b o=zU M h B w b o:=fun b hb=>hP.fr.blk b hb (hz w b)
 obtain ⟨M',hM'⟩:∃ M':Mem,∀ b o,M' b o=if SG h B b then none else M1 b o:=⟨mkM _ _,sJ fun b o v e=>by
  rw[if_neg (fun ⟨i,cs,c,h1,h2,h3,_⟩=>by subst h3; have:=M.g _ _ _ e; rw[CQ hheap h1 h2] at this; cases this)]; exact hP.le.mem _ _ _ ((zU M h B w).g _ _ _ e)⟩
 have hL:∀ b o,SG h B b→M' b o=none:=fun b o hl=>by rw[hM']; simp only[if_pos hl]
 have hN:∀ b o,¬ SG h B b→M' b o=M1 b o:=fun b o hl=>by rw[hM']; simp only[if_neg hl]
 have hLn:∀ b o,SG h B b→M b o=none:=fun b o ⟨i,cs,c,h1,h2,h3,_⟩=>by subst h3; exact CQ hheap h1 h2 o
 have hNM:∀ b o,¬ SG h B b→zU M h B w b o=M b o:=fun b o hl=>by
  rw[AU hheap,if_neg (fun ⟨i,cs,c,h1,h2,h3,h4,_⟩=>hl ⟨i,cs,c,h1,h2,h3,h4⟩)]
 have heq:∀ b o,b<w.heap.size→M' b o=M b o:=fun b o hb=>by
  by_cases hl:SG h B b
  ·rw[hL b o hl,hLn b o hl]
  ·rw[hN b o hl,(hun b hb).2,hNM b o hl]
 have hle:MLe M M' B B:=⟨fun b o v e=>by
  have:=World.block_lt_of_cell? _ _ (hmem b o v e).1
  rw[heq b o this]; exact e,fun _ _ h=>h⟩
 have hfp:∀ b,aJ w' h B b=aJ w h B b:=fun b=>jJ b fun i cs c h1 h2=>jX (hun c.1 (hlt _ (hobj i cs c h1 h2))).1
 refine ⟨v,M',B,rfl,fun b o u e => ?_,hle,⟨hP.fr.os,hP.fr.tape,hP.fr.output,hP.fr.size,fun b hb _=>⟨(hun b hb).1,fun o=>heq b o hb⟩⟩,⟨hheap.1,fun i cs hi => ?_⟩,rW r hr hP.rep,cO (mZ hr),fun b _ => ?_,fun b => ?_,fun b hb => ?_⟩
 ·by_cases hl:SG h B b
  ·rw[hL b o hl] at e; cases e
  ·rw[hN b o hl] at e; exact hP.mem b o u e
 ·obtain ⟨c,hc',vs,ty,h1,h2,h3,h4,h5⟩:=hheap.2 i cs hi
  have hcl:=hlt _ (hobj i cs c hi hc')
  refine ⟨c,hc',vs,ty,by rw[kT (hun c.1 hcl).1,h1],h2,h3,fun j p hj => ?_,fun o=>by rw[heq c.1 o hcl]; exact h5 o⟩
  obtain ⟨u,hu,hur,hT,hone⟩:=h4 j p hj
  refine ⟨u,hu,hur.mono hle,hT.kept fun b ho => ?_,hone⟩
  have e1:=bP (w:=w) b hi hc'
  have e2:=iF b hj (by rw[bM h1]; simpa using hu:(aZ w c.1)[j]? = some u)
  have hbl:=hlt b (by omega)
  exact ⟨(hun b hbl).1,fun o=>heq b o hbl⟩
 ·rw[aN (mZ hr),hfp]; omega
 ·rw[aN (mZ hr),hfp]; have:=hcnt b; omega
 ·rw[aN (mZ hr),hfp]; have:=hnew b (Nat.le_trans hP.fr.size hb); omega
theorem Ev.thaw0 {P:Program} {g:FuncId} {args:List PV} {es:List PV} (h0:Ev P g args [] (.sl true 1 es) []) (hpos:0<es.length) (hpl:es.all kD=true):Ev P g args [] (.slh 0 0 es.length 1) [some es]:=by
 refine ⟨h0.1,fun out M B w vals hmem hheap hcnt hnew hv => ?_⟩
 have hz:∀ w b,aJ w [] B b=0:=fun w b=>by simp[aJ]
 refine (h0.2 out M B w vals hmem hheap hcnt hnew hv).mono fun e w' he => ?_
 obtain ⟨v,M1,B1,rfl,hP⟩:=he
 have hB1:B1 = []:=List.eq_nil_of_length_eq_zero (by have:=hP.heap.1; simpa using this.symm)
 have hB0:B = []:=List.eq_nil_of_length_eq_zero (by have:=hheap.1; simpa using this.symm)
 subst hB1
 subst hB0
 have hz':∀ w b,aJ w [] [] b=0:=fun w b=>by simp[aJ]
 obtain ⟨A,cap,hv1,hle,hs,_,hA⟩:=rep_sl.1 hP.rep
 obtain ⟨b,off,rfl,hL⟩:=hA (fun e=>by rw[e] at hpos; simp at hpos)
 obtain ⟨_,_,ht⟩:=hP.tl.s 1 es _ _ _ rfl hv1
 obtain ⟨cs,ty,t1,t2,t3,_,t4⟩:=ht _ rfl
 simp only at t1 t2 t3 t4
 subst t4
 have hown:∀ b',bF (.sl true 1 es) v b'=if b=b' then 1 else 0:=fun b'=>by rw[hv1]; simp[bF,PV.own]
 have hnb:w.heap.size≤b:=by
  rcases Nat.lt_or_ge b w.heap.size with h | h
  ·have:=hP.own b h
   rw[hz',hz',hown,if_pos rfl] at this
   omega
  ·exact h
 have hpl':=fun p hp=>rO (List.all_eq_true.1 hpl p hp)
 have hown0:∀ (vs:List Value) b',dP es vs b'=0:=by
  intro vs b'
  have:∀ (l:List PV) (vs:List Value),(∀ p,p∈l→p.own=false)→dP l vs b'=0:=by
   intro l
   induction l with
   | nil=>intro vs _; cases vs<;>rfl
   | cons p l ih =>
    intro vs hl
    cases vs with
    | nil=>rfl
    | cons u vs=>rw[dP,aN (hl p (by simp)),ih vs fun q hq=>hl q (by simp[hq])]
  exact this es vs fun p hp=>mZ (hpl' p hp).2.2.1
 have hH:∀ b',aJ w' [some es] [(b,cs.size,ty+1)] b'=if b=b' then 1 else 0:=fun b'=>by simp only[aJ,hown0]; omega
 obtain ⟨M2,hM2⟩:∃ M2:Mem,∀ b' o,M2 b' o=if b'=b then none else M1 b' o:=⟨mkM _ _,sJ fun b' o u e=>by
  have:=World.block_lt_of_cell? _ _ (hmem b' o u (M.g _ _ _ e)).1
  simp only at this
  rw[if_neg (by omega)]; exact hP.le.mem _ _ _ (M.g _ _ _ e)⟩
 refine ⟨v,M2,[(b,cs.size,ty+1)],rfl,fun b' o u e => ?_,⟨fun b' o u e => ?_,fun i c e=>by simp at e⟩,⟨hP.fr.os,hP.fr.tape,hP.fr.output,hP.fr.size,fun b' hb' _ => ?_⟩,⟨rfl,fun i cs' hi => ?_⟩,rep_slh.2 ⟨(b,cs.size,ty+1),cap,⟨rfl,by simp⟩,hv1,hle,by simpa using t2⟩,cO rfl,fun b' hb' => ?_,fun b' => ?_,fun b' hb' => ?_⟩
 ·rw[hM2] at e
  split at e
  ·cases e
  ·exact hP.mem b' o u e
 ·have:=World.block_lt_of_cell? _ _ (hmem b' o u e).1
  simp only at this
  rw[hM2,if_neg (by omega)]; exact hP.le.mem b' o u e
 ·have h1:=hP.fr.blk b' hb' (hz' w b')
  exact ⟨h1.1,fun o=>by rw[hM2,if_neg (by omega)]; exact h1.2 o⟩
 ·cases i with
  | succ i=>simp at hi
  | zero =>
   simp at hi
   subst hi
   refine ⟨(b,cs.size,ty+1),rfl,cs,ty+1,kS t1,⟨rfl,rfl⟩,by omega,fun j p hj => ?_,fun o=>by rw[hM2,if_pos rfl]⟩
   obtain ⟨a1,a2,a3,a4⟩:=hpl' p (List.mem_of_getElem? hj)
   obtain ⟨u,hu,hr⟩:=(jD a1 a2).1 (lW hL hj)
   have hc:=(hP.mem _ _ _ hu)
   refine ⟨u,?_,rW p a3 hr,cO (mZ a3),hc.2⟩
   have:=hc.1
   simpa[World.cell?,t1] using this
 ·rw[hH,hz',if_neg (by omega),aN rfl]; omega
 ·have:=hP.cnt b'
  rw[hz',hown] at this
  rw[hH,aN rfl]; omega
 ·have:=hP.new b' hb'
  rw[hz',hown] at this
  rw[hH,aN rfl]; omega
def nN (sz:Nat) (e:PV):Bool:=match e with
 | .agg ds=>Nat.beq ds.length sz&&ds.all kD
 | _=>false
theorem V5 {sz:Nat}:∀ {es:List PV},es.all (nN sz)=true→(aX es).length=es.length*sz
 | [],_=>by simp[aX]
 | e::es,h=>by
  simp only[List.all_cons,Bool.and_eq_true] at h
  cases e with
  | agg ds =>
   have:=Nat.eq_of_beq_eq_true (by have:=h.1; simp only[nN,Bool.and_eq_true] at this; exact this.1)
   rw[aX,List.length_append,V5 h.2,List.length_map,this,List.length_cons,Nat.succ_mul]; omega
  | _=>simp[nN] at h
theorem yR {sz:Nat}:∀ {es:List PV},es.all (nN sz)=true→(aX es).all kD=true
 | [],_=>rfl
 | e::es,h=>by
  simp only[List.all_cons,Bool.and_eq_true] at h
  cases e with
  | agg ds =>
   have h1:=h.1
   simp only[nN,Bool.and_eq_true] at h1
   rw[aX,List.all_append,yR h.2,Bool.and_true,List.all_map]
   refine List.all_eq_true.2 fun p hp => ?_
   have:=List.all_eq_true.1 h1.2 p hp
   obtain ⟨a1,a2,a3,a4⟩:=rO this
   show kD p.un=true
   cases p<;>first | exact this | (simp[PV.noref] at a3; done)
  | _=>simp[nN] at h
theorem Y5 {M:Mem} {B:bY} {sz b:Nat}:∀ {es:List PV} {o:Nat},Locs M B sz es b o→es.all (nN sz)=true→∀ {q:Nat} {p:PV},(aX es)[q]? = some p→∃ u,M b (o+q)=some u∧Rep M B p u
 | [],_,_,_,q,p,h=>by simp[aX] at h
 | e::es,o,hl,ha,q,p,h=>by
  simp only[List.all_cons,Bool.and_eq_true] at ha
  obtain ⟨h1,h2⟩:=locs_cons.1 hl
  cases e with
  | agg ds =>
   have hp:=ha.1
   simp only[nN,Bool.and_eq_true] at hp
   have hd:=Nat.eq_of_beq_eq_true hp.1
   rw[aX] at h
   rcases Nat.lt_or_ge q ds.length with hq | hq
   ·rw[List.getElem?_append_left (by simpa using hq),List.getElem?_map] at h
    cases hx:ds[q]? with
    | none=>simp[hx] at h
    | some x =>
     rw[hx] at h; injection h with h; subst h
     obtain ⟨u,hu,hr⟩:=rX (loc_agg.1 h1) hx
     exact ⟨u,hu,rep_un.2 hr⟩
   ·rw[List.getElem?_append_right (by simpa using hq)] at h
    simp only[List.length_map] at h
    obtain ⟨u,hu,hr⟩:=Y5 h2 ha.2 h
    exact ⟨u,by rw[← hu]; congr 1; omega,hr⟩
  | _=>have:=ha.1; simp[nN] at this
theorem Ev.thawG0 {P:Program} {g:FuncId} {args:List PV} {sz:Nat} {es:List PV} (h0:Ev P g args [] (.sl true sz es) []) (hpos:0<es.length) (hpl:es.all (nN sz)=true):Ev P g args [] (.slh 0 0 es.length sz) [some (aX es)]:=by
 refine ⟨h0.1,fun out M B w vals hmem hheap hcnt hnew hv => ?_⟩
 have hz:∀ w b,aJ w [] B b=0:=fun w b=>by simp[aJ]
 refine (h0.2 out M B w vals hmem hheap hcnt hnew hv).mono fun e w' he => ?_
 obtain ⟨v,M1,B1,rfl,hP⟩:=he
 have hB1:B1 = []:=List.eq_nil_of_length_eq_zero (by have:=hP.heap.1; simpa using this.symm)
 have hB0:B = []:=List.eq_nil_of_length_eq_zero (by have:=hheap.1; simpa using this.symm)
 subst hB1
 subst hB0
 have hz':∀ w b,aJ w [] [] b=0:=fun w b=>by simp[aJ]
 obtain ⟨A,cap,hv1,hle,hs,_,hA⟩:=rep_sl.1 hP.rep
 obtain ⟨b,off,rfl,hL⟩:=hA (fun e=>by rw[e] at hpos; simp at hpos)
 obtain ⟨_,_,ht⟩:=hP.tl.s sz es _ _ _ rfl hv1
 obtain ⟨cs,ty,t1,t2,t3,_,t4⟩:=ht _ rfl
 simp only at t1 t2 t3 t4
 subst t4
 have hown:∀ b',bF (.sl true sz es) v b'=if b=b' then 1 else 0:=fun b'=>by rw[hv1]; simp[bF,PV.own]
 have hnb:w.heap.size≤b:=by
  rcases Nat.lt_or_ge b w.heap.size with h | h
  ·have:=hP.own b h
   rw[hz',hz',hown,if_pos rfl] at this
   omega
  ·exact h
 have hfl:=V5 hpl
 have hpl':=fun p hp=>rO (List.all_eq_true.1 (yR hpl) p hp)
 have hown0:∀ (vs:List Value) b',dP (aX es) vs b'=0:=by
  intro vs b'
  have:∀ (l:List PV) (vs:List Value),(∀ p,p∈l→p.own=false)→dP l vs b'=0:=by
   intro l
   induction l with
   | nil=>intro vs _; cases vs<;>rfl
   | cons p l ih =>
    intro vs hl
    cases vs with
    | nil=>rfl
    | cons u vs=>rw[dP,aN (hl p (by simp)),ih vs fun q hq=>hl q (by simp[hq])]
  exact this _ vs fun p hp=>mZ (hpl' p hp).2.2.1
 have hH:∀ b',aJ w' [some (aX es)] [(b,cs.size,ty+1)] b'=if b=b' then 1 else 0:=fun b'=>by simp only[aJ,hown0]; omega
 have hcap:es.length*sz≤cs.size:=Nat.le_trans (Nat.mul_le_mul_right _ hle) (by omega)
 obtain ⟨M2,hM2⟩:∃ M2:Mem,∀ b' o,M2 b' o=if b'=b then none else M1 b' o:=⟨mkM _ _,sJ fun b' o u e=>by
  have:=World.block_lt_of_cell? _ _ (hmem b' o u (M.g _ _ _ e)).1
  simp only at this
  rw[if_neg (by omega)]; exact hP.le.mem _ _ _ (M.g _ _ _ e)⟩
 refine ⟨v,M2,[(b,cs.size,ty+1)],rfl,fun b' o u e => ?_,⟨fun b' o u e => ?_,fun i c e=>by simp at e⟩,⟨hP.fr.os,hP.fr.tape,hP.fr.output,hP.fr.size,fun b' hb' _ => ?_⟩,⟨rfl,fun i cs' hi => ?_⟩,rep_slh.2 ⟨(b,cs.size,ty+1),cap,⟨rfl,by simp⟩,hv1,hle,by simpa using t2⟩,cO rfl,fun b' hb' => ?_,fun b' => ?_,fun b' hb' => ?_⟩
 ·rw[hM2] at e
  split at e
  ·cases e
  ·exact hP.mem b' o u e
 ·have:=World.block_lt_of_cell? _ _ (hmem b' o u e).1
  simp only at this
  rw[hM2,if_neg (by omega)]; exact hP.le.mem b' o u e
 ·have h1:=hP.fr.blk b' hb' (hz' w b')
  exact ⟨h1.1,fun o=>by rw[hM2,if_neg (by omega)]; exact h1.2 o⟩
 ·cases i with
  | succ i=>simp at hi
  | zero =>
   simp at hi
   subst hi
   refine ⟨(b,cs.size,ty+1),rfl,cs,ty+1,kS t1,⟨rfl,rfl⟩,by rw[hfl]; exact hcap,fun j p hj => ?_,fun o=>by rw[hM2,if_pos rfl]⟩
   obtain ⟨a1,a2,a3,a4⟩:=hpl' p (List.mem_of_getElem? hj)
   obtain ⟨u,hu,hr⟩:=Y5 hL hpl hj
   rw[Nat.zero_add] at hu
   have hc:=(hP.mem _ _ _ hu)
   refine ⟨u,?_,rW p a3 hr,cO (mZ a3),hc.2⟩
   have:=hc.1
   simpa[World.cell?,t1] using this
 ·rw[hH,hz',if_neg (by omega),aN rfl]; omega
 ·have:=hP.cnt b'
  rw[hz',hown] at this
  rw[hH,aN rfl]; omega
 ·have:=hP.new b' hb'
  rw[hz',hown] at this
  rw[hH,aN rfl]; omega
theorem a6S (f:Nat→Nat):∀ {p:PV},kD p=true→kM f p=p:=fun {p} h=>by
 obtain ⟨h1,h2,h3,_⟩:=rO h
 cases p<;>first | rfl | (simp[PV.noref] at h3; done) | (simp[PV.isAgg] at h1; done) | exact absurd rfl (h2 _)
theorem ER (f:Nat→Nat):∀ {ps:List PV},ps.all kD=true→kZ f ps=ps
 | [],_=>rfl
 | p::ps,h=>by
  simp only[List.all_cons,Bool.and_eq_true] at h
  rw[kZ,a6S f h.1,ER f h.2]
mutual
theorem WL (f:Nat→Nat):∀ p:PV,p.flat=true→kM f p=p
 | .func _ a c,h=>by simp only[PV.flat,Bool.and_eq_true] at h; simp only[kM,oK f a h.1,oK f c h.2]
 | .agg cs,h=>by simp only[PV.flat] at h; simp only[kM,oK f cs h]
 | .tuple cs,h=>by simp only[PV.flat] at h; simp only[kM,oK f cs h]
 | .ptr _ _,h=>by simp[PV.flat] at h
 | .bld _ _,h=>by simp[PV.flat] at h
 | .slh _ _ _ _,h=>by simp[PV.flat] at h
 | .int _ _,_=>rfl
 | .bool _,_=>rfl
 | .str _,_=>rfl
 | .nilp,_=>rfl
 | .raw _,_=>rfl
 | .cst _,_=>rfl
 | .sl _ _ _,_=>rfl
 | .slT _,_=>rfl
 | .slp _ _ _ _,_=>rfl
 | .mp _,_=>rfl
theorem oK (f:Nat→Nat):∀ ps:List PV,PV.flats ps=true→kZ f ps=ps
 | [],_=>rfl
 | p::ps,h=>by
  simp only[PV.flats,Bool.and_eq_true] at h
  rw[kZ,WL f p h.1,oK f ps h.2]
end
mutual
theorem XF {D:Nat→Bool}:∀ p:PV,p.flat=true→p.allI D=true
 | .func _ a c,h=>by simp only[PV.flat,Bool.and_eq_true] at h; simp only[PV.allI,mM a h.1,mM c h.2,Bool.and_self]
 | .agg cs,h=>by simp only[PV.flat] at h; simp only[PV.allI,mM cs h]
 | .tuple cs,h=>by simp only[PV.flat] at h; simp only[PV.allI,mM cs h]
 | .ptr _ _,h=>by simp[PV.flat] at h
 | .bld _ _,h=>by simp[PV.flat] at h
 | .slh _ _ _ _,h=>by simp[PV.flat] at h
 | .int _ _,_=>rfl
 | .bool _,_=>rfl
 | .str _,_=>rfl
 | .nilp,_=>rfl
 | .raw _,_=>rfl
 | .cst _,_=>rfl
 | .sl _ _ _,_=>rfl
 | .slT _,_=>rfl
 | .slp _ _ _ _,_=>rfl
 | .mp _,_=>rfl
theorem mM {D:Nat→Bool}:∀ ps:List PV,PV.flats ps=true→PV.allIL D ps=true
 | [],_=>rfl
 | p::ps,h=>by
  simp only[PV.flats,Bool.and_eq_true] at h
  simp only[PV.allIL,XF p h.1,mM ps h.2,Bool.and_self]
end
theorem Ev.thaw {P:Program} {g:FuncId} {args:List PV} {es:List PV} {H:aG} (h0:Ev P g args [] (.sl true 1 es) []) (ha:PV.flats args=true) (hpos:0<es.length) (hpl:es.all kD=true):Ev P g args H (.slh H.length 0 es.length 1) (H ++ [some es]):=by
 have h1:=Ev.thaw0 h0 hpos hpl
 have e1:kZ (wB []) args=args:=oK _ _ ha
 have h2:=Ev.sub (ids := []) (H:=H) (big:=args) (r := .slh 0 0 es.length 1) (h' := [some es]) (by rw[e1]; exact h1) rfl (fun i hi=>by simp at hi) (by
  have:∀ ps:List PV,PV.flats ps=true→PV.allIL (NQ []) ps=true:=fun ps h=>mM ps h
  exact this args ha) (fun i cs hi=>by simp at hi)
 have e2:DN [] H [some es]=H ++ [some es]:=by
  simp only[DN,List.length_nil,List.map_nil,List.drop_zero,List.map_cons,nC,gJ]
  rw[ER _ hpl]
 have e3:kM (lJ [] H.length) (.slh 0 0 es.length 1) = .slh H.length 0 es.length 1:=by simp[kM,lJ]
 rw[e2,e3] at h2
 exact h2
theorem Ev.thawG {P:Program} {g:FuncId} {args:List PV} {sz:Nat} {es:List PV} {H:aG} (h0:Ev P g args [] (.sl true sz es) []) (ha:PV.flats args=true) (hpos:0<es.length) (hpl:es.all (nN sz)=true):Ev P g args H (.slh H.length 0 es.length sz) (H ++ [some (aX es)]):=by
 have h1:=Ev.thawG0 h0 hpos hpl
 have e1:kZ (wB []) args=args:=oK _ _ ha
 have h2:=Ev.sub (ids := []) (H:=H) (big:=args) (r := .slh 0 0 es.length sz) (h' := [some (aX es)]) (by rw[e1]; exact h1) rfl (fun i hi=>by simp at hi) (by
  have:∀ ps:List PV,PV.flats ps=true→PV.allIL (NQ []) ps=true:=fun ps h=>mM ps h
  exact this args ha) (fun i cs hi=>by simp at hi)
 have e2:DN [] H [some (aX es)]=H ++ [some (aX es)]:=by
  simp only[DN,List.length_nil,List.map_nil,List.drop_zero,List.map_cons,nC,gJ]
  rw[ER _ (yR hpl)]
 have e3:kM (lJ [] H.length) (.slh 0 0 es.length sz) = .slh H.length 0 es.length sz:=by simp[kM,lJ]
 rw[e2,e3] at h2
 exact h2
end Go.Proofs.YtcdceiloganlnaaGreatDoor

/- A part of the proof: Gl, AbD, AbG. -/
import Derived.Lib.ItoaNum
import Derived.WalkKit
import Derived.WalkSpells
import Derived.WalkLawsBesides
import Derived.Lib.Hide
import Derived.Below
import Derived.Laws.BytesString
import Derived.Great.BuildSlice
import Derived.Laws.CopyRow
set_option linter.unusedVariables false
set_option linter.unusedSimpArgs false
set_option linter.unnecessarySimpa false
set_option linter.unusedSectionVars false
namespace Go.Proofs.YtcdceiloganlnaaGreatDoor
def aJ5 (m:Int):List (Nat×List Value) := [(0,[Value.int .i64 m]),(1,Lib.pow10Tab.map (Value.int .u64))]
def QA (m:Int) (b o:Nat):Option Value:=((aJ5 m).lookup b).bind (·[o]?)
structure Mem where
 m:Int
 f:Nat→Nat→Option Value
 g:∀ b o v,QA m b o=some v→f b o=some v
instance:CoeFun Mem (fun _=>Nat→Nat→Option Value):=⟨Mem.f⟩
def mkM (m:Int) (F:Nat→Nat→Option Value):Mem:=⟨m,fun b o=>match QA m b o with | some v=>some v | none=>F b o,fun b o v h=>by simp only[h]⟩
theorem sJ {m:Int} {F:Nat→Nat→Option Value} (h:∀ b o v,QA m b o=some v→F b o=some v) (b o:Nat):mkM m F b o=F b o:=by
 show (match QA m b o with | some v=>some v | none=>F b o)=F b o
 split
 ·rename_i v hv; exact (h b o v hv).symm
 ·rfl
theorem IZ {M:Mem} {c:Nat} {f:Nat→Option Value} (h:∀ o,M c o=none):∀ b o v,QA M.m b o=some v→(if b=c then f o else M b o)=some v:=fun b o v e=>by
 have hb:b≠c:=fun hb=>by subst hb; have:=M.g _ _ _ e; rw[h] at this; cases this
 rw[if_neg hb]; exact M.g _ _ _ e
end Go.Proofs.YtcdceiloganlnaaGreatDoor
namespace Go.Proofs.YtcdceiloganlnaaGreatDoor
open Go.RowKit
inductive PV where
 | int (k:IntKind) (n:Int)
 | bool (b:Bool)
 | str (s:ByteArray)
 | nilp
 | raw (v:Value)
 | ptr (i off:Nat)
 | bld (T:TypeId) (i:Nat)
 | cst (e:PV)
 | sl (own:Bool) (sz:Nat) (es:List PV)
 | slh (i off n sz:Nat)
 | slT (l:List UInt8)
 | slp (o:Bool) (n sz:Nat) (cs:List PV)
 | mp (l:List PV)
 | func (fn:Fn) (first caps:List PV)
 | agg (cs:List PV)
 | tuple (cs:List PV)
instance:Inhabited PV:=⟨.nilp⟩
abbrev bY:=List (Nat×Nat×TypeId)
abbrev VL:=(Value→Prop)×(Nat→Nat→Prop)
def dD (M:Mem) (f:Value→Prop):VL:=(f,fun b o=>∃ u,M b o=some u∧f u)
def EK (sz:Nat):List VL→Nat→Nat→Prop
 | [],_,_=>True
 | p::ps,b,o=>p.2 b o∧EK sz ps b (o+sz)
def FO (M:Mem):List VL→Nat→Nat→Prop
 | [],_,_=>True
 | p::ps,b,o=>(∃ u,M b o=some u∧p.1 u)∧FO M ps b (o+1)
def rH:List VL→List Value→Prop
 | [],[]=>True
 | p::ps,v::vs=>p.1 v∧rH ps vs
 | _,_=>False
def PV.size:PV→Nat | .agg cs=>cs.length | _=>1
def PV.isAgg:PV→Bool | .agg _=>true | _=>false
def PV.own:PV→Bool | .sl o _ _=>o | .slT _=>true | .slp o _ _ _=>o | _=>false
def PV.lit:PV→Bool | .int _ _=>true | .bool _=>true | .str _=>true | _=>false
def noM:Mem:=⟨0,QA 0,fun _ _ _ h=>h⟩
def dS (l:List UInt8):List PV:=l.map fun x => .int .u8 x.toNat
def PV.un:PV→PV | .sl _ sz es => .sl false sz es | .slT l => .sl false 1 (dS l) | .slp _ n sz _ => .slp false n sz [] | p=>p
def iP:Nat:=1073741824
def ITT:Nat:=1000001
def aPJ (T:Nat) (c:Nat×Nat×Nat) (v:Value):Prop:=match Nat.beq T ITT with
 | true=>c.2=(1,0)∧v = .pointer (some ⟨c.1,0,none⟩)
 | false=>c.2=(2,T+1)∧(v = .pointer none∨v = .pointer (some ⟨c.1,0,none⟩))
def aPI (T:Nat) (c:Nat×Nat×Nat) (v:Value):Prop:=(T=0→c.2=(1,0)∧v = .map (some c.1))∧(T≠0→aPJ T c v)
theorem aO9 {T:Nat} {c:Nat×Nat×Nat} {v:Value} (hT:Nat.beq T ITT=false) (h:c.2=(2,T+1)) (hv:v = .pointer none∨v = .pointer (some ⟨c.1,0,none⟩)):aPJ T c v:=by unfold aPJ; rw[hT]; exact ⟨h,hv⟩
def a4Q:Nat:=4242
mutual
def sem (M:Mem) (B:bY):PV→VL
 | .int k n=>dD M fun v=>v = .int k n
 | .bool b=>dD M fun v=>v = .bool b
 | .str s=>dD M fun v=>v = .string s
 | .nilp=>dD M fun v=>v = .pointer none
 | .raw u=>dD M fun v=>v=u∧u.oneCell'=true
 | .ptr i off=>dD M fun v=>∃ c,(B[i]? = some c∧c.2.2≠0)∧v = .pointer (some ⟨c.1,off,none⟩)
 | .bld T i=>dD M fun v=>∃ c,B[i]? = some c∧aPI T c v
 | .cst e=>dD M fun v=>∃ b off,v = .pointer (some ⟨b,off,none⟩)∧(sem M [] e).2 b off
 | .sl _ sz es=>dD M fun v=>∃ A cap,v = .slice A es.length cap∧es.length≤cap∧(∀ e,e∈es→e.size=sz)∧(sz=0→es = []∧A=none∧cap=0)∧(es ≠ []→∃ b off,A=some ⟨b,off,none⟩∧EK sz (gY M [] es) b off)
 | .slT l=>dD M fun v=>∃ A cap,v = .slice A l.length cap∧l.length≤cap∧(l ≠ []→∃ b off,A=some ⟨b,off,none⟩∧∀ (j:Nat) x,l[j]? = some x→M b (off+j)=some (.int .u8 (x.toNat:Int)))
 | .slp _ n _ _=>dD M fun v=>∃ A cap,v = .slice A n cap∧n≤cap
 | .mp l=>dD M fun v=>∃ f,v = .func (.yield a4Q) f #[]∧rH (gY M [] l) f.toList
 | .slh i off n sz=>dD M fun v=>∃ c cap,(B[i]? = some c∧c.2.2≠0)∧v = .slice (some ⟨c.1,off,none⟩) n cap∧n≤cap∧off+cap*sz≤c.2.1
 | .func fn first caps=>dD M fun v=>∃ f c,v = .func fn f c∧rH (gY M B first) f.toList∧rH (gY M B caps) c.toList
 | .agg cs=>(fun v=>∃ vs,v = .agg vs∧rH (gY M B cs) vs.toList,fun b o=>FO M (gY M B cs) b o)
 | .tuple cs=>(fun v=>∃ vs,v = .tuple vs∧rH (gY M B cs) vs.toList,fun _ _=>False)
def gY (M:Mem) (B:bY):List PV→List VL
 | [] => []
 | p::ps=>sem M B p::gY M B ps
end
def Rep (M:Mem) (B:bY) (p:PV) (v:Value):Prop:=(sem M B p).1 v
def Loc (M:Mem) (B:bY) (p:PV) (b o:Nat):Prop:=(sem M B p).2 b o
def Reps (M:Mem) (B:bY) (ps:List PV) (vs:List Value):Prop:=rH (gY M B ps) vs
def Cells (M:Mem) (B:bY) (ps:List PV) (b o:Nat):Prop:=FO M (gY M B ps) b o
def Locs (M:Mem) (B:bY) (sz:Nat) (ps:List PV) (b o:Nat):Prop:=EK sz (gY M B ps) b o
section
variable {M:Mem} {B:bY}
theorem rep_int {k:IntKind} {n:Int} {v:Value}:Rep M B (.int k n) v↔v = .int k n:=by simp[Rep,sem,dD]
theorem rep_bool {b:Bool} {v:Value}:Rep M B (.bool b) v↔v = .bool b:=by simp[Rep,sem,dD]
theorem rep_str {s:ByteArray} {v:Value}:Rep M B (.str s) v↔v = .string s:=by simp[Rep,sem,dD]
theorem rep_nilp {v:Value}:Rep M B .nilp v↔v = .pointer none:=by simp[Rep,sem,dD]
theorem rep_raw {u v:Value}:Rep M B (.raw u) v↔v=u∧u.oneCell'=true:=by simp[Rep,sem,dD]
theorem rep_ptr {i off:Nat} {v:Value}:Rep M B (.ptr i off) v↔∃ c,(B[i]? = some c∧c.2.2≠0)∧v = .pointer (some ⟨c.1,off,none⟩):=by simp[Rep,sem,dD]
theorem rep_bld {T:TypeId} {i:Nat} {v:Value}:Rep M B (.bld T i) v↔∃ c,B[i]? = some c∧aPI T c v:=by simp[Rep,sem,dD]
theorem rep_cst {e:PV} {v:Value}:Rep M B (.cst e) v↔∃ b off,v = .pointer (some ⟨b,off,none⟩)∧Loc M [] e b off:=by simp[Rep,sem,dD,Loc]
theorem rep_sl {o:Bool} {sz:Nat} {es:List PV} {v:Value}:Rep M B (.sl o sz es) v↔∃ A cap,v = .slice A es.length cap∧es.length≤cap∧(∀ e,e∈es→e.size=sz)∧(sz=0→es = []∧A=none∧cap=0)∧(es ≠ []→∃ b off,A=some ⟨b,off,none⟩∧Locs M [] sz es b off):=by simp[Rep,sem,dD,Locs]
theorem rep_slh {i off n sz:Nat} {v:Value}:Rep M B (.slh i off n sz) v↔∃ c cap,(B[i]? = some c∧c.2.2≠0)∧v = .slice (some ⟨c.1,off,none⟩) n cap∧n≤cap∧off+cap*sz≤c.2.1:=by simp[Rep,sem,dD]
theorem rep_slp {o:Bool} {n sz:Nat} {cs:List PV} {v:Value}:Rep M B (.slp o n sz cs) v↔∃ A cap,v = .slice A n cap∧n≤cap:=by simp[Rep,sem,dD]
theorem rep_slT {l:List UInt8} {v:Value}:Rep M B (.slT l) v↔∃ A cap,v = .slice A l.length cap∧l.length≤cap∧(l ≠ []→∃ b off,A=some ⟨b,off,none⟩∧∀ (j:Nat) x,l[j]? = some x→M b (off+j)=some (.int .u8 (x.toNat:Int))):=by simp[Rep,sem,dD]
theorem rep_mp {l:List PV} {v:Value}:Rep M B (.mp l) v↔∃ f,v = .func (.yield a4Q) f #[]∧Reps M [] l f.toList:=by simp[Rep,sem,dD,Reps]
theorem rep_func {fn:Fn} {first caps:List PV} {v:Value}:Rep M B (.func fn first caps) v↔∃ f c,v = .func fn f c∧Reps M B first f.toList∧Reps M B caps c.toList:=by simp[Rep,sem,dD,Reps]
theorem rep_agg {cs:List PV} {v:Value}:Rep M B (.agg cs) v↔∃ vs,v = .agg vs∧Reps M B cs vs.toList:=by simp[Rep,sem,Reps]
theorem rep_tuple {cs:List PV} {v:Value}:Rep M B (.tuple cs) v↔∃ vs,v = .tuple vs∧Reps M B cs vs.toList:=by simp[Rep,sem,Reps]
theorem reps_nil {vs:List Value}:Reps M B [] vs↔vs = []:=by cases vs<;>simp[Reps,gY,rH]
theorem reps_cons {p:PV} {ps:List PV} {vs:List Value}:Reps M B (p::ps) vs↔∃ u us,vs=u::us∧Rep M B p u∧Reps M B ps us:=by
 cases vs with
 | nil=>simp[Reps,gY,rH]
 | cons u us=>exact ⟨fun h=>⟨u,us,rfl,h.1,h.2⟩,fun ⟨_,_,e,h1,h2⟩=>by cases e; exact ⟨h1,h2⟩⟩
theorem aCQ {b o:Nat}:Cells M B [] b o:=by simp[Cells,gY,FO]
theorem cells_cons {p:PV} {ps:List PV} {b o:Nat}:Cells M B (p::ps) b o↔(∃ u,M b o=some u∧Rep M B p u)∧Cells M B ps b (o+1):=by simp[Cells,gY,FO,Rep]
theorem pV {sz b o:Nat}:Locs M B sz [] b o:=by simp[Locs,gY,EK]
theorem locs_cons {sz:Nat} {p:PV} {ps:List PV} {b o:Nat}:Locs M B sz (p::ps) b o↔Loc M B p b o∧Locs M B sz ps b (o+sz):=by simp[Locs,gY,EK,Loc]
theorem loc_agg {cs:List PV} {b o:Nat}:Loc M B (.agg cs) b o↔Cells M B cs b o:=by simp[Loc,sem,Cells]
theorem jD {p:PV} (h:p.isAgg=false) (ht:∀ cs,p ≠ .tuple cs) {b o:Nat}:Loc M B p b o↔∃ u,M b o=some u∧Rep M B p u:=by
 cases p<;>first | exact absurd rfl (ht _) | (simp[PV.isAgg] at h; done) | simp[Loc,Rep,sem,dD]
theorem loc_tuple {cs:List PV} {b o:Nat}:Loc M B (.tuple cs) b o↔False:=by simp[Loc,sem]
theorem rep_slT_un {l:List UInt8} {v:Value}:Rep M B (.sl false 1 (dS l)) v↔Rep M B (.slT l) v:=by
 rw[rep_sl,rep_slT]
 have hl:(dS l).length=l.length:=by simp[dS]
 have hn:dS l ≠ []↔l ≠ []:=by simp[dS]
 have hs:∀ e,e∈dS l→e.size=1:=fun e he=>by obtain ⟨x,_,rfl⟩:=List.mem_map.1 he; rfl
 have key:∀ b off,Locs M [] 1 (dS l) b off↔∀ (j:Nat) x,l[j]? = some x→M b (off+j)=some (.int .u8 (x.toNat:Int)):=by
  intro b off
  have one:∀ (x:UInt8) (b o:Nat),Loc M [] (.int .u8 (x.toNat:Int)) b o↔M b o=some (.int .u8 (x.toNat:Int)):=fun x b o=>by simp[Loc,sem,dD]
  unfold dS
  clear hl hn hs
  induction l generalizing off with
  | nil=>simp[Locs,gY,EK]
  | cons a l ih =>
   refine Iff.trans (by rw[List.map_cons]; exact locs_cons) (Iff.trans (and_congr (one a b off) (ih (off+1))) ?_)
   constructor
   ·rintro ⟨h1,h2⟩ j x hj
    cases j with
    | zero=>simp at hj; subst hj; exact h1
    | succ j=>have:=h2 j x (by simpa using hj); rwa [show off+1+j=off+(j+1) by omega] at this
   ·intro h
    exact ⟨h 0 a rfl,fun j x hj=>by have:=h (j+1) x (by simpa using hj); rwa [show off+(j+1)=off+1+j by omega] at this⟩
 constructor
 ·rintro ⟨A,cap,rfl,h1,_,_,h4⟩
  refine ⟨A,cap,by rw[hl],by rw[← hl]; exact h1,fun h => ?_⟩
  obtain ⟨b,off,e,h5⟩:=h4 (hn.2 h)
  exact ⟨b,off,e,(key b off).1 h5⟩
 ·rintro ⟨A,cap,rfl,h1,h4⟩
  refine ⟨A,cap,by rw[hl],by rw[hl]; exact h1,hs,(fun h=>absurd h (by decide)),fun h => ?_⟩
  obtain ⟨b,off,e,h5⟩:=h4 (hn.1 h)
  exact ⟨b,off,e,(key b off).2 h5⟩
theorem rep_un {p:PV} {v:Value}:Rep M B p.un v↔Rep M B p v:=by
 cases p with
 | slT l=>exact rep_slT_un
 | slp o n sz cs=>simp only[PV.un,rep_slp]
 | _=>simp[PV.un,rep_sl]
theorem a9C {p:PV} {b o:Nat}:Loc M B p.un b o↔Loc M B p b o:=by
 cases p with
 | slT l =>
  rw[jD (p:=PV.un (.slT l)) rfl (fun cs h=>by cases h),jD (p := .slT l) rfl (fun cs h=>by cases h)]
  simp only[rep_un]
 | slp o n sz cs =>
  rw[jD (p:=PV.un (.slp o n sz cs)) rfl (fun cs h=>by cases h),jD (p := .slp o n sz cs) rfl (fun cs h=>by cases h)]
  simp only[rep_un]
 | _=>simp[PV.un,Loc,sem,dD]
theorem ZJ (p:PV):p.un.size=p.size:=by cases p<;>rfl
theorem iM (p:PV):p.un.own=false:=by cases p<;>rfl
theorem b3E (p:PV):p.un.un=p.un:=by cases p<;>rfl
theorem bC:∀ {ps:List PV} {vs:List Value},Reps M B ps vs→ps.length=vs.length
 | [],vs,h=>by rw[reps_nil] at h; simp[h]
 | p::ps,vs,h=>by
  obtain ⟨u,us,rfl,_,h2⟩:=reps_cons.1 h
  simp[bC h2]
theorem fB:∀ {ps:List PV} {vs:List Value},Reps M B ps vs→∀ {j:Nat} {p:PV},ps[j]? = some p→∃ u,vs[j]? = some u∧Rep M B p u
 | [],_,_,j,p,h=>by simp at h
 | q::ps,vs,hr,j,p,h=>by
  obtain ⟨u,us,rfl,h1,h2⟩:=reps_cons.1 hr
  cases j with
  | zero=>simp at h; subst h; exact ⟨u,by simp,h1⟩
  | succ j=>simp at h; obtain ⟨u',hu,hp⟩:=fB h2 h; exact ⟨u',by simpa using hu,hp⟩
theorem uO:∀ {ps:List PV} {vs:List Value},ps.length=vs.length→(∀ (j:Nat) p u,ps[j]? = some p→vs[j]? = some u→Rep M B p u)→Reps M B ps vs
 | [],[],_,_=>reps_nil.2 rfl
 | p::ps,u::us,hl,h=>reps_cons.2 ⟨u,us,rfl,h 0 p u rfl rfl,uO (by simpa using hl) fun j q v hq hv=>h (j+1) q v (by simpa using hq) (by simpa using hv)⟩
 | [],_::_,hl,_=>by simp at hl
 | _::_,[],hl,_=>by simp at hl
theorem rX:∀ {ps:List PV} {b o:Nat},Cells M B ps b o→∀ {j:Nat} {p:PV},ps[j]? = some p→∃ u,M b (o+j)=some u∧Rep M B p u
 | [],_,_,_,j,p,h=>by simp at h
 | q::ps,b,o,hc,j,p,h=>by
  obtain ⟨h1,h2⟩:=cells_cons.1 hc
  cases j with
  | zero=>simp at h; subst h; simpa using h1
  | succ j=>simp at h; obtain ⟨u,hu,hp⟩:=rX h2 h; exact ⟨u,by rw[← hu]; congr 1; omega,hp⟩
theorem nG:∀ {ps:List PV} {b o:Nat},(∀ (j:Nat) p,ps[j]? = some p→∃ u,M b (o+j)=some u∧Rep M B p u)→Cells M B ps b o
 | [],_,_,_=>aCQ
 | p::ps,b,o,h=>cells_cons.2 ⟨by simpa using h 0 p rfl,nG fun j q hq=>by obtain ⟨u,hu,hr⟩:=h (j+1) q (by simpa using hq); exact ⟨u,by rw[← hu]; congr 1; omega,hr⟩⟩
theorem lW:∀ {ps:List PV} {sz b o:Nat},Locs M B sz ps b o→∀ {j:Nat} {p:PV},ps[j]? = some p→Loc M B p b (o+j*sz)
 | [],_,_,_,_,j,p,h=>by simp at h
 | q::ps,sz,b,o,hc,j,p,h=>by
  obtain ⟨h1,h2⟩:=locs_cons.1 hc
  cases j with
  | zero=>simp at h; subst h; simpa using h1
  | succ j=>simp at h; have:=lW h2 h; rwa [show o+(j+1)*sz=o+sz+j*sz by rw[Nat.succ_mul]; omega]
theorem lI:∀ {ps:List PV} {sz b o:Nat},(∀ (j:Nat) p,ps[j]? = some p→Loc M B p b (o+j*sz))→Locs M B sz ps b o
 | [],_,_,_,_=>pV
 | p::ps,sz,b,o,h=>locs_cons.2 ⟨by simpa using h 0 p rfl,lI fun j q hq=>by have:=h (j+1) q (by simpa using hq); rwa [show o+(j+1)*sz=o+sz+j*sz by rw[Nat.succ_mul]; omega] at this⟩
theorem N9 {ps qs:List PV} {sz b o:Nat} (h1:Locs M B sz ps b o) (h2:Locs M B sz qs b (o+ps.length*sz)):Locs M B sz (ps ++ qs) b o :=
 lI fun j p hp=>by
  rcases Nat.lt_or_ge j ps.length with h | h
  ·exact lW h1 (by rwa [List.getElem?_append_left h] at hp)
  ·have:=lW h2 (j:=j-ps.length) (by rwa [List.getElem?_append_right h] at hp)
   rwa [show o+ps.length*sz+(j-ps.length)*sz=o+j*sz by rw[Nat.add_assoc,← Nat.add_mul]; congr 2; omega] at this
end
structure MLe (M M':Mem) (B B':bY):Prop where
 mem:∀ (b o:Nat) (v:Value),M b o=some v→M' b o=some v
 blk:∀ (i:Nat) (c:Nat×Nat×TypeId),B[i]? = some c→B'[i]? = some c
theorem MLe.refl (M:Mem) (B:bY):MLe M M B B:=⟨fun _ _ _ h=>h,fun _ _ h=>h⟩
theorem MLe.none {M M':Mem} {B B':bY} (h:MLe M M' B B'):MLe M M' [] []:=⟨h.mem,fun _ _ e=>e⟩
theorem MLe.zero (M:Mem) (B:bY):MLe M M [] B:=⟨fun _ _ _ e=>e,fun i c e=>by simp at e⟩
theorem MLe.trans {M M' M'':Mem} {B B' B'':bY} (h:MLe M M' B B') (k:MLe M' M'' B' B''):MLe M M'' B B'':=⟨fun b o v e=>k.mem b o v (h.mem b o v e),fun i c e=>k.blk i c (h.blk i c e)⟩
section
variable {M M':Mem} {B B':bY}
mutual
theorem JI {B B':bY} (h:MLe M M' B B'):∀ p:PV,(∀ v,(sem M B p).1 v→(sem M' B' p).1 v)∧(∀ b o,(sem M B p).2 b o→(sem M' B' p).2 b o)
 | .int k n=>by simp only[sem,dD]; exact ⟨fun _ h=>h,fun b o ⟨u,hu,e⟩=>⟨u,h.mem _ _ _ hu,e⟩⟩
 | .bool _=>by simp only[sem,dD]; exact ⟨fun _ h=>h,fun b o ⟨u,hu,e⟩=>⟨u,h.mem _ _ _ hu,e⟩⟩
 | .str _=>by simp only[sem,dD]; exact ⟨fun _ h=>h,fun b o ⟨u,hu,e⟩=>⟨u,h.mem _ _ _ hu,e⟩⟩
 | .nilp=>by simp only[sem,dD]; exact ⟨fun _ h=>h,fun b o ⟨u,hu,e⟩=>⟨u,h.mem _ _ _ hu,e⟩⟩
 | .raw _=>by simp only[sem,dD]; exact ⟨fun _ h=>h,fun b o ⟨u,hu,e⟩=>⟨u,h.mem _ _ _ hu,e⟩⟩
 | .ptr i off=>by
  have key:∀ v,(∃ c,(B[i]? = some c∧c.2.2≠0)∧v=Value.pointer (some ⟨c.1,off,none⟩))→∃ c,(B'[i]? = some c∧c.2.2≠0)∧v=Value.pointer (some ⟨c.1,off,none⟩):=fun v ⟨c,hc,e⟩=>⟨c,⟨h.blk _ _ hc.1,hc.2⟩,e⟩
  simp only[sem,dD]; exact ⟨key,fun b o ⟨u,hu,e⟩=>⟨u,h.mem _ _ _ hu,key u e⟩⟩
 | .bld T i=>by
  have key:∀ v,(∃ c,B[i]? = some c∧aPI T c v)→∃ c,B'[i]? = some c∧aPI T c v:=fun v ⟨c,hc,e⟩=>⟨c,h.blk _ _ hc,e⟩
  simp only[sem,dD]; exact ⟨key,fun b o ⟨u,hu,e⟩=>⟨u,h.mem _ _ _ hu,key u e⟩⟩
 | .cst e=>by
  have ih:=(JI h.none e).2
  have key:∀ v,(∃ b off,v=Value.pointer (some ⟨b,off,none⟩)∧(sem M [] e).2 b off)→(∃ b off,v=Value.pointer (some ⟨b,off,none⟩)∧(sem M' [] e).2 b off):=fun v ⟨b,off,e,hl⟩=>⟨b,off,e,ih _ _ hl⟩
  simp only[sem,dD]; exact ⟨key,fun b o ⟨u,hu,e⟩=>⟨u,h.mem _ _ _ hu,key u e⟩⟩
 | .sl _ sz es=>by
  have ih:=(jW h.none es).2.1
  have key:∀ v,(∃ A cap,v=Value.slice A es.length cap∧es.length≤cap∧(∀ e,e∈es→e.size=sz)∧(sz=0→es = []∧A=none∧cap=0)∧(es ≠ []→∃ b off,A=some ⟨b,off,none⟩∧EK sz (gY M [] es) b off)) →
   (∃ A cap,v=Value.slice A es.length cap∧es.length≤cap∧(∀ e,e∈es→e.size=sz)∧(sz=0→es = []∧A=none∧cap=0)∧(es ≠ []→∃ b off,A=some ⟨b,off,none⟩∧EK sz (gY M' [] es) b off)):=fun v ⟨A,cap,e,h1,h2,h3,h4⟩=>⟨A,cap,e,h1,h2,h3,fun hc=>by
    obtain ⟨b,off,hb,hl⟩:=h4 hc
    exact ⟨b,off,hb,ih sz b off hl⟩⟩
  simp only[sem,dD]; exact ⟨key,fun b o ⟨u,hu,e⟩=>⟨u,h.mem _ _ _ hu,key u e⟩⟩
 | .slh i off n sz=>by
  have key:∀ v,(∃ c cap,(B[i]? = some c∧c.2.2≠0)∧v=Value.slice (some ⟨c.1,off,none⟩) n cap∧n≤cap∧off+cap*sz≤c.2.1)→(∃ c cap,(B'[i]? = some c∧c.2.2≠0)∧v=Value.slice (some ⟨c.1,off,none⟩) n cap∧n≤cap∧off+cap*sz≤c.2.1):=fun v ⟨c,cap,hc,e⟩=>⟨c,cap,⟨h.blk _ _ hc.1,hc.2⟩,e⟩
  simp only[sem,dD]; exact ⟨key,fun b o ⟨u,hu,e⟩=>⟨u,h.mem _ _ _ hu,key u e⟩⟩
 | .slp o n z cs=>by
  simp only[sem,dD]; exact ⟨fun _ h=>h,fun b o ⟨u,hu,e⟩=>⟨u,h.mem _ _ _ hu,e⟩⟩
 | .mp l=>by
  have i1:=(jW h.none l).1
  have key:∀ v,(∃ f,v=Value.func (.yield a4Q) f #[]∧rH (gY M [] l) f.toList)→(∃ f,v=Value.func (.yield a4Q) f #[]∧rH (gY M' [] l) f.toList):=fun v ⟨f,e,h1⟩=>⟨f,e,i1 _ h1⟩
  simp only[sem,dD]; exact ⟨key,fun b o ⟨u,hu,e⟩=>⟨u,h.mem _ _ _ hu,key u e⟩⟩
 | .slT l=>by
  have key:∀ v,(∃ A cap,v=Value.slice A l.length cap∧l.length≤cap∧(l ≠ []→∃ b off,A=some ⟨b,off,none⟩∧∀ (j:Nat) x,l[j]? = some x→M b (off+j)=some (.int .u8 (x.toNat:Int)))) →
   (∃ A cap,v=Value.slice A l.length cap∧l.length≤cap∧(l ≠ []→∃ b off,A=some ⟨b,off,none⟩∧∀ (j:Nat) x,l[j]? = some x→M' b (off+j)=some (.int .u8 (x.toNat:Int)))):=fun v ⟨A,cap,e,h1,h2⟩=>⟨A,cap,e,h1,fun hc=>by
    obtain ⟨b,off,hb,hl⟩:=h2 hc
    exact ⟨b,off,hb,fun j x hj=>h.mem _ _ _ (hl j x hj)⟩⟩
  simp only[sem,dD]; exact ⟨key,fun b o ⟨u,hu,e⟩=>⟨u,h.mem _ _ _ hu,key u e⟩⟩
 | .func fn first caps=>by
  have i1:=(jW h first).1
  have i2:=(jW h caps).1
  have key:∀ v,(∃ f c,v=Value.func fn f c∧rH (gY M B first) f.toList∧rH (gY M B caps) c.toList)→(∃ f c,v=Value.func fn f c∧rH (gY M' B' first) f.toList∧rH (gY M' B' caps) c.toList):=fun v ⟨f,c,e,h1,h2⟩=>⟨f,c,e,i1 _ h1,i2 _ h2⟩
  simp only[sem,dD]; exact ⟨key,fun b o ⟨u,hu,e⟩=>⟨u,h.mem _ _ _ hu,key u e⟩⟩
 | .agg cs=>by
  have ih:=jW h cs
  simp only[sem]; exact ⟨fun v ⟨vs,e,hv⟩=>⟨vs,e,ih.1 _ hv⟩,fun b o hc=>ih.2.2 b o hc⟩
 | .tuple cs=>by
  have ih:=jW h cs
  simp only[sem]; exact ⟨fun v ⟨vs,e,hv⟩=>⟨vs,e,ih.1 _ hv⟩,fun b o hc=>hc⟩
theorem jW {B B':bY} (h:MLe M M' B B'):∀ ps:List PV,(∀ vs,rH (gY M B ps) vs→rH (gY M' B' ps) vs)∧(∀ sz b o,EK sz (gY M B ps) b o→EK sz (gY M' B' ps) b o)∧(∀ b o,FO M (gY M B ps) b o→FO M' (gY M' B' ps) b o)
 | []=>by simp only[gY]; exact ⟨fun vs h=>by cases vs<;>simpa[rH] using h,fun _ _ _ _=>trivial,fun _ _ _=>trivial⟩
 | p::ps=>by
  have h1:=JI h p
  have h2:=jW h ps
  simp only[gY]
  exact ⟨fun vs hv=>by
   cases vs with
   | nil=>simp[rH] at hv
   | cons v vs=>exact ⟨h1.1 _ hv.1,h2.1 _ hv.2⟩,fun sz b o hl=>⟨h1.2 _ _ hl.1,h2.2.1 _ _ _ hl.2⟩,fun b o ⟨⟨u,hu,hr⟩,hc⟩=>⟨⟨u,h.mem _ _ _ hu,h1.1 _ hr⟩,h2.2.2 _ _ hc⟩⟩
end
theorem Rep.mono (h:MLe M M' B B') {p:PV} {v:Value} (hr:Rep M B p v):Rep M' B' p v:=(JI h p).1 v hr
theorem Loc.mono (h:MLe M M' B B') {p:PV} {b o:Nat} (hr:Loc M B p b o):Loc M' B' p b o:=(JI h p).2 b o hr
theorem Reps.mono (h:MLe M M' B B') {ps:List PV} {vs:List Value} (hr:Reps M B ps vs):Reps M' B' ps vs:=(jW h ps).1 vs hr
theorem Locs.mono (h:MLe M M' B B') {sz:Nat} {ps:List PV} {b o:Nat} (hr:Locs M B sz ps b o):Locs M' B' sz ps b o:=(jW h ps).2.1 sz b o hr
theorem Cells.mono (h:MLe M M' B B') {ps:List PV} {b o:Nat} (hr:Cells M B ps b o):Cells M' B' ps b o:=(jW h ps).2.2 b o hr
end
mutual
def PV.flat:PV→Bool
 | .ptr _ _=>false
 | .bld _ _=>false
 | .slh _ _ _ _=>false
 | .func _ f c=>PV.flats f&&PV.flats c
 | .agg cs=>PV.flats cs
 | .tuple cs=>PV.flats cs
 | _=>true
def PV.flats:List PV→Bool
 | []=>true
 | p::ps=>p.flat&&PV.flats ps
end
section
variable {M:Mem} {B:bY}
mutual
theorem a3V (B':bY):∀ p:PV,p.flat=true→sem M B p=sem M B' p
 | .int _ _,_=>by simp only[sem]
 | .bool _,_=>by simp only[sem]
 | .str _,_=>by simp only[sem]
 | .nilp,_=>by simp only[sem]
 | .raw _,_=>by simp only[sem]
 | .ptr _ _,h=>by simp[PV.flat] at h
 | .bld _ _,h=>by simp[PV.flat] at h
 | .slh _ _ _ _,h=>by simp[PV.flat] at h
 | .slT _,_=>by simp only[sem]
 | .slp _ _ _ _,_=>by simp only[sem]
 | .mp _,_=>by simp only[sem]
 | .cst e,_=>by simp only[sem]
 | .sl _ _ es,_=>by simp only[sem]
 | .func _ f c,h=>by
  simp only[PV.flat,Bool.and_eq_true] at h
  simp only[sem,rM B' f h.1,rM B' c h.2]
 | .agg cs,h=>by simp only[sem,rM B' cs (by simpa[PV.flat] using h)]
 | .tuple cs,h=>by simp only[sem,rM B' cs (by simpa[PV.flat] using h)]
theorem rM (B':bY):∀ ps:List PV,PV.flats ps=true→gY M B ps=gY M B' ps
 | [],_=>by simp only[gY]
 | p::ps,h=>by
  simp only[PV.flats,Bool.and_eq_true] at h
  simp only[gY,a3V B' p h.1,rM B' ps h.2]
end
theorem Rep.flat (B':bY) {p:PV} {v:Value} (hf:p.flat=true) (h:Rep M B p v):Rep M B' p v:=by
 unfold Rep at *; rwa [← a3V (B:=B) B' p hf]
theorem Reps.flat (B':bY) {ps:List PV} {vs:List Value} (hf:PV.flats ps=true) (h:Reps M B ps vs):Reps M B' ps vs:=by
 unfold Reps at *; rwa [← rM (B:=B) B' ps hf]
end
end Go.Proofs.YtcdceiloganlnaaGreatDoor
namespace Go.Proofs.YtcdceiloganlnaaGreatDoor
open Go.RowKit
abbrev cZ:=List (Nat×PV)
abbrev aG:=List (Option (List PV))
def bK (k:Nat):cZ→Option PV
 | []=>none
 | (j,p)::l=>if j=k then some p else bK k l
def iH (k:Nat) (p:PV):cZ→cZ
 | [] => [(k,p)]
 | (j,q)::l=>if j=k then (k,p)::l else if k<j then (k,p)::(j,q)::l else (j,q)::iH k p l
structure ASt where
 s:cZ
 h:aG
def bF (p:PV) (v:Value) (b:Nat):Nat:=if p.own then (match v with | .slice (some a) _ _=>if a.block=b then 1 else 0 | _=>0) else 0
def iI:cZ→Array Value→Nat→Nat
 | [],_,_=>0
 | (k,p)::l,t,b=>bF p (t.getD k undef) b+iI l t b
def dP:List PV→List Value→Nat→Nat
 | p::ps,v::vs,b=>bF p v b+dP ps vs b
 | _,_,_=>0
def pY (es:List MapEntry):List Value:=es.flatMap fun e => [e.key,e.val]
def VD:List UInt8→List UInt8→Bool
 | [],[]=>false
 | [],_::_=>true
 | _::_,[]=>false
 | a::az,b::bs=>Nat.blt a.toNat b.toNat||(Nat.beq a.toNat b.toNat&&VD az bs)
def a4F:Value→Value→Bool
 | .string a,.string b=>VD a.data.toList b.data.toList
 | _,_=>false
def jP:Value→Bool | .string _=>true | _=>false
def KF:Value→Value→Bool
 | .string a,.string b=>a.data.toList==b.data.toList
 | _,_=>false
def zO (e:MapEntry):List MapEntry→List MapEntry
 | [] => [e]
 | x::l=>if a4F e.key x.key then e::x::l else x::zO e l
def a2W (l:List MapEntry) (e:MapEntry):List MapEntry :=
 if (jP e.key&&l.all fun x=>jP x.key) && !(l.any fun x=>KF e.key x.key) then zO e l else l ++ [e]
def uK (es:List MapEntry):List MapEntry:=es.foldl a2W []
def a0Z (es:Array MapEntry):Value := .func (.yield a4Q) (pY (uK es.toList)).toArray #[]
def ITN:Nat:=4243
def MQ (s:ByteArray) (pos:Nat):Value := .func (.yield ITN) #[.string s,.int .i64 pos] #[]
def rowAt (w:World) (b:Nat):Option (Array Value×Nat):=match w.heap[b]? with
 | some (.cells vs ty (0,0))=>some (vs,ty+1)
 | some (.map es _)=>some (#[a0Z es],0)
 | some (.stringIter s pos)=>some (#[MQ s pos],0)
 | _=>none
theorem kT {w w':World} {b:Nat} (h:w'.heap[b]? = w.heap[b]?):rowAt w' b=rowAt w b:=by unfold rowAt; rw[h]
theorem kS {w:World} {b:Nat} {vs:Array Value} {ty:TypeId} (h:w.heap[b]? = some (.cells vs ty (0,0))):rowAt w b=some (vs,ty+1):=by unfold rowAt; rw[h]; rfl
theorem L9 {w:World} {b:Nat} {es:Array MapEntry} {ck:Nat} (h:w.heap[b]? = some (.map es ck)):rowAt w b=some (#[a0Z es],0):=by unfold rowAt; rw[h]
theorem jS {w:World} {b:Nat} {vs:Array Value} {T:Nat} (h:rowAt w b=some (vs,T)) (hT:T≠0):∃ ty,T=ty+1∧w.heap[b]? = some (.cells vs ty (0,0)):=by
 unfold rowAt at h
 split at h
 ·rename_i vs' ty hb; injection h with h; injection h with h1 h2; subst h1; subst h2; exact ⟨ty,rfl,hb⟩
 ·injection h with h; injection h with h1 h2; exact absurd h2.symm hT
 ·injection h with h; injection h with h1 h2; exact absurd h2.symm hT
 ·cases h
theorem RP {w:World} {b:Nat} {s:ByteArray} {pos:Nat} (h:w.heap[b]? = some (.stringIter s pos)):rowAt w b=some (#[MQ s pos],0):=by unfold rowAt; rw[h]
theorem UK {w:World} {b:Nat} {vs:Array Value} (h:rowAt w b=some (vs,0)):(∃ es ck,w.heap[b]? = some (.map es ck)∧vs = #[a0Z es])∨∃ s pos,w.heap[b]? = some (.stringIter s pos)∧vs = #[MQ s pos]:=by
 unfold rowAt at h
 split at h
 ·injection h with h; injection h with h1 h2; cases h2
 ·rename_i es ck hb; injection h with h; injection h with h1 h2; exact .inl ⟨es,ck,hb,h1.symm⟩
 ·rename_i s pos hb; injection h with h; injection h with h1 h2; exact .inr ⟨s,pos,hb,h1.symm⟩
 ·cases h
def aZ (w:World) (b:Nat):List Value:=match rowAt w b with | some (c,_)=>c.toList | none => []
def aJ (w:World):aG→bY→Nat→Nat
 | some cs::h,c::B,b=>(if c.1=b then 1 else 0)+dP cs (aZ w c.1) b+aJ w h B b
 | none::h,_::B,b=>aJ w h B b
 | _,_,_=>0
def TlS (M:Mem) (w:World) (p:PV) (v:Value):Prop :=
 ∀ sz es A n cap,p = .sl true sz es→v = .slice A n cap→(A=none→cap=0)∧(sz=0→A=none)∧∀ a,A=some a→∃ cs ty,w.heap[a.block]? = some (.cells cs ty (0,0))∧a.off+cap*sz≤cs.size∧(∀ o,a.off+es.length*sz≤o→M a.block o=none)∧a.spot=none∧a.off=0
def NR:TypeId:=5
def TlT (M:Mem) (w:World) (p:PV) (v:Value):Prop :=
 ∀ l A n cap,p = .slT l→v = .slice A n cap→(A=none→cap=0)∧∀ a,A=some a→∃ cs,w.heap[a.block]? = some (.cells cs NR (0,0))∧cs.size=cap∧cap≤maxLen∧(∀ o,l.length≤o→M a.block o=none)∧a.spot=none∧a.off=0
def TlP (M:Mem) (w:World) (p:PV) (v:Value):Prop :=
 ∀ n sz cs A m cap,p = .slp true n sz cs→v = .slice A m cap→(cs.length=n*sz∧0<sz)∧(A=none→cap=0)∧∀ a,A=some a→∃ vs ty,w.heap[a.block]? = some (.cells vs ty (0,0))∧cap*sz≤vs.size∧(∀ (j:Nat) p,cs[j]? = some p→p.lit=true∧∃ u,vs[j]? = some u∧Rep noM [] p u∧u.oneCell'=true)∧(∀ o,M a.block o=none)∧a.spot=none∧a.off=0
structure Tl (M:Mem) (w:World) (p:PV) (v:Value):Prop where
 s:TlS M w p v
 t:TlT M w p v
 p:TlP M w p v
theorem Y8 {M:Mem} {w:World} {p:PV} {v:Value} (hp:∀ l,p ≠ .slT l) (h:TlS M w p v) (hq:∀ n z cs,p ≠ .slp true n z cs:=by intro _ _ _ h; cases h):Tl M w p v:=⟨h,fun l _ _ _ e _=>absurd e (hp l),fun n z cs _ _ _ e _=>absurd e (hq n z cs)⟩
theorem a7P {M:Mem} {w:World} {n z:Nat} {cs:List PV} {v:Value} (h:TlP M w (.slp true n z cs) v):Tl M w (.slp true n z cs) v:=⟨(fun _ _ _ _ _ e _=>by cases e),(fun _ _ _ _ e _=>by cases e),h⟩
def aFM (M:Mem) (B:bY) (w:World) (cs:List PV) (c:Nat×Nat×TypeId):Prop :=
 ∃ vs ty,rowAt w c.1=some (vs,ty)∧(vs.size=c.2.1∧ty=c.2.2)∧cs.length≤vs.size∧(∀ (j:Nat) p,cs[j]? = some p→∃ v,vs[j]? = some v∧Rep M B p v∧Tl M w p v∧v.oneCell'=true)∧∀ o,M c.1 o=none
def HeapOK (M:Mem) (B:bY) (w:World) (h:aG):Prop:=h.length=B.length∧∀ (i:Nat) cs,h[i]? = some (some cs)→∃ c,B[i]? = some c∧aFM M B w cs c
def fp (B:bY) (σ:ASt) (t:Array Value) (w:World) (b:Nat):Nat:=iI σ.s t b+aJ w σ.h B b
def yT (s:cZ):Prop:=s.Pairwise fun a b=>a.1<b.1
structure Inv (n:Nat) (M:Mem) (B:bY) (out:Nat→Nat) (σ:ASt) (t:Array Value) (w:World):Prop where
 size:t.size=n
 mem:∀ (b o:Nat) (v:Value),M b o=some v→w.cell? ⟨b,o,none⟩=some v∧v.oneCell'=true
 srt:yT σ.s
 slots:∀ k p,bK k σ.s=some p→k<n∧Rep M B p (t.getD k undef)∧Tl M w p (t.getD k undef)
 heap:HeapOK M B w σ.h
 cnt:∀ b,fp B σ t w b+out b≤1
 new:∀ b,w.heap.size≤b→fp B σ t w b+out b=0
structure Fr (f:Nat→Nat) (M:Mem) (w:World) (M':Mem) (w':World):Prop where
 os:w'.os=w.os
 tape:w'.tape=w.tape
 output:w'.output=w.output
 size:w.heap.size≤w'.heap.size
 blk:∀ b,b<w.heap.size→f b=0→w'.heap[b]? = w.heap[b]? ∧ ∀ o,M' b o=M b o
theorem Fr.refl (f:Nat→Nat) (M:Mem) (w:World):Fr f M w M w:=⟨rfl,rfl,rfl,Nat.le_refl _,fun _ _ _=>⟨rfl,fun _=>rfl⟩⟩
theorem Fr.trans {f g:Nat→Nat} {M M' M'':Mem} {w w' w'':World} (h:Fr f M w M' w') (k:Fr g M' w' M'' w'') (hg:∀ b,b<w.heap.size→f b=0→g b=0):Fr f M w M'' w'' :=
 ⟨k.os.trans h.os,k.tape.trans h.tape,k.output.trans h.output,Nat.le_trans h.size k.size,fun b hb hf=>by
  obtain ⟨h1,h2⟩:=h.blk b hb hf
  obtain ⟨k1,k2⟩:=k.blk b (Nat.lt_of_lt_of_le hb h.size) (hg b hb hf)
  exact ⟨k1.trans h1,fun o=>(k2 o).trans (h2 o)⟩⟩
theorem Fr.mono {f g:Nat→Nat} {M M':Mem} {w w':World} (h:Fr f M w M' w') (hg:∀ b,b<w.heap.size→g b=0→f b=0):Fr g M w M' w' :=
 ⟨h.os,h.tape,h.output,h.size,fun b hb h0=>h.blk b hb (hg b hb h0)⟩
structure Good (n:Nat) (out:Nat→Nat) (M:Mem) (B:bY) (σ:ASt) (t:Array Value) (w:World) (M':Mem) (B':bY) (σ':ASt) (t':Array Value) (w':World):Prop where
 inv:Inv n M' B' out σ' t' w'
 le:MLe M M' B B'
 fr:Fr (fp B σ t w) M w M' w'
 own:∀ b,b<w.heap.size→fp B' σ' t' w' b≤fp B σ t w b
theorem Good.refl {n:Nat} {out:Nat→Nat} {M:Mem} {B:bY} {σ:ASt} {t:Array Value} {w:World} (h:Inv n M B out σ t w):Good n out M B σ t w M B σ t w :=
 ⟨h,MLe.refl _ _,Fr.refl _ _ _,fun _ _=>Nat.le_refl _⟩
theorem Good.trans {n:Nat} {out:Nat→Nat} {M M1 M2:Mem} {B B1 B2:bY} {σ σ1 σ2:ASt} {t t1 t2:Array Value} {w w1 w2:World}
 (h:Good n out M B σ t w M1 B1 σ1 t1 w1) (k:Good n out M1 B1 σ1 t1 w1 M2 B2 σ2 t2 w2):Good n out M B σ t w M2 B2 σ2 t2 w2 :=
 ⟨k.inv,h.le.trans k.le,h.fr.trans k.fr (fun b hb h0=>by have:=h.own b hb; omega),fun b hb=>Nat.le_trans (k.own b (Nat.lt_of_lt_of_le hb h.fr.size)) (h.own b hb)⟩
theorem jM {t:Array Value} {k j:Nat} {v:Value} (h:k≠j):(t.setIfInBounds k v).getD j undef=t.getD j undef:=by simp[h]
theorem kX {t:Array Value} {k:Nat} {v:Value} (h:k<t.size):(t.setIfInBounds k v).getD k undef=v:=by simp[h]
theorem srt_cons {kp:Nat×PV} {l:cZ}:yT (kp::l)↔(∀ a,a∈l→kp.1<a.1)∧yT l:=by simp[yT]
theorem a1F {k:Nat} {p:PV}:∀ {s:cZ} {a:Nat×PV},a∈iH k p s→a=(k,p)∨a∈s
 | [],a,h=>by simpa[iH] using h
 | (j,q)::l,a,h=>by
  rw[iH] at h
  split at h
  ·rcases List.mem_cons.1 h with h | h
   ·exact .inl h
   ·exact .inr (by simp[h])
  ·split at h
   ·rcases List.mem_cons.1 h with h | h
    ·exact .inl h
    ·exact .inr h
   ·rcases List.mem_cons.1 h with h | h
    ·exact .inr (by simp[h])
    ·rcases a1F h with h | h
     ·exact .inl h
     ·exact .inr (by simp[h])
theorem kV {k:Nat} {p:PV}:∀ {s:cZ},yT s→yT (iH k p s)
 | [],_=>by simp[iH,yT]
 | (j,q)::l,h=>by
  obtain ⟨h1,h2⟩:=srt_cons.1 h
  rw[iH]
  split
  ·rename_i e; subst e; exact srt_cons.2 ⟨h1,h2⟩
  ·split
   ·rename_i hlt; exact srt_cons.2 ⟨fun a ha=>by
     rcases List.mem_cons.1 ha with rfl | ha
     ·exact hlt
     ·exact Nat.lt_trans hlt (h1 a ha),h⟩
   ·rename_i hne hnl; exact srt_cons.2 ⟨fun a ha=>by
     rcases a1F ha with rfl | ha
     ·show j<k; omega
     ·exact h1 a ha,kV h2⟩
theorem rV {k:Nat}:∀ {s:cZ},(∀ a,a∈s→k<a.1)→bK k s=none
 | [],_=>rfl
 | (j,q)::l,h=>by
  have:=h (j,q) (by simp)
  rw[bK,if_neg (by simp at this; omega)]
  exact rV fun a ha=>h a (by simp[ha])
theorem jG {k:Nat} {p:PV} (j:Nat):∀ {s:cZ},yT s→bK j (iH k p s)=if k=j then some p else bK j s
 | [],_=>by simp[iH,bK]
 | (i,q)::l,h=>by
  obtain ⟨h1,h2⟩:=srt_cons.1 h
  rw[iH]
  split
  ·rename_i e; subst e; simp only[bK]; split<;>rfl
  ·split
   ·simp only[bK]
   ·rw[bK,jG j h2,bK]
    by_cases h3:i=j
    ·subst h3; rw[if_pos rfl,if_pos rfl,if_neg (by omega)]
    ·rw[if_neg h3,if_neg h3]
theorem IM {k:Nat} {p:PV}:∀ {s:cZ},bK k s=some p→(k,p)∈s
 | [],h=>by simp[bK] at h
 | (j,q)::l,h=>by
  rw[bK] at h
  split at h
  ·rename_i e; subst e; injection h with h; subst h; simp
  ·exact List.mem_cons_of_mem _ (IM h)
theorem AY {k:Nat} {v:Value} {t:Array Value} {b:Nat}:∀ {l:cZ},(∀ a,a∈l→a.1≠k)→iI l (t.setIfInBounds k v) b=iI l t b
 | [],_=>rfl
 | (j,q)::l,h=>by
  rw[iI,iI,jM (Ne.symm (h (j,q) (by simp))),AY fun a ha=>h a (by simp[ha])]
def oN (s:cZ) (t:Array Value) (k b:Nat):Nat:=match bK k s with | some q=>bF q (t.getD k undef) b | none=>0
theorem BX {k:Nat} {p:PV} {v:Value} {t:Array Value} {b:Nat} (hk:k<t.size):∀ {s:cZ},yT s→iI (iH k p s) (t.setIfInBounds k v) b+oN s t k b=iI s t b+bF p v b
 | [],_=>by simp[iH,iI,oN,bK,hk]
 | (j,q)::l,h=>by
  obtain ⟨h1,h2⟩:=srt_cons.1 h
  rw[iH]
  split
  ·rename_i e; subst e
   have hl:∀ a,a∈l→a.1≠j:=fun a ha=>by have:=h1 a ha; simp at this; omega
   simp only[iI,kX hk,AY hl,oN,bK,if_true]
   omega
  ·split
   ·rename_i hne hlt
    have hl:∀ a,a∈(j,q)::l→a.1≠k:=fun a ha=>by
     rcases List.mem_cons.1 ha with rfl | ha
     ·exact hne
     ·have:=h1 a ha; simp at this; omega
    have hn:bK k ((j,q)::l)=none:=rV fun a ha=>by
     rcases List.mem_cons.1 ha with rfl | ha
     ·exact hlt
     ·have:=h1 a ha; simp at this; omega
    rw[iI,kX hk,AY hl,oN,hn]
    show _+0=_
    omega
   ·rename_i hne hnl
    have ih:=BX (p:=p) (v:=v) (b:=b) hk h2
    have e1:oN ((j,q)::l) t k b=oN l t k b:=by simp only[oN,bK,if_neg hne]
    rw[e1,iI,iI,jM (Ne.symm hne)]
    omega
theorem xY (p:PV) (v:Value) (b:Nat):bF p.un v b=0:=by simp[bF,iM]
theorem aN {p:PV} (h:p.own=false) (v:Value) (b:Nat):bF p v b=0:=by simp[bF,h]
theorem pI {s:cZ} {t:Array Value} {k b:Nat}:oN s t k b≤iI s t b:=by
 induction s with
 | nil=>simp[oN,bK,iI]
 | cons a l ih =>
  obtain ⟨j,q⟩:=a
  by_cases e:j=k
  ·subst e
   have:oN ((j,q)::l) t j b=bF q (t.getD j undef) b:=by simp only[oN,bK,if_true]
   rw[this,iI]; omega
  ·have:oN ((j,q)::l) t k b=oN l t k b:=by simp only[oN,bK,if_neg e]
   rw[this,iI]; omega
theorem cO {M:Mem} {w:World} {p:PV} {v:Value} (h:p.own=false):Tl M w p v:=⟨fun sz es A n cap e _=>by subst e; simp[PV.own] at h,fun l A n cap e _=>by subst e; simp[PV.own] at h,fun n z cs A m cap e _=>by subst e; simp[PV.own] at h⟩
section
variable {n:Nat} {M:Mem} {B:bY} {out:Nat→Nat} {σ:ASt} {t:Array Value} {w:World}
theorem Tl.kept {M':Mem} {w':World} {p:PV} {v:Value} (h:Tl M w p v) (hb:∀ b,bF p v b=1→w'.heap[b]? = w.heap[b]? ∧ ∀ o,M' b o=M b o):Tl M' w' p v:=by
 refine ⟨fun sz es A n cap e ev => ?_,fun l A n cap e ev => ?_,fun n z cs A m cap e ev => ?_⟩
 ·obtain ⟨g1,g2,g3⟩:=h.s sz es A n cap e ev
  refine ⟨g1,g2,fun a ha => ?_⟩
  obtain ⟨cs,ty,h1,h2,h3⟩:=g3 a ha
  subst ha
  obtain ⟨k1,k2⟩:=hb a.block (by subst e; subst ev; simp[bF,PV.own])
  exact ⟨cs,ty,by rw[k1,h1],h2,fun o ho=>by rw[k2]; exact h3.1 o ho,h3.2⟩
 ·obtain ⟨g1,g3⟩:=h.t l A n cap e ev
  refine ⟨g1,fun a ha => ?_⟩
  obtain ⟨cs,h1,h2,h2',h3⟩:=g3 a ha
  subst ha
  obtain ⟨k1,k2⟩:=hb a.block (by subst e; subst ev; simp[bF,PV.own])
  exact ⟨cs,by rw[k1,h1],h2,h2',fun o ho=>by rw[k2]; exact h3.1 o ho,h3.2⟩
 ·obtain ⟨g0,g1,g3⟩:=h.p n z cs A m cap e ev
  refine ⟨g0,g1,fun a ha => ?_⟩
  obtain ⟨vs,ty,h1,h2,h2',h3⟩:=g3 a ha
  subst ha
  obtain ⟨k1,k2⟩:=hb a.block (by subst e; subst ev; simp[bF,PV.own])
  exact ⟨vs,ty,by rw[k1,h1],h2,h2',fun o=>by rw[k2]; exact h3.1 o,h3.2⟩
theorem Inv.put (hI:Inv n M B out σ t w) {k:Nat} (hk:k<n) {p:PV} {v:Value} (hr:Rep M B p v) (ho:p.own=false) :
 Good n out M B σ t w M B { σ with s:=iH k p σ.s } (t.setIfInBounds k v) w:=by
 have hle:∀ b,fp B { σ with s:=iH k p σ.s } (t.setIfInBounds k v) w b≤fp B σ t w b:=fun b=>by
  have:=BX (p:=p) (v:=v) (b:=b) (by rw[hI.size]; exact hk:k<t.size) hI.srt
  rw[aN ho] at this
  show iI (iH k p σ.s) (t.setIfInBounds k v) b+aJ w σ.h B b≤iI σ.s t b+aJ w σ.h B b
  omega
 refine ⟨⟨by simp[hI.size],hI.mem,kV hI.srt,fun j q hj => ?_,hI.heap,fun b=>by have:=hI.cnt b; have:=hle b; omega,fun b hb=>by have:=hI.new b hb; have:=hle b; omega⟩,MLe.refl _ _,Fr.refl _ _ _,fun b _=>hle b⟩
 rw[jG j hI.srt] at hj
 split at hj
 ·rename_i e; subst e; injection hj with hj; subst hj
  rw[kX (by rw[hI.size]; exact hk)]
  exact ⟨hk,hr,cO ho⟩
 ·rename_i hne
  rw[jM hne]
  exact hI.slots j q hj
theorem Inv.clr (hI:Inv n M B out σ t w) {k:Nat} {p:PV} (hp:bK k σ.s=some p):Inv n M B out { σ with s:=iH k p.un σ.s } t w∧∀ b,fp B { σ with s:=iH k p.un σ.s } t w b+bF p (t.getD k undef) b=fp B σ t w b:=by
 have hk:=(hI.slots k p hp).1
 have hks:k<t.size:=by rw[hI.size]; exact hk
 have hset:t.setIfInBounds k (t.getD k undef)=t:=by
  apply Array.ext (by simp)
  intro i h1 h2
  by_cases h:k=i
  ·subst h; simp[hks]
  ·rw[Array.getElem_setIfInBounds (by simpa using h1),if_neg h]
 have hown:∀ b,iI (iH k p.un σ.s) t b+bF p (t.getD k undef) b=iI σ.s t b:=fun b=>by
  have:=BX (p:=p.un) (v:=t.getD k undef) (b:=b) hks hI.srt
  rw[hset,xY] at this
  simp only[oN,hp] at this
  omega
 refine ⟨⟨hI.size,hI.mem,kV hI.srt,fun j q hj => ?_,hI.heap,fun b=>by have:=hI.cnt b; have:=hown b; simp only[fp] at *; omega,fun b hb=>by have:=hI.new b hb; have:=hown b; simp only[fp] at *; omega⟩,fun b=>by have:=hown b; simp only[fp]; omega⟩
 rw[jG j hI.srt] at hj
 split at hj
 ·rename_i e; subst e; injection hj with hj; subst hj
  exact ⟨hk,rep_un.2 (hI.slots _ _ hp).2.1,cO (iM _)⟩
 ·exact hI.slots j q hj
theorem Inv.putOwn (hI:Inv n M B out σ t w) {k:Nat} (hk:k<n) {p:PV} {v:Value} (hr:Rep M B p v) (hT:Tl M w p v) (hc:∀ b,fp B σ t w b+bF p v b+out b≤1) (hn:∀ b,w.heap.size≤b→bF p v b=0) :
 Inv n M B out { σ with s:=iH k p σ.s } (t.setIfInBounds k v) w∧∀ b,fp B { σ with s:=iH k p σ.s } (t.setIfInBounds k v) w b≤fp B σ t w b+bF p v b:=by
 have hle:∀ b,fp B { σ with s:=iH k p σ.s } (t.setIfInBounds k v) w b≤fp B σ t w b+bF p v b:=fun b=>by
  have:=BX (p:=p) (v:=v) (b:=b) (by rw[hI.size]; exact hk:k<t.size) hI.srt
  simp only[fp]; omega
 refine ⟨⟨by simp[hI.size],hI.mem,kV hI.srt,fun j q hj => ?_,hI.heap,fun b=>by have:=hc b; have:=hle b; omega,fun b hb=>by have:=hI.new b hb; have:=hle b; have:=hn b hb; omega⟩,hle⟩
 rw[jG j hI.srt] at hj
 split at hj
 ·rename_i e; subst e; injection hj with hj; subst hj
  rw[kX (by rw[hI.size]; exact hk)]
  exact ⟨hk,hr,hT⟩
 ·rename_i hne
  rw[jM hne]
  exact hI.slots j q hj
end
end Go.Proofs.YtcdceiloganlnaaGreatDoor
namespace Go.Proofs.YtcdceiloganlnaaGreatDoor
open Go.RowKit
section
variable {n:Nat} {M M':Mem} {B B':bY} {out:Nat→Nat} {σ:ASt} {t:Array Value} {w w':World}
theorem iF:∀ {cs:List PV} {vs:List Value} {j:Nat} {p:PV} {v:Value} (b:Nat),cs[j]? = some p→vs[j]? = some v→bF p v b≤dP cs vs b
 | [],_,_,_,_,_,h,_=>by simp at h
 | _::_,[],_,_,_,_,_,h=>by simp at h
 | q::cs,u::vs,0,p,v,b,h1,h2=>by simp at h1 h2; subst h1; subst h2; rw[dP]; omega
 | q::cs,u::vs,j+1,p,v,b,h1,h2=>by have:=iF (j:=j) b (by simpa using h1) (by simpa using h2); rw[dP]; omega
theorem bP:∀ {h:aG} {B:bY} {i:Nat} {cs:List PV} {c:Nat×Nat×TypeId} (b:Nat),h[i]? = some (some cs)→B[i]? = some c→(if c.1=b then 1 else 0)+dP cs (aZ w c.1) b≤aJ w h B b
 | [],_,_,_,_,_,h,_=>by simp at h
 | _::_,[],_,_,_,_,_,h=>by simp at h
 | some ds::h,d::B,0,cs,c,b,h1,h2=>by simp at h1 h2; subst h1; subst h2; rw[aJ]; omega
 | none::h,d::B,0,cs,c,b,h1,h2=>by simp at h1
 | some ds::h,d::B,i+1,cs,c,b,h1,h2=>by have:=bP (i:=i) (c:=c) b (by simpa using h1) (by simpa using h2); rw[aJ]; omega
 | none::h,d::B,i+1,cs,c,b,h1,h2=>by have:=bP (i:=i) (c:=c) b (by simpa using h1) (by simpa using h2); rw[aJ]; omega
theorem jJ:∀ {h:aG} {B:bY} (b:Nat),(∀ (i:Nat) cs c,h[i]? = some (some cs)→B[i]? = some c→aZ w' c.1=aZ w c.1)→aJ w' h B b=aJ w h B b
 | [],_,_,_=>by simp[aJ]
 | some _::_,[],_,_=>by simp[aJ]
 | none::_,[],_,_=>by simp[aJ]
 | some ds::h,d::B,b,H=>by
  rw[aJ,aJ,jJ b (fun i cs c h1 h2=>H (i+1) cs c (by simpa using h1) (by simpa using h2)),H 0 ds d rfl rfl]
 | none::h,d::B,b,H=>by
  rw[aJ,aJ,jJ b (fun i cs c h1 h2=>H (i+1) cs c (by simpa using h1) (by simpa using h2))]
theorem mV {x:List PV} {c:Nat×Nat×TypeId}:∀ {h:aG} {B:bY} (b:Nat),h.length=B.length→aJ w (h ++ [some x]) (B ++ [c]) b=aJ w h B b+((if c.1=b then 1 else 0)+dP x (aZ w c.1) b)
 | [],[],b,_=>by simp[aJ]
 | some ds::h,d::B,b,H=>by simp only[List.cons_append,aJ]; rw[mV b (by simpa using H)]; omega
 | none::h,d::B,b,H=>by simp only[List.cons_append,aJ]; rw[mV b (by simpa using H)]
 | [],_::_,_,H=>by simp at H
 | _::_,[],_,H=>by simp at H
theorem jX {b:Nat} (h:w'.heap[b]? = w.heap[b]?):aZ w' b=aZ w b:=by unfold aZ; rw[kT h]
theorem bM {b:Nat} {vs:Array Value} {ty:Nat} (h:rowAt w b=some (vs,ty)):aZ w b=vs.toList:=by unfold aZ; rw[h]
theorem HeapOK.at (h:HeapOK M B w σ.h) {i:Nat} {cs:List PV} (hi:σ.h[i]? = some (some cs)) {c:Nat×Nat×TypeId} (hc:B[i]? = some c):aFM M B w cs c:=by
 obtain ⟨c',hc',ho⟩:=h.2 i cs hi
 rw[hc] at hc'; cases hc'; exact ho
theorem CX {b:Nat} (hI:Inv n M B out σ t w) (h:1≤fp B σ t w b+out b):b<w.heap.size:=by
 rcases Nat.lt_or_ge b w.heap.size with h' | h'
 ·exact h'
 ·have:=hI.new b h'; omega
theorem Inv.ext (hI:Inv n M B out σ t w) (hle:MLe M M' B B) (hmem:∀ (b o:Nat) (v:Value),M' b o=some v→w'.cell? ⟨b,o,none⟩=some v∧v.oneCell'=true)
 (hb:∀ b,1≤fp B σ t w b→w'.heap[b]? = w.heap[b]? ∧ ∀ o,M' b o=M b o) (hsz:w.heap.size≤w'.heap.size) :
 Inv n M' B out σ t w'∧∀ b,fp B σ t w' b=fp B σ t w b:=by
 have hobj:∀ (i:Nat) cs c,σ.h[i]? = some (some cs)→B[i]? = some c→1≤fp B σ t w c.1:=fun i cs c h1 h2=>by
  have:=bP (w:=w) c.1 h1 h2
  simp only[if_true] at this
  simp only[fp]; omega
 have hfp:∀ b,fp B σ t w' b=fp B σ t w b:=fun b=>by
  simp only[fp]
  rw[jJ b fun i cs c h1 h2=>jX (hb c.1 (hobj i cs c h1 h2)).1]
 refine ⟨⟨hI.size,hmem,hI.srt,fun k p hp => ?_,⟨hI.heap.1,fun i cs hi => ?_⟩,fun b=>by rw[hfp]; exact hI.cnt b,fun b h=>by rw[hfp]; exact hI.new b (Nat.le_trans hsz h)⟩,hfp⟩
 ·obtain ⟨h1,h2,h3⟩:=hI.slots k p hp
  refine ⟨h1,h2.mono hle,h3.kept fun b ho=>hb b ?_⟩
  have:=pI (s:=σ.s) (t:=t) (k:=k) (b:=b)
  simp only[oN,hp] at this
  simp only[fp]; omega
 ·obtain ⟨c,hc,vs,ty,h1,h2,h3,h4,h5⟩:=hI.heap.2 i cs hi
  have hcb:=hb c.1 (hobj i cs c hi hc)
  refine ⟨c,hc,vs,ty,by rw[kT hcb.1,h1],h2,h3,fun j p hj => ?_,fun o=>by rw[hcb.2]; exact h5 o⟩
  obtain ⟨v,hv,hr,hT,hone⟩:=h4 j p hj
  refine ⟨v,hv,hr.mono hle,hT.kept fun b ho=>hb b ?_,hone⟩
  have e1:=bP (w:=w) b hi hc
  have e2:=iF b hj (by rw[bM h1]; simpa using hv:(aZ w c.1)[j]? = some v)
  simp only[fp]; omega
theorem Inv.drew (hI:Inv n M B out σ t w):Inv n M B out σ t w.drew∧Good n out M B σ t w M B σ t w.drew:=by
 have:=hI.ext (M':=M) (w':=w.drew) (MLe.refl _ _) (fun b o v h=>hI.mem b o v h) (fun b _=>⟨rfl,fun _=>rfl⟩) (Nat.le_refl _)
 exact ⟨this.1,this.1,MLe.refl _ _,⟨rfl,rfl,rfl,Nat.le_refl _,fun _ _ _=>⟨rfl,fun _=>rfl⟩⟩,fun b _=>by rw[this.2]; exact Nat.le_refl _⟩
def laid (M:Mem) (b:Nat) (vs:List Value):Mem:=mkM M.m fun b' o=>if b'=b then vs[o]? else M b' o
theorem iR (hI:Inv n M B out σ t w) (o:Nat):M w.heap.size o=none:=by
 cases hm:M w.heap.size o with
 | none=>rfl
 | some v=>have:=World.block_lt_of_cell? _ _ (hI.mem _ o v hm).1; simp at this
theorem kJ {M:Mem} {c:Nat} (h:∀ o,M c o=none) (vs:List Value) (b o:Nat):laid M c vs b o=if b=c then vs[o]? else M b o:=sJ (IZ h) b o
theorem JJ (hI:Inv n M B out σ t w) (vs:List Value):MLe M (laid M w.heap.size vs) B B :=
 ⟨fun b o v h=>by
  have:=World.block_lt_of_cell? _ _ (hI.mem b o v h).1
  simp only at this
  rw[kJ (iR hI),if_neg (by omega)]; exact h,fun _ _ h=>h⟩
theorem Inv.lay (hI:Inv n M B out σ t w) (vs:Array Value) (ty:TypeId) (k:Nat) (h1:∀ v,v∈vs→v.oneCell'=true) :
 Good n out M B σ t w (laid M w.heap.size (vs.toList.take k)) B σ t (w.alloc (.cells vs ty))∧∀ b,fp B σ t (w.alloc (.cells vs ty)) b=fp B σ t w b:=by
 have hle:=JJ hI (vs.toList.take k)
 have hb:∀ b,1≤fp B σ t w b→(w.alloc (.cells vs ty)).heap[b]? = w.heap[b]? ∧ ∀ o,laid M w.heap.size (vs.toList.take k) b o=M b o:=fun b hb=>by
  have:=CX hI (by omega:1≤fp B σ t w b+out b)
  exact ⟨Below.heap_alloc _ _ _ this,fun o=>by rw[kJ (iR hI),if_neg (by omega)]⟩
 have:=hI.ext (w':=w.alloc (.cells vs ty)) hle (fun b o v h=>by
  by_cases e:b=w.heap.size
  ·subst e
   rw[kJ (iR hI),if_pos rfl,List.getElem?_take] at h
   split at h
   ·rw[World.cell?_alloc_new]
    exact ⟨by simpa using h,h1 v (Array.mem_of_getElem? (by simpa using h))⟩
   ·cases h
  ·rw[kJ (iR hI),if_neg e] at h
   rw[World.cell?_alloc_old _ _ _ e]; exact hI.mem b o v h) hb (by simp)
 refine ⟨⟨this.1,hle,⟨rfl,rfl,rfl,by simp,fun b hb _=>⟨Below.heap_alloc _ _ _ hb,fun o=>by rw[kJ (iR hI),if_neg (by omega)]⟩⟩,fun b _=>by rw[this.2]; exact Nat.le_refl _⟩,this.2⟩
theorem Inv.newObj2 (hI:Inv n M B out σ t w) (vs:Array Value) (ty:TypeId) (cs:List PV) (hl:cs.length≤vs.size)
 (hr:∀ (j:Nat) p,cs[j]? = some p→∃ v,vs[j]? = some v∧Rep M (B ++ [(w.heap.size,vs.size,ty+1)]) p v∧Tl M w p v∧v.oneCell'=true∧∀ b,bF p v b=0) :
 Good n out M B σ t w M (B ++ [(w.heap.size,vs.size,ty+1)]) { σ with h:=σ.h ++ [some cs] } t (w.alloc (.cells vs ty)):=by
 have hle:MLe M M B (B ++ [(w.heap.size,vs.size,ty+1)]):=⟨fun _ _ _ h=>h,fun i c h=>by rw[List.getElem?_append_left (List.getElem?_eq_some_iff.1 h).1]; exact h⟩
 obtain ⟨hE,hF⟩:=(hI.ext (M':=M) (w':=w.alloc (.cells vs ty)) (MLe.refl _ _) (fun b o v h=>by
  have:=World.block_lt_of_cell? _ _ (hI.mem b o v h).1
  simp only at this
  rw[World.cell?_alloc_old _ _ _ (by simp; omega)]; exact hI.mem b o v h) (fun b hb=>⟨Below.heap_alloc _ _ _ (CX hI (by omega)),fun _=>rfl⟩) (by simp))
 have hC:∀ b,dP cs vs.toList b=0:=fun b=>by
  have key:∀ (cs:List PV) (us:List Value),(∀ (j:Nat) p,cs[j]? = some p→∃ v,us[j]? = some v∧∀ b,bF p v b=0)→dP cs us b=0:=by
   intro cs
   induction cs with
   | nil=>intro us _; simp[dP]
   | cons p ps ih =>
    intro us h
    obtain ⟨v,hv,h0⟩:=h 0 p rfl
    cases us with
    | nil=>simp at hv
    | cons u us =>
     simp at hv; subst hv
     rw[dP,h0,ih us fun j q hq=>by obtain ⟨v,hv,h0⟩:=h (j+1) q (by simpa using hq); exact ⟨v,by simpa using hv,h0⟩]
  exact key cs vs.toList fun j p hp=>by obtain ⟨v,hv,_,_,_,h0⟩:=hr j p hp; exact ⟨v,by simpa using hv,h0⟩
 have hat:aZ (w.alloc (.cells vs ty)) w.heap.size=vs.toList:=bM (kS (heap_alloc_new w _))
 have hfp:∀ b,fp (B ++ [(w.heap.size,vs.size,ty+1)]) { σ with h:=σ.h ++ [some cs] } t (w.alloc (.cells vs ty)) b=fp B σ t w b+if w.heap.size=b then 1 else 0:=fun b=>by
  have:=hF b
  simp only[fp] at this ⊢
  rw[mV b hI.heap.1,hat,hC]
  show _+(_+((if w.heap.size=b then 1 else 0)+0))=_
  omega
 have hlast:∀ (i:Nat) (cs':List PV),(σ.h ++ [some cs])[i]? = some (some cs')→(i<σ.h.length∧σ.h[i]? = some (some cs'))∨(i=σ.h.length∧cs'=cs):=fun i cs' h=>by
  rcases Nat.lt_or_ge i σ.h.length with hlt | hge
  ·rw[List.getElem?_append_left hlt] at h; exact .inl ⟨hlt,h⟩
  ·rw[List.getElem?_append_right hge] at h
   have:i-σ.h.length=0:=by
    rcases Nat.eq_zero_or_pos (i-σ.h.length) with h0 | h0
    ·exact h0
    ·rw[List.getElem?_eq_none (by simp; omega)] at h; cases h
   rw[this] at h; simp at h; exact .inr ⟨by omega,h.symm⟩
 refine ⟨⟨hI.size,hE.mem,hI.srt,fun k p hp => ?_,⟨by simp[hI.heap.1],fun i cs' hi => ?_⟩,fun b => ?_,fun b hb => ?_⟩,hle,⟨rfl,rfl,rfl,by simp,fun b hb _=>⟨Below.heap_alloc _ _ _ hb,fun _=>rfl⟩⟩,fun b hb=>by rw[hfp,if_neg (by omega)]; exact Nat.le_refl _⟩
 ·obtain ⟨h1,h2,h3⟩:=hE.slots k p hp
  exact ⟨h1,h2.mono hle,h3⟩
 ·rcases hlast i cs' hi with ⟨hlt,hi'⟩ | ⟨rfl,rfl⟩
  ·obtain ⟨c,hc,vs',ty',h1,h2,h3,h4,h5⟩:=hE.heap.2 i cs' hi'
   exact ⟨c,hle.blk _ _ hc,vs',ty',h1,h2,h3,fun j p hj=>by obtain ⟨v,a1,a2,a3,a4⟩:=h4 j p hj; exact ⟨v,a1,a2.mono hle,a3,a4⟩,h5⟩
  ·refine ⟨(w.heap.size,vs.size,ty+1),by rw[hI.heap.1]; simp,vs,ty+1,kS (heap_alloc_new w _),⟨rfl,rfl⟩,hl,fun j p hj => ?_,fun o => ?_⟩
   ·obtain ⟨v,a1,a2,a3,a4,a5⟩:=hr j p hj
    refine ⟨v,a1,a2,?_,a4⟩
    exact a3.kept fun b hb=>by rw[a5] at hb; omega
   ·cases hm:M w.heap.size o with
    | none=>rfl
    | some v=>have:=World.block_lt_of_cell? _ _ (hI.mem _ o v hm).1; simp at this
 ·rw[hfp]
  have:=hI.cnt b
  split
  ·rename_i e; subst e; have:=hI.new _ (Nat.le_refl _); omega
  ·omega
 ·rw[hfp]
  simp at hb
  have:=hI.new b (by omega)
  rw[if_neg (by omega)]; omega
theorem Inv.newObjR (hI:Inv n M B out σ t w) (ob:Obj) (vs:Array Value) (T:Nat) (hrow:rowAt (w.alloc ob) w.heap.size=some (vs,T)) (cs:List PV) (hl:cs.length≤vs.size)
 (hr:∀ (j:Nat) p,cs[j]? = some p→∃ v,vs[j]? = some v∧Rep M (B ++ [(w.heap.size,vs.size,T)]) p v∧Tl M w p v∧v.oneCell'=true∧∀ b,bF p v b=0) :
 Good n out M B σ t w M (B ++ [(w.heap.size,vs.size,T)]) { σ with h:=σ.h ++ [some cs] } t (w.alloc ob):=by
 have hle:MLe M M B (B ++ [(w.heap.size,vs.size,T)]):=⟨fun _ _ _ h=>h,fun i c h=>by rw[List.getElem?_append_left (List.getElem?_eq_some_iff.1 h).1]; exact h⟩
 obtain ⟨hE,hF⟩:=(hI.ext (M':=M) (w':=w.alloc ob) (MLe.refl _ _) (fun b o v h=>by
  have:=World.block_lt_of_cell? _ _ (hI.mem b o v h).1
  simp only at this
  rw[World.cell?_alloc_old _ _ _ (by simp; omega)]; exact hI.mem b o v h) (fun b hb=>⟨Below.heap_alloc _ _ _ (CX hI (by omega)),fun _=>rfl⟩) (by simp))
 have hC:∀ b,dP cs vs.toList b=0:=fun b=>by
  have key:∀ (cs:List PV) (us:List Value),(∀ (j:Nat) p,cs[j]? = some p→∃ v,us[j]? = some v∧∀ b,bF p v b=0)→dP cs us b=0:=by
   intro cs
   induction cs with
   | nil=>intro us _; simp[dP]
   | cons p ps ih =>
    intro us h
    obtain ⟨v,hv,h0⟩:=h 0 p rfl
    cases us with
    | nil=>simp at hv
    | cons u us =>
     simp at hv; subst hv
     rw[dP,h0,ih us fun j q hq=>by obtain ⟨v,hv,h0⟩:=h (j+1) q (by simpa using hq); exact ⟨v,by simpa using hv,h0⟩]
  exact key cs vs.toList fun j p hp=>by obtain ⟨v,hv,_,_,_,h0⟩:=hr j p hp; exact ⟨v,by simpa using hv,h0⟩
 have hat:aZ (w.alloc ob) w.heap.size=vs.toList:=bM (hrow)
 have hfp:∀ b,fp (B ++ [(w.heap.size,vs.size,T)]) { σ with h:=σ.h ++ [some cs] } t (w.alloc ob) b=fp B σ t w b+if w.heap.size=b then 1 else 0:=fun b=>by
  have:=hF b
  simp only[fp] at this ⊢
  rw[mV b hI.heap.1,hat,hC]
  show _+(_+((if w.heap.size=b then 1 else 0)+0))=_
  omega
 have hlast:∀ (i:Nat) (cs':List PV),(σ.h ++ [some cs])[i]? = some (some cs')→(i<σ.h.length∧σ.h[i]? = some (some cs'))∨(i=σ.h.length∧cs'=cs):=fun i cs' h=>by
  rcases Nat.lt_or_ge i σ.h.length with hlt | hge
  ·rw[List.getElem?_append_left hlt] at h; exact .inl ⟨hlt,h⟩
  ·rw[List.getElem?_append_right hge] at h
   have:i-σ.h.length=0:=by
    rcases Nat.eq_zero_or_pos (i-σ.h.length) with h0 | h0
    ·exact h0
    ·rw[List.getElem?_eq_none (by simp; omega)] at h; cases h
   rw[this] at h; simp at h; exact .inr ⟨by omega,h.symm⟩
 refine ⟨⟨hI.size,hE.mem,hI.srt,fun k p hp => ?_,⟨by simp[hI.heap.1],fun i cs' hi => ?_⟩,fun b => ?_,fun b hb => ?_⟩,hle,⟨rfl,rfl,rfl,by simp,fun b hb _=>⟨Below.heap_alloc _ _ _ hb,fun _=>rfl⟩⟩,fun b hb=>by rw[hfp,if_neg (by omega)]; exact Nat.le_refl _⟩
 ·obtain ⟨h1,h2,h3⟩:=hE.slots k p hp
  exact ⟨h1,h2.mono hle,h3⟩
 ·rcases hlast i cs' hi with ⟨hlt,hi'⟩ | ⟨rfl,rfl⟩
  ·obtain ⟨c,hc,vs',ty',h1,h2,h3,h4,h5⟩:=hE.heap.2 i cs' hi'
   exact ⟨c,hle.blk _ _ hc,vs',ty',h1,h2,h3,fun j p hj=>by obtain ⟨v,a1,a2,a3,a4⟩:=h4 j p hj; exact ⟨v,a1,a2.mono hle,a3,a4⟩,h5⟩
  ·refine ⟨(w.heap.size,vs.size,T),by rw[hI.heap.1]; simp,vs,T,hrow,⟨rfl,rfl⟩,hl,fun j p hj => ?_,fun o => ?_⟩
   ·obtain ⟨v,a1,a2,a3,a4,a5⟩:=hr j p hj
    refine ⟨v,a1,a2,?_,a4⟩
    exact a3.kept fun b hb=>by rw[a5] at hb; omega
   ·cases hm:M w.heap.size o with
    | none=>rfl
    | some v=>have:=World.block_lt_of_cell? _ _ (hI.mem _ o v hm).1; simp at this
 ·rw[hfp]
  have:=hI.cnt b
  split
  ·rename_i e; subst e; have:=hI.new _ (Nat.le_refl _); omega
  ·omega
 ·rw[hfp]
  simp at hb
  have:=hI.new b (by omega)
  rw[if_neg (by omega)]; omega
theorem Inv.newObj (hI:Inv n M B out σ t w) (vs:Array Value) (ty:TypeId) (cs:List PV) (hl:cs.length≤vs.size)
 (hr:∀ (j:Nat) p,cs[j]? = some p→∃ v,vs[j]? = some v∧Rep M B p v∧Tl M w p v∧v.oneCell'=true∧∀ b,bF p v b=0) :
 Good n out M B σ t w M (B ++ [(w.heap.size,vs.size,ty+1)]) { σ with h:=σ.h ++ [some cs] } t (w.alloc (.cells vs ty)) :=
 hI.newObj2 vs ty cs hl fun j p hj=>by
  obtain ⟨v,a1,a2,a3⟩:=hr j p hj
  exact ⟨v,a1,a2.mono ⟨fun _ _ _ h=>h,fun i c h=>by rw[List.getElem?_append_left (List.getElem?_eq_some_iff.1 h).1]; exact h⟩,a3⟩
theorem Inv.setCell (hI:Inv n M B out σ t w) {i j:Nat} {cs:List PV} {c:Nat×Nat×TypeId} (hi:σ.h[i]? = some (some cs)) (hc:B[i]? = some c) (hm:c.2.2≠0) (hj:j<cs.length) {p:PV} {v:Value}
 (hr:Rep M B p v) (hT:Tl M w p v) (h1:v.oneCell'=true) (hcnt:∀ b,fp B σ t w b+bF p v b+out b≤1) (hnew:∀ b,w.heap.size≤b→bF p v b=0) :
 Inv n M B out { σ with h:=σ.h.set i (some (cs.set j p)) } t (w.setCell ⟨c.1,j,none⟩ v)∧(∀ b,fp B { σ with h:=σ.h.set i (some (cs.set j p)) } t (w.setCell ⟨c.1,j,none⟩ v) b≤fp B σ t w b+bF p v b) ∧
 Fr (fp B σ t w) M w M (w.setCell ⟨c.1,j,none⟩ v)∧w.frozen? ⟨c.1,j,none⟩=false∧(w.cell? ⟨c.1,j,none⟩).isSome=true:=by
 obtain ⟨vs,ty,r1,o2,o3,o4,o5⟩:=hI.heap.at hi hc
 obtain ⟨ty,rfl,o1⟩:=jS r1 (by rw[o2.2]; exact hm)
 have hset:w.setCell ⟨c.1,j,none⟩ v=w.setRow c.1 (vs.setIfInBounds j v):=setCell_eq_setRow w c.1 j vs ty (0,0) v o1
 have hblk:1≤fp B σ t w c.1:=by
  have:=bP (w:=w) c.1 hi hc
  simp only[if_true] at this
  simp only[fp]; omega
 have hoth:∀ b,b≠c.1→(w.setCell ⟨c.1,j,none⟩ v).heap[b]? = w.heap[b]? := fun b hb=>Below.heap_setCell _ _ _ _ hb
 have hself:(w.setCell ⟨c.1,j,none⟩ v).heap[c.1]? = some (.cells (vs.setIfInBounds j v) ty (0,0)):=by rw[hset]; exact setRow_heap w c.1 vs _ ty (0,0) o1
 have hvj:j<vs.size:=by omega
 have hne:∀ (i':Nat) cs' c',i'≠i→σ.h[i']? = some (some cs')→B[i']? = some c'→c'.1≠c.1:=by
  have key:∀ (h:aG) (B:bY) (i i':Nat) cs cs' c c',i'<i→h[i]? = some (some cs)→B[i]? = some c→h[i']? = some (some cs')→B[i']? = some c'→c.1=c'.1→2≤aJ w h B c.1:=by
   intro h
   induction h with
   | nil=>intro B i i' cs cs' c c' _ h1; simp at h1
   | cons x h ih =>
    intro B i i' cs cs' c c' hlt h1 h2 h3 h4 he
    cases B with
    | nil=>simp at h2
    | cons d B =>
     cases i with
     | zero=>omega
     | succ i =>
      simp at h1 h2
      cases i' with
      | zero =>
       simp at h3 h4; subst h3; subst h4
       have:=bP (w:=w) c.1 h1 h2
       simp only[if_true] at this
       rw[aJ,if_pos he.symm]; omega
      | succ i' =>
       simp at h3 h4
       have:=ih B i i' cs cs' c c' (by omega) h1 h2 h3 h4 he
       cases x<;>rw[aJ]<;>omega
  intro i' cs' c' hii h1 h2 he
  have hc1:=hI.cnt c.1
  simp only[fp] at hc1
  rcases Nat.lt_or_ge i' i with hlt | hge
  ·have:=key σ.h B i i' cs cs' c c' hlt hi hc h1 h2 he.symm; omega
  ·have:=key σ.h B i' i cs' cs c' c (by omega) h1 h2 hi hc he; rw[he] at this; omega
 have hcell:∀ (i':Nat) cs' c',σ.h[i']? = some (some cs')→B[i']? = some c'→i'≠i→aZ (w.setCell ⟨c.1,j,none⟩ v) c'.1=aZ w c'.1:=fun i' cs' c' h1 h2 hii=>jX (hoth _ (hne i' cs' c' hii h1 h2))
 have hfp:∀ b,fp B { σ with h:=σ.h.set i (some (cs.set j p)) } t (w.setCell ⟨c.1,j,none⟩ v) b≤fp B σ t w b+bF p v b:=fun b=>by
  have key:∀ (cs:List PV) (us:List Value) (j:Nat),dP (cs.set j p) (us.set j v) b≤dP cs us b+bF p v b:=by
   intro cs
   induction cs with
   | nil=>intro us j; simp[dP]
   | cons q qs ih =>
    intro us j
    cases us with
    | nil=>simp[dP]
    | cons u us =>
     cases j with
     | zero=>simp only[List.set_cons_zero,dP]; omega
     | succ j=>have:=ih us j; simp only[List.set_cons_succ,dP]; omega
  have key2:∀ (h:aG) (B:bY) (i:Nat),h[i]? = some (some cs)→B[i]? = some c→(∀ (i':Nat) cs' c',h[i']? = some (some cs')→B[i']? = some c'→i'≠i→aZ (w.setCell ⟨c.1,j,none⟩ v) c'.1=aZ w c'.1) →
   aJ (w.setCell ⟨c.1,j,none⟩ v) (h.set i (some (cs.set j p))) B b≤aJ w h B b+bF p v b:=by
   intro h
   induction h with
   | nil=>intro B i h1; simp at h1
   | cons x h ih =>
    intro B i h1 h2 h3
    cases B with
    | nil=>simp at h2
    | cons d B =>
     cases i with
     | zero =>
      simp at h1 h2; subst h1; subst h2
      have e1:=jJ (w':=w.setCell ⟨d.1,j,none⟩ v) (w:=w) (h:=h) (B:=B) b (fun i' cs' c' a1 a2=>h3 (i'+1) cs' c' (by simpa using a1) (by simpa using a2) (by omega))
      simp only[List.set_cons_zero,aJ]
      rw[e1,bM (kS hself),bM r1,Array.toList_setIfInBounds]
      have:=key cs vs.toList j
      omega
     | succ i =>
      simp at h1 h2
      have:=ih B i h1 h2 (fun i' cs' c' a1 a2 a3=>h3 (i'+1) cs' c' (by simpa using a1) (by simpa using a2) (by omega))
      cases x with
      | none=>simp only[List.set_cons_succ,aJ]; exact this
      | some ds =>
       have e:=h3 0 ds d rfl rfl (by omega)
       simp only[List.set_cons_succ,aJ]
       rw[e]; omega
  have:=key2 σ.h B i hi hc hcell
  simp only[fp]; omega
 have hpb:∀ b,bF p v b=1→b≠c.1:=fun b hb e=>by subst e; have:=hcnt c.1; omega
 refine ⟨⟨hI.size,fun b o u h => ?_,hI.srt,fun k q hq => ?_,⟨by simp[hI.heap.1],fun i' cs' hi' => ?_⟩,fun b=>by have:=hfp b; have:=hcnt b; omega,fun b hb => ?_⟩,hfp,⟨rfl,rfl,rfl,by simp[World.setCell],fun b hb h0=>⟨hoth b fun e=>by subst e; omega,fun _=>rfl⟩⟩,by simp[World.frozen?,o1],by simp[World.cell?,o1,hvj]⟩
 ·have hm:=hI.mem b o u h
  have hbc:b≠c.1:=fun e=>by subst e; rw[o5] at h; cases h
  exact ⟨(World.cell?_of_block (w:=w) (a:=⟨b,o,none⟩) (hoth b hbc)).trans hm.1,hm.2⟩
 ·obtain ⟨s1,s2,s3⟩:=hI.slots k q hq
  refine ⟨s1,s2,s3.kept fun b hb=>⟨hoth b fun e => ?_,fun _=>rfl⟩⟩
  subst e
  have e1:=pI (s:=σ.s) (t:=t) (k:=k) (b:=c.1)
  simp only[oN,hq] at e1
  have e2:=hI.cnt c.1
  have e3:=bP (w:=w) c.1 hi hc
  simp only[if_true] at e3
  simp only[fp] at e2
  omega
 ·by_cases hii:i'=i
  ·subst hii
   rw[List.getElem?_set_self (List.getElem?_eq_some_iff.1 hi).1] at hi'
   injection hi' with hi'; injection hi' with hi'; subst hi'
   refine ⟨c,hc,vs.setIfInBounds j v,ty+1,kS hself,by simpa using o2,by simpa using o3,fun j' q hq => ?_,o5⟩
   by_cases hjj:j=j'
   ·subst hjj
    rw[List.getElem?_set_self hj] at hq; injection hq with hq; subst hq
    exact ⟨v,by simp[hvj],hr,hT.kept fun b hb=>⟨hoth b (hpb b hb),fun _=>rfl⟩,h1⟩
   ·rw[List.getElem?_set_ne hjj] at hq
    obtain ⟨u,a1,a2,a3,a4⟩:=o4 j' q hq
    refine ⟨u,by rw[Array.getElem?_setIfInBounds_ne hjj]; exact a1,a2,a3.kept fun b hb=>⟨hoth b fun e => ?_,fun _=>rfl⟩,a4⟩
    subst e
    have e2:=hI.cnt c.1
    have e3:=bP (w:=w) c.1 hi hc
    have e4:=iF c.1 hq (by rw[bM r1]; simpa using a1:(aZ w c.1)[j']? = some u)
    simp only[if_true] at e3
    simp only[fp] at e2
    omega
  ·rw[List.getElem?_set_ne (Ne.symm hii)] at hi'
   obtain ⟨c',hc',vs',ty',a1,a2,a3,a4,a5⟩:=hI.heap.2 i' cs' hi'
   have hcc:=hne i' cs' c' hii hi' hc'
   refine ⟨c',hc',vs',ty',by rw[kT (hoth _ hcc)]; exact a1,a2,a3,fun j' q hq => ?_,a5⟩
   obtain ⟨u,b1,b2,b3,b4⟩:=a4 j' q hq
   refine ⟨u,b1,b2,b3.kept fun b hb=>⟨hoth b fun e => ?_,fun _=>rfl⟩,b4⟩
   subst e
   have key:∀ (h:aG) (B:bY) (i i':Nat),i≠i'→h[i]? = some (some cs)→B[i]? = some c→h[i']? = some (some cs')→B[i']? = some c'→2≤aJ w h B c.1:=by
    intro h
    induction h with
    | nil=>intro B i i' _ h1; simp at h1
    | cons x h ih =>
     intro B i i' hlt h1 h2 h3 h4
     have e4:=iF c.1 hq (by rw[bM a1]; simpa using b1:(aZ w c'.1)[j']? = some u)
     cases B with
     | nil=>simp at h2
     | cons d B =>
      cases i with
      | zero =>
       cases i' with
       | zero=>omega
       | succ i' =>
        simp at h1 h2 h3 h4; subst h1; subst h2
        have:=bP (w:=w) d.1 h3 h4
        rw[aJ,if_pos rfl]; omega
      | succ i =>
       simp at h1 h2
       cases i' with
       | zero =>
        simp at h3 h4; subst h3; subst h4
        have:=bP (w:=w) c.1 h1 h2
        simp only[if_true] at this
        rw[aJ]; omega
       | succ i' =>
        simp at h3 h4
        have:=ih B i i' (by omega) h1 h2 h3 h4
        cases x<;>rw[aJ]<;>omega
   have e2:=hI.cnt c.1
   have:=key σ.h B i i' (Ne.symm hii) hi hc hi' hc'
   simp only[fp] at e2
   omega
 ·have:=hfp b
  simp[World.setCell] at hb
  have e1:=hI.new b hb
  have e2:=hnew b hb
  omega
theorem Inv.setRow (hI:Inv n M B out σ t w) {i j:Nat} {cs:List PV} {c:Nat×Nat×TypeId} (hi:σ.h[i]? = some (some cs)) (hc:B[i]? = some c) {vs:Array Value} {T:Nat} (r1:rowAt w c.1=some (vs,T)) (hj:j<cs.length) {p:PV} {v:Value}
 (hr:Rep M B p v) (hT:Tl M w p v) (h1:v.oneCell'=true) (hcnt:∀ b,fp B σ t w b+bF p v b+out b≤1) (hnew:∀ b,w.heap.size≤b→bF p v b=0)
 {w':World} (hoth:∀ b,b≠c.1→w'.heap[b]? = w.heap[b]?) (hself:rowAt w' c.1=some (vs.setIfInBounds j v,T)) (hos:w'.os=w.os) (htp:w'.tape=w.tape) (hou:w'.output=w.output) (hsz:w'.heap.size=w.heap.size) :
 Inv n M B out { σ with h:=σ.h.set i (some (cs.set j p)) } t w'∧(∀ b,fp B { σ with h:=σ.h.set i (some (cs.set j p)) } t w' b≤fp B σ t w b+bF p v b) ∧
 Fr (fp B σ t w) M w M w':=by
 obtain ⟨vs',ty,r1',o2,o3,o4,o5⟩:=hI.heap.at hi hc
 rw[r1] at r1'
 injection r1' with r1'; injection r1' with e1 e2; subst e1; subst e2
 have hblk:1≤fp B σ t w c.1:=by
  have:=bP (w:=w) c.1 hi hc
  simp only[if_true] at this
  simp only[fp]; omega
 have hvj:j<vs.size:=by omega
 have hne:∀ (i':Nat) cs' c',i'≠i→σ.h[i']? = some (some cs')→B[i']? = some c'→c'.1≠c.1:=by
  have key:∀ (h:aG) (B:bY) (i i':Nat) cs cs' c c',i'<i→h[i]? = some (some cs)→B[i]? = some c→h[i']? = some (some cs')→B[i']? = some c'→c.1=c'.1→2≤aJ w h B c.1:=by
   intro h
   induction h with
   | nil=>intro B i i' cs cs' c c' _ h1; simp at h1
   | cons x h ih =>
    intro B i i' cs cs' c c' hlt h1 h2 h3 h4 he
    cases B with
    | nil=>simp at h2
    | cons d B =>
     cases i with
     | zero=>omega
     | succ i =>
      simp at h1 h2
      cases i' with
      | zero =>
       simp at h3 h4; subst h3; subst h4
       have:=bP (w:=w) c.1 h1 h2
       simp only[if_true] at this
       rw[aJ,if_pos he.symm]; omega
      | succ i' =>
       simp at h3 h4
       have:=ih B i i' cs cs' c c' (by omega) h1 h2 h3 h4 he
       cases x<;>rw[aJ]<;>omega
  intro i' cs' c' hii h1 h2 he
  have hc1:=hI.cnt c.1
  simp only[fp] at hc1
  rcases Nat.lt_or_ge i' i with hlt | hge
  ·have:=key σ.h B i i' cs cs' c c' hlt hi hc h1 h2 he.symm; omega
  ·have:=key σ.h B i' i cs' cs c' c (by omega) h1 h2 hi hc he; rw[he] at this; omega
 have hcell:∀ (i':Nat) cs' c',σ.h[i']? = some (some cs')→B[i']? = some c'→i'≠i→aZ w' c'.1=aZ w c'.1:=fun i' cs' c' h1 h2 hii=>jX (hoth _ (hne i' cs' c' hii h1 h2))
 have hfp:∀ b,fp B { σ with h:=σ.h.set i (some (cs.set j p)) } t w' b≤fp B σ t w b+bF p v b:=fun b=>by
  have key:∀ (cs:List PV) (us:List Value) (j:Nat),dP (cs.set j p) (us.set j v) b≤dP cs us b+bF p v b:=by
   intro cs
   induction cs with
   | nil=>intro us j; simp[dP]
   | cons q qs ih =>
    intro us j
    cases us with
    | nil=>simp[dP]
    | cons u us =>
     cases j with
     | zero=>simp only[List.set_cons_zero,dP]; omega
     | succ j=>have:=ih us j; simp only[List.set_cons_succ,dP]; omega
  have key2:∀ (h:aG) (B:bY) (i:Nat),h[i]? = some (some cs)→B[i]? = some c→(∀ (i':Nat) cs' c',h[i']? = some (some cs')→B[i']? = some c'→i'≠i→aZ w' c'.1=aZ w c'.1) →
   aJ w' (h.set i (some (cs.set j p))) B b≤aJ w h B b+bF p v b:=by
   intro h
   induction h with
   | nil=>intro B i h1; simp at h1
   | cons x h ih =>
    intro B i h1 h2 h3
    cases B with
    | nil=>simp at h2
    | cons d B =>
     cases i with
     | zero =>
      simp at h1 h2; subst h1; subst h2
      have e1:=jJ (w':=w') (w:=w) (h:=h) (B:=B) b (fun i' cs' c' a1 a2=>h3 (i'+1) cs' c' (by simpa using a1) (by simpa using a2) (by omega))
      simp only[List.set_cons_zero,aJ]
      rw[e1,bM (hself),bM r1,Array.toList_setIfInBounds]
      have:=key cs vs.toList j
      omega
     | succ i =>
      simp at h1 h2
      have:=ih B i h1 h2 (fun i' cs' c' a1 a2 a3=>h3 (i'+1) cs' c' (by simpa using a1) (by simpa using a2) (by omega))
      cases x with
      | none=>simp only[List.set_cons_succ,aJ]; exact this
      | some ds =>
       have e:=h3 0 ds d rfl rfl (by omega)
       simp only[List.set_cons_succ,aJ]
       rw[e]; omega
  have:=key2 σ.h B i hi hc hcell
  simp only[fp]; omega
 have hpb:∀ b,bF p v b=1→b≠c.1:=fun b hb e=>by subst e; have:=hcnt c.1; omega
 refine ⟨⟨hI.size,fun b o u h => ?_,hI.srt,fun k q hq => ?_,⟨by simp[hI.heap.1],fun i' cs' hi' => ?_⟩,fun b=>by have:=hfp b; have:=hcnt b; omega,fun b hb => ?_⟩,hfp,⟨hos,htp,hou,Nat.le_of_eq hsz.symm,fun b hb h0=>⟨hoth b fun e=>by subst e; omega,fun _=>rfl⟩⟩⟩
 ·have hm:=hI.mem b o u h
  have hbc:b≠c.1:=fun e=>by subst e; rw[o5] at h; cases h
  exact ⟨(World.cell?_of_block (w:=w) (a:=⟨b,o,none⟩) (hoth b hbc)).trans hm.1,hm.2⟩
 ·obtain ⟨s1,s2,s3⟩:=hI.slots k q hq
  refine ⟨s1,s2,s3.kept fun b hb=>⟨hoth b fun e => ?_,fun _=>rfl⟩⟩
  subst e
  have e1:=pI (s:=σ.s) (t:=t) (k:=k) (b:=c.1)
  simp only[oN,hq] at e1
  have e2:=hI.cnt c.1
  have e3:=bP (w:=w) c.1 hi hc
  simp only[if_true] at e3
  simp only[fp] at e2
  omega
 ·by_cases hii:i'=i
  ·subst hii
   rw[List.getElem?_set_self (List.getElem?_eq_some_iff.1 hi).1] at hi'
   injection hi' with hi'; injection hi' with hi'; subst hi'
   refine ⟨c,hc,vs.setIfInBounds j v,T,hself,by simpa using o2,by simpa using o3,fun j' q hq => ?_,o5⟩
   by_cases hjj:j=j'
   ·subst hjj
    rw[List.getElem?_set_self hj] at hq; injection hq with hq; subst hq
    exact ⟨v,by simp[hvj],hr,hT.kept fun b hb=>⟨hoth b (hpb b hb),fun _=>rfl⟩,h1⟩
   ·rw[List.getElem?_set_ne hjj] at hq
    obtain ⟨u,a1,a2,a3,a4⟩:=o4 j' q hq
    refine ⟨u,by rw[Array.getElem?_setIfInBounds_ne hjj]; exact a1,a2,a3.kept fun b hb=>⟨hoth b fun e => ?_,fun _=>rfl⟩,a4⟩
    subst e
    have e2:=hI.cnt c.1
    have e3:=bP (w:=w) c.1 hi hc
    have e4:=iF c.1 hq (by rw[bM r1]; simpa using a1:(aZ w c.1)[j']? = some u)
    simp only[if_true] at e3
    simp only[fp] at e2
    omega
  ·rw[List.getElem?_set_ne (Ne.symm hii)] at hi'
   obtain ⟨c',hc',vs',ty',a1,a2,a3,a4,a5⟩:=hI.heap.2 i' cs' hi'
   have hcc:=hne i' cs' c' hii hi' hc'
   refine ⟨c',hc',vs',ty',by rw[kT (hoth _ hcc)]; exact a1,a2,a3,fun j' q hq => ?_,a5⟩
   obtain ⟨u,b1,b2,b3,b4⟩:=a4 j' q hq
   refine ⟨u,b1,b2,b3.kept fun b hb=>⟨hoth b fun e => ?_,fun _=>rfl⟩,b4⟩
   subst e
   have key:∀ (h:aG) (B:bY) (i i':Nat),i≠i'→h[i]? = some (some cs)→B[i]? = some c→h[i']? = some (some cs')→B[i']? = some c'→2≤aJ w h B c.1:=by
    intro h
    induction h with
    | nil=>intro B i i' _ h1; simp at h1
    | cons x h ih =>
     intro B i i' hlt h1 h2 h3 h4
     have e4:=iF c.1 hq (by rw[bM a1]; simpa using b1:(aZ w c'.1)[j']? = some u)
     cases B with
     | nil=>simp at h2
     | cons d B =>
      cases i with
      | zero =>
       cases i' with
       | zero=>omega
       | succ i' =>
        simp at h1 h2 h3 h4; subst h1; subst h2
        have:=bP (w:=w) d.1 h3 h4
        rw[aJ,if_pos rfl]; omega
      | succ i =>
       simp at h1 h2
       cases i' with
       | zero =>
        simp at h3 h4; subst h3; subst h4
        have:=bP (w:=w) c.1 h1 h2
        simp only[if_true] at this
        rw[aJ]; omega
       | succ i' =>
        simp at h3 h4
        have:=ih B i i' (by omega) h1 h2 h3 h4
        cases x<;>rw[aJ]<;>omega
   have e2:=hI.cnt c.1
   have:=key σ.h B i i' (Ne.symm hii) hi hc hi' hc'
   simp only[fp] at e2
   omega
 ·have:=hfp b
  rw[hsz] at hb
  have e1:=hI.new b hb
  have e2:=hnew b hb
  omega
end
end Go.Proofs.YtcdceiloganlnaaGreatDoor
namespace Go.Proofs.YtcdceiloganlnaaGreatDoor
open Go.RowKit
structure TI where
 size:Nat
 bytes:Nat
 agg:Bool
 zero:List PV
def fF:Value→PV
 | .int k n => .int k n
 | .bool b => .bool b
 | .string s => .str s
 | .pointer none => .nilp
 | .slice none n c=>if n=0∧c=0 then .sl true 0 [] else .raw (.slice none n c)
 | .func fn f c=>if f.isEmpty∧c.isEmpty then .func fn [] [] else .raw (.func fn f c)
 | v => .raw v
def Z5 (z:Nat) (o:Bool) (es:List PV):PV:=match Nat.blt 1000000 z with
 | true => .slp o 0 (z-1000000) []
 | false => .sl o z es
def PV.resz (z:Nat):PV→PV
 | .sl o s es=>if s=0 then Z5 z o es else .sl o s es
 | p=>p
theorem a3H {M:Mem} {B:bY} {z:Nat} {o o':Bool} {es:List PV} {v:Value} (h:Rep M B (.sl o' 0 es) v):Rep M B (Z5 z o es) v:=by
 obtain ⟨A,c,rfl,h1,h2,h3,h4⟩:=rep_sl.1 h
 obtain ⟨h5,h6,h7⟩:=h3 rfl; subst h5
 unfold Z5
 split
 ·exact rep_slp.2 ⟨A,c,rfl,Nat.zero_le _⟩
 ·exact rep_sl.2 ⟨A,c,rfl,h1,by simp,fun _=>⟨rfl,h6,h7⟩,by simp⟩
theorem aER {z:Nat} {o:Bool} {es:List PV}:(Z5 z o es).own=o:=by unfold Z5; split<;>rfl
theorem aAA {M:Mem} {w:World} {z:Nat} {o:Bool} {es:List PV}:Tl M w (Z5 z o es) (.slice none es.length 0):=by
 unfold Z5
 split
 ·rename_i hz
  refine ⟨(fun _ _ _ _ _ e _=>by cases e),(fun _ _ _ _ e _=>by cases e),fun n sz cs A m cap e ev => ?_⟩
  cases e; cases ev
  rw[Nat.blt_eq] at hz
  exact ⟨⟨by simp,by omega⟩,fun _=>rfl,fun a h=>by cases h⟩
 ·refine Y8 (fun l h=>by cases h) ?_
  intro sz es' A n cap e ev
  injection ev with e1 e2 e3; subst e1; subst e3
  exact ⟨fun _=>rfl,fun _=>rfl,fun a h=>by cases h⟩
def KU (P:Program):Nat→TypeId→List Nat
 | 0,_ => []
 | k+1,t=>match P.underlying t with
  | some (.slice e) => [match P.info? e with | some i=>i.size | none=>0]
  | some (.struct fs)=>fs.toList.flatMap fun f=>KU P k f.type
  | some (.array n e)=>(List.replicate n (KU P k e)).flatten
  | _ => [0]
def Q4 (v:Value):Option PV:=if v.oneCell' then some (fF v) else none
def aF1:TypeDesc→Bool
 | .struct _=>true
 | .array _ _=>true
 | _=>false
def ti (P:Program) (t:TypeId):Option TI :=
 match P.info? t with
 | none=>none
 | some i=>match i.zero,P.underlying t with
  | some z,some d=>if z.cells.toList.all (·.oneCell')&&z.cells.size==i.size then some ⟨i.size,i.bytes,aF1 d,z.cells.toList.map fF⟩ else none
  | _,_=>none
def fieldsOf (P:Program) (t:TypeId):Option (List (Nat×Nat×Bool)) :=
 match P.underlying t with
 | some (.struct fs)=>fs.toList.mapM fun f=>(ti P f.type).map fun i=>(f.offset,i.size,i.agg)
 | _=>none
def jQ (P:Program) (t:TypeId):Option TypeId:=match P.underlying t with | some (.slice e)=>some e | _=>none
def dO (P:Program) (t:TypeId):Option TI:=(jQ P t).bind (ti P)
def JM (P:Program) (t:TypeId):Option (Nat×TI):=match P.underlying t with | some (.array n e)=>(ti P e).map fun i=>(n,i) | _=>none
theorem pW {M:Mem} {B:bY} {v:Value} (h:v.oneCell'=true):Rep M B (fF v) v:=by
 cases v with
 | int k n=>exact rep_int.2 rfl
 | bool b=>exact rep_bool.2 rfl
 | string s=>exact rep_str.2 rfl
 | pointer a=>cases a with
  | none=>exact rep_nilp.2 rfl
  | some a=>exact rep_raw.2 ⟨rfl,h⟩
 | slice a n c=>cases a with
  | none =>
   simp only[fF]
   split
   ·rename_i e; obtain ⟨rfl,rfl⟩:=e
    exact rep_sl.2 ⟨none,0,rfl,Nat.le_refl _,by simp,fun _=>⟨rfl,rfl,rfl⟩,by simp⟩
   ·exact rep_raw.2 ⟨rfl,h⟩
  | some a=>exact rep_raw.2 ⟨rfl,h⟩
 | func fn f c =>
  simp only[fF]
  split
  ·rename_i e
   obtain ⟨h1,h2⟩:=e
   have h1':f = #[]:=by simpa using h1
   have h2':c = #[]:=by simpa using h2
   subst h1'; subst h2'
   exact rep_func.2 ⟨#[],#[],rfl,reps_nil.2 rfl,reps_nil.2 rfl⟩
  ·exact rep_raw.2 ⟨rfl,h⟩
 | _=>exact rep_raw.2 ⟨rfl,h⟩
theorem a4N (v:Value):(fF v).own=true→v = .slice none 0 0:=by
 intro h
 cases v with
 | slice a n c=>cases a with
  | none =>
   simp only[fF] at h
   split at h
   ·rename_i e; obtain ⟨rfl,rfl⟩:=e; rfl
   ·simp[PV.own] at h
  | some a=>simp[fF,PV.own] at h
 | pointer a=>cases a<;>simp[fF,PV.own] at h
 | func fn f c =>
  simp only[fF] at h
  split at h<;>simp[PV.own] at h
 | _=>simp[fF,PV.own] at h
theorem LH (v:Value) (b:Nat):bF (fF v) v b=0:=by
 unfold bF
 split
 ·rename_i h; rw[a4N v h]
 ·rfl
theorem aI5 (v:Value) (l:List UInt8):fF v ≠ .slT l:=by
 unfold fF; split<;>first | (intro h; cases h; done) | (split<;>(intro h; cases h))
theorem aEZ (v:Value) (n z:Nat) (cs:List PV):fF v ≠ .slp true n z cs:=by
 unfold fF; split<;>first | (intro h; cases h; done) | (split<;>(intro h; cases h))
theorem a0I {M:Mem} {w:World} (v:Value):Tl M w (fF v) v:=by
 refine Y8 (aI5 v) ?_ (aEZ v)
 intro sz es A n cap e ev
 have:=a4N v (by rw[e]; rfl)
 rw[ev] at this
 simp at this
 obtain ⟨rfl,_,rfl⟩:=this
 exact ⟨fun _=>rfl,fun _=>rfl,fun a h=>by cases h⟩
theorem a4R {M:Mem} {B:bY} {p:PV} {v:Value} (z:Nat) (h:Rep M B p v):Rep M B (p.resz z) v:=by
 cases p with
 | sl o s es =>
  rw[PV.resz]
  split
  ·rename_i e; subst e; exact a3H h
  ·exact h
 | _=>exact h
theorem aFY (z:Nat) (p:PV):(p.resz z).own=p.own:=by
 cases p with
 | sl o s es =>
  rw[PV.resz]
  split
  ·exact aER
  ·rfl
 | _=>rfl
theorem FQ {M:Mem} {B:bY} {o:Bool} {es:List PV} {v:Value} (h:Rep M B (.sl o 0 es) v):v = .slice none 0 0∧es = []:=by
 obtain ⟨A,c,rfl,h1,h2,h3,h4⟩:=rep_sl.1 h
 obtain ⟨h5,h6,h7⟩:=h3 rfl
 subst h5; subst h6; subst h7
 exact ⟨rfl,rfl⟩
theorem aK' {M:Mem} {B:bY} {w:World} {p:PV} {v:Value} (z:Nat) (hr:Rep M B p v) (h:Tl M w p v):Tl M w (p.resz z) v:=by
 cases p with
 | sl o s es =>
  rw[PV.resz]
  split
  ·rename_i e; subst e
   obtain ⟨rfl,rfl⟩:=FQ hr
   exact aAA
  ·exact h
 | _=>exact h
def a3C:List Nat→List PV→List PV
 | z::zs,p::ps=>p.resz z::a3C zs ps
 | _,ps=>ps
def PV.reszT (zs:List Nat):PV→PV
 | .agg cs => .agg (a3C zs cs)
 | p=>p.resz (zs.headD 0)
theorem WI {M:Mem} {B:bY}:∀ {zs:List Nat} {ps:List PV} {vs:List Value},Reps M B ps vs→Reps M B (a3C zs ps) vs
 | [],ps,vs,h=>by cases ps<;>exact h
 | z::zs,[],vs,h=>h
 | z::zs,p::ps,vs,h=>by
  obtain ⟨u,us,rfl,h1,h2⟩:=reps_cons.1 h
  exact reps_cons.2 ⟨u,us,rfl,a4R z h1,WI h2⟩
theorem wI {M:Mem} {B:bY} {p:PV} {v:Value} (zs:List Nat) (h:Rep M B p v):Rep M B (p.reszT zs) v:=by
 cases p with
 | agg cs=>obtain ⟨vs,rfl,hr⟩:=rep_agg.1 h; exact rep_agg.2 ⟨vs,rfl,WI hr⟩
 | _=>exact a4R (zs.headD 0) h
theorem XR (zs:List Nat) (p:PV):(p.reszT zs).own=p.own:=by
 cases p with
 | agg cs=>rfl
 | sl o s es=>exact aFY (zs.headD 0) (.sl o s es)
 | _=>rfl
theorem U3 (zs:List Nat) (p:PV) (v:Value) (b:Nat):bF (p.reszT zs) v b=bF p v b:=by unfold bF; rw[XR]
theorem a1G {M:Mem} {B:bY} {w:World} {p:PV} {v:Value} (zs:List Nat) (hr:Rep M B p v) (h:Tl M w p v):Tl M w (p.reszT zs) v:=by
 cases p with
 | agg cs=>exact cO rfl
 | _=>exact aK' (zs.headD 0) hr h
def PV.own1 (z:Nat):PV→PV
 | .sl o s es=>if s=0 then Z5 z true es else .sl o s es
 | p=>p
def EY:List Nat→List PV→List PV
 | z::zs,p::ps=>p.own1 z::EY zs ps
 | _,ps=>ps
theorem aFK {M:Mem} {B:bY} {p:PV} {v:Value} (z:Nat) (h:Rep M B p v):Rep M B (p.own1 z) v:=by
 cases p with
 | sl o s es =>
  rw[PV.own1]
  split
  ·rename_i e; subst e; exact a3H h
  ·exact h
 | _=>exact h
theorem aRG {M:Mem} {B:bY} {w:World} {p:PV} {v:Value} (z:Nat) (hr:Rep M B p v) (h:Tl M w p v):Tl M w (p.own1 z) v:=by
 cases p with
 | sl o s es =>
  rw[PV.own1]
  split
  ·rename_i e; subst e
   obtain ⟨rfl,rfl⟩:=FQ hr
   exact aAA
  ·exact h
 | _=>exact h
theorem aED {M:Mem} {B:bY} {p:PV} {v:Value} (z:Nat) (hr:Rep M B p v) (b:Nat):bF (p.own1 z) v b=bF p v b:=by
 cases p with
 | sl o s es =>
  rw[PV.own1]
  split
  ·rename_i e; subst e
   obtain ⟨rfl,rfl⟩:=FQ hr
   unfold bF
   split<;>simp
  ·rfl
 | _=>rfl
theorem O4 {M:Mem} {B:bY} {v:Value} {p:PV} (h:Q4 v=some p):Rep M B p v∧(∀ b,bF p v b=0)∧∀ w,Tl M w p v:=by
 unfold Q4 at h
 split at h
 ·rename_i h1; cases h; exact ⟨pW h1,LH v,fun w=>a0I v⟩
 ·cases h
structure TIs (P:Program) (t:TypeId) (I:TI) (i:TypeInfo) (z:Value) (d:TypeDesc):Prop where
 info:P.info? t=some i
 zero:i.zero=some z
 und:P.underlying t=some d
 one:∀ v,v∈z.cells→v.oneCell'=true
 zsize:z.cells.size=i.size
 size:I.size=i.size
 bytes:I.bytes=i.bytes
 agg:I.agg=aF1 d
 izero:I.zero=z.cells.toList.map fF
theorem qY {P:Program} {t:TypeId} {I:TI} (h:ti P t=some I):∃ i z d,TIs P t I i z d:=by
 unfold ti at h
 split at h
 ·cases h
 ·rename_i i hi
  split at h
  ·rename_i z d hz hd
   split at h
   ·rename_i hc
    cases h
    simp only[Bool.and_eq_true,List.all_eq_true,beq_iff_eq] at hc
    exact ⟨i,z,d,hi,hz,hd,fun v hv=>hc.1 v (by simpa using hv),hc.2,rfl,rfl,rfl,rfl⟩
   ·cases h
  ·cases h
section
variable {P:Program} {t:TypeId} {I:TI} {i:TypeInfo} {z:Value} {d:TypeDesc}
theorem TIs.run_sizeOf (h:TIs P t I i z d) (w:World):(sizeOf t).run P w = .ok I.size w:=by simp[sizeOf,typeInfo,h.info,h.size]
theorem TIs.run_isAgg (h:TIs P t I i z d) (w:World):(isAgg t).run P w = .ok I.agg w:=by
 unfold isAgg
 rw[Sem.run_bind,run_underlying h.und w,h.agg]
 cases d<;>rfl
theorem TIs.run_zeroValue (h:TIs P t I i z d) (w:World):(zeroValue t).run P w = .ok z w:=by simp[zeroValue,typeInfo,h.info,h.zero]
end
theorem a4L {α β:Type} (f:α→Option β):∀ {l:List α} {r:List β},l.mapM f=some r→∀ {j:Nat} {y:β},r[j]? = some y→∃ x,l[j]? = some x∧f x=some y
 | [],r,h,j,y,hy=>by simp at h; subst h; simp at hy
 | a::l,r,h,j,y,hy=>by
  rw[List.mapM_cons] at h
  cases hf:f a with
  | none=>simp[hf] at h
  | some b =>
   cases hm:l.mapM f with
   | none=>simp[hf,hm] at h
   | some bs =>
    simp[hf,hm] at h
    subst h
    cases j with
    | zero=>simp at hy; subst hy; exact ⟨a,rfl,hf⟩
    | succ j=>obtain ⟨x,h1,h2⟩:=a4L f hm (by simpa using hy); exact ⟨x,by simpa using h1,h2⟩
theorem NK {P:Program} {t:TypeId} {fs:List (Nat×Nat×Bool)} (h:fieldsOf P t=some fs) {j:Nat} {o z:Nat} {g:Bool} (hj:fs[j]? = some (o,z,g)) :
 ∃ Fs f I i zv d,P.underlying t=some (.struct Fs)∧Fs[j]? = some f∧f.offset=o∧TIs P f.type I i zv d∧I.size=z∧I.agg=g:=by
 unfold fieldsOf at h
 split at h
 ·rename_i Fs hu
  obtain ⟨f,hf,hm⟩:=a4L _ h hj
  cases ht:ti P f.type with
  | none=>simp[ht] at hm
  | some I =>
   simp[ht] at hm
   obtain ⟨i,zv,d,hT⟩:=qY ht
   exact ⟨Fs,f,I,i,zv,d,hu,by simpa using hf,hm.1,hT,hm.2.1,hm.2.2⟩
 ·cases h
theorem gZ {P:Program} {t:TypeId} {I:TI} (h:dO P t=some I):∃ e i z d,P.underlying t=some (.slice e)∧TIs P e I i z d:=by
 unfold dO jQ at h
 split at h
 ·rename_i e hu
  obtain ⟨i,z,d,hT⟩:=qY (by simpa using h)
  exact ⟨e,i,z,d,hu,hT⟩
 ·simp at h
theorem IK {P:Program} {t:TypeId} {n:Nat} {I:TI} (h:JM P t=some (n,I)):∃ e i z d,P.underlying t=some (.array n e)∧TIs P e I i z d:=by
 unfold JM at h
 split at h
 ·rename_i m e hu
  cases ht:ti P e with
  | none=>simp[ht] at h
  | some I' =>
   simp[ht] at h
   obtain ⟨rfl,rfl⟩:=h
   obtain ⟨i,z,d,hT⟩:=qY ht
   exact ⟨e,i,z,d,hu,hT⟩
 ·cases h
def PV.one:PV→Bool
 | .agg _=>false
 | .tuple _=>false
 | _=>true
def lL (cs:List PV) (o z:Nat) (g:Bool):Option PV :=
 if g then (if o+z≤cs.length then some (.agg ((cs.drop o).take z)) else none) else (cs[o]?).bind fun p=>if p.one then some p.un else none
def JC (q:PV) (o z:Nat) (g:Bool):Option PV :=
 match q with
 | .ptr i off=>some (.ptr i (off+o))
 | .cst (.agg cs)=>(lL cs o z g).map .cst
 | _=>none
def LK (op:BinOp) (k:IntKind) (a b:Int):Option PV :=
 match op with
 | .add=>some (.int k (k.wrap (a+b)))
 | .sub=>some (.int k (k.wrap (a-b)))
 | .mul=>some (.int k (k.wrap (a*b)))
 | .quo=>if b=0 then none else some (.int k (k.wrap (a.tdiv b)))
 | .rem=>if b=0 then none else some (.int k (a.tmod b))
 | .and=>some (.int k (k.wrap (BitVec.ofInt k.bits a &&& BitVec.ofInt k.bits b).toNat))
 | .or=>some (.int k (k.wrap (BitVec.ofInt k.bits a ||| BitVec.ofInt k.bits b).toNat))
 | .eql=>some (.bool (a==b))
 | .neq=>some (.bool (a != b))
 | .lss=>some (.bool (decide (a<b)))
 | .leq=>some (.bool (decide (a≤b)))
 | .gtr=>some (.bool (decide (b<a)))
 | .geq=>some (.bool (decide (b≤a)))
 | _=>none
def wP (op:BinOp) (k:IntKind) (a b:Int):Option PV :=
 if b<0 then none else match op with
 | .shl=>some (.int k (k.wrap (a*2 ^ min b.toNat k.bits)))
 | .shr=>some (.int k (a.fdiv (2 ^ min b.toNat k.bits)))
 | _=>none
def UG (op:BinOp) (a b:ByteArray):Option PV :=
 match op with
 | .add=>if a.size+b.size≤iP then some (.str (a ++ b)) else none
 | .eql=>some (.bool (a.toList==b.toList))
 | .neq=>some (.bool (!(a.toList==b.toList)))
 | _=>none
def ZC (op:BinOp) (a b:Bool):Option PV :=
 match op with
 | .eql=>some (.bool (a==b))
 | .neq=>some (.bool (!(a==b)))
 | _=>none
def sG (op:BinOp) (is:Bool):Option PV :=
 match op with
 | .eql=>some (.bool is)
 | .neq=>some (.bool (!is))
 | _=>none
def YY (P:Program) (t:TypeId):Bool:=P.underlying t matches some .bool
def Q8 (P:Program) (t:TypeId):Bool:=P.underlying t matches some (.pointer _)
def D5 (P:Program) (t:TypeId):Bool:=P.underlying t matches some (.func _ _ _)
def kC (P:Program) (t:TypeId):Bool:=P.underlying t matches some .string
def b0A (P:Program) (t:TypeId):Option IntKind:=match P.underlying t with | some (.int k)=>some k | _=>none
def aE' (P:Program) (E:TypeId→PV→PV→Option Bool) (cs ds:List PV):List Field→Option Bool
 | []=>some true
 | f::fs=>if f.name = "_" then none else match ti P f.type with
  | some I=>(match lL cs f.offset I.size I.agg,lL ds f.offset I.size I.agg with
   | some p,some q=>(match E f.type p q,aE' P E cs ds fs with
    | some b,some r=>some (b&&r)
    | _,_=>none)
   | _,_=>none)
  | none=>none
def aCG (P:Program):Nat→TypeId→PV→PV→Option Bool
 | 0,_,_,_=>none
 | k+1,t,x,y=>match P.underlying t,x,y with
  | some (.int _),.int q a,.int q' b=>if q=q' then some (a==b) else none
  | some .bool,.bool a,.bool b=>some (a==b)
  | some .string,.str a,.str b=>some (a.toList==b.toList)
  | some (.struct fs),.agg cs,.agg ds=>if P.stoodInHeld t=true then none else aE' P (aCG P k) cs ds fs.toList
  | _,_,_=>none
def BA (P:Program) (op:BinOp) (t:TypeId) (x y:PV):Option PV :=
 match x,y with
 | .int k a,.int k' b =>
  (match op with
  | .shl | .shr=>wP op k a b
  | _=>if k=k' then LK op k a b else none)
 | .str a,.str b=>UG op a b
 | .bool a,.bool b=>if YY P t then ZC op a b else none
 | .ptr _ _,.nilp=>if Q8 P t then sG op false else none
 | .cst _,.nilp=>if Q8 P t then sG op false else none
 | .nilp,.nilp=>if Q8 P t then sG op true else none
 | .func _ _ _,.raw .nilFunc=>if D5 P t then sG op false else none
 | .raw .nilFunc,.raw .nilFunc=>if D5 P t then sG op true else none
 | .agg cs,.agg ds=>if P.eqGuardType P.depth t=true then none else (aCG P 12 t (.agg cs) (.agg ds)).bind (sG op)
 | _,_=>none
def aKN (op:UnOp) (x:PV):Option PV :=
 match op,x with
 | .neg,.int k n=>some (.int k (k.wrap (0-n)))
 | .not,.bool b=>some (.bool (!b))
 | _,_=>none
def a9K (x:PV) (i:Nat):Option PV:=match x with | .tuple ps=>(ps[i]?).map PV.un | _=>none
def aB7 (P:Program) (t:TypeId) (x:PV):Option PV :=
 match x with
 | .str s=>if kC P t then some (.int .i64 s.size) else none
 | .sl _ _ es=>(jQ P t).map fun _ => .int .i64 es.length
 | .slh _ _ n _=>(jQ P t).map fun _ => .int .i64 n
 | .slp _ n _ _=>(jQ P t).map fun _ => .int .i64 n
 | _=>none
def isByte:PV→Bool
 | .int k _=>k == .u8
 | _=>false
def PY:PV→Int
 | .int _ n=>n
 | _=>0
def a5C (es:List PV):Bool:=es.all isByte
def strOf (es:List PV):ByteArray:=(es.map PY).foldl (fun r n=>r.push (UInt8.ofNat n.toNat)) ByteArray.empty
def vV (P:Program) (s:TypeId):Bool:=match P.underlying s with
 | some (.slice e)=>(match P.underlying e with | some (.int k)=>k == .u8 | _=>false)
 | _=>false
def RI (P:Program) (s d:TypeId) (x:PV):Option PV :=
 match x with
 | .sl _ _ es=>if vV P s=true∧kC P d=true∧a5C es=true then some (.str (strOf es)) else none
 | .int _ n=>match b0A P d with | some k=>(match P.underlying s with | some _=>some (.int k (k.wrap n)) | none=>none) | none=>none
 | .str a=>match P.underlying s,P.underlying d with | some .string,some .string=>some (.str a) | _,_=>none
 | _=>none
def aC0:List PV→Option PV
 | [.int k a,.int k' b]=>if k=k' then some (.int k (if b<a then b else a)) else none
 | _=>none
def aBZ:List PV→Option PV
 | [.int k a,.int k' b]=>if k=k' then some (.int k (if b>a then b else a)) else none
 | [.int k a,.int k1 b,.int k2 c,.int k3 d]=>if k=k1∧k=k2∧k=k3 then some (.int k (if d>(if c>(if b>a then b else a) then c else (if b>a then b else a)) then d else (if c>(if b>a then b else a) then c else (if b>a then b else a)))) else none
 | _=>none
def iV (P:Program) (t:TypeId) (x:PV) (lo hi:Option PV):Option PV :=
 let bound (d:Nat):Option PV→Option Int
  | none=>some d
  | some (.int _ n)=>some n
  | _=>none
 match x with
 | .str s=>match bound 0 lo,bound s.size hi with
  | some l,some h=>if kC P t∧0≤l∧l≤h∧h≤s.size then some (.str (s.extract l.toNat h.toNat)) else none
  | _,_=>none
 | .sl _ sz es=>match bound 0 lo,bound es.length hi with
  | some l,some h=>if (dO P t).map TI.size=some sz∧0≤l∧l≤h∧h≤es.length then some (.sl false sz ((es.take h.toNat).drop l.toNat)) else none
  | _,_=>none
 | .slh i off n sz=>match bound 0 lo,bound n hi with
  | some l,some h=>if (dO P t).map TI.size=some sz∧0≤l∧l≤h∧h≤n∧0<sz then (if l<n then some (.slh i (off+l.toNat*sz) (h.toNat-l.toNat) sz) else some (.sl false sz [])) else none
  | _,_=>none
 | _=>none
def IB (P:Program) (t:TypeId) (x a b c:PV):Option PV :=
 match x,a,b,c with
 | .sl _ sz es,.int _ l,.int _ h,.int _ m=>if (dO P t).map TI.size=some sz∧0≤l∧l≤h∧h≤m∧m≤es.length then some (.sl false sz ((es.take h.toNat).drop l.toNat)) else none
 | _,_,_,_=>none
def bQ:List (Option PV)→Option (List PV)
 | []=>some []
 | none::_=>none
 | some p::l=>(bQ l).map (p :: ·)
def PV.newCells (p:PV):Option (List PV):=match p with | .agg ds=>if ds.all PV.one then some (ds.map PV.un) else none | q=>if q.one then some [q.un] else none
def yA (place:Nat→Option (Nat×Nat)):List PV→List (Nat×PV)→Option (List PV)
 | cs,[]=>some cs
 | cs,(i,p)::ps=>match place i,p.newCells with
  | some (o,z),some new=>if new.length=z∧o+z≤cs.length then yA place (cs.take o ++ new ++ cs.drop (o+z)) ps else none
  | _,_=>none
def iG (rd:Operand→Option PV):List (Nat×Operand)→Option (List (Nat×PV))
 | []=>some []
 | (i,x)::l=>match rd x,iG rd l with
  | some p,some ps=>some ((i,p)::ps)
  | _,_=>none
def qZ (P:Program) (rd:Operand→Option PV) (c:Call):Option PV :=
 match c.callee with
 | .builtin .len=>(match c.args.toList,c.argTypes.toList with
  | [x],[t]=>(rd x).bind (aB7 P t)
  | _,_=>none)
 | .builtin .min=>(bQ (c.args.toList.map rd)).bind aC0
 | .builtin .max=>(bQ (c.args.toList.map rd)).bind aBZ
 | _=>none
def pop (P:Program) (rd:Operand→Option PV):Op→Option PV
 | .move x=>rd x
 | .assign x=>rd x
 | .pick c a b=>match rd c with
  | some (.bool c)=>if c then rd a else rd b
  | _=>none
 | .fieldAddr s x f=>match fieldsOf P s,rd x with
  | some fs,some q=>(fs[f]?).bind fun (o,z,g)=>if z=0 then none else JC q o z g
  | _,_=>none
 | .field s x f=>match fieldsOf P s,rd x with
  | some fs,some (.agg cs)=>(fs[f]?).bind fun (o,z,g)=>lL cs o z g
  | _,_=>none
 | .indexAddr t x i=>match rd x,rd i with
  | some (.sl _ sz es),some (.int _ n)=>if (dO P t).map TI.size=some sz∧0≤n then (es[n.toNat]?).map .cst else none
  | some (.slh i off m sz),some (.int _ n)=>if (dO P t).map TI.size=some sz∧0≤n∧n<m then some (.ptr i (off+n.toNat*sz)) else none
  | some (.ptr i off),some (.int _ n)=>match JM P t with
   | some (m,I)=>if 0≤n∧n<m then some (.ptr i (off+n.toNat*I.size)) else none
   | none=>none
  | some (.cst (.agg cs)),some (.int _ n)=>match JM P t with
   | some (m,I)=>if 0≤n∧n<m then (lL cs (n.toNat*I.size) I.size I.agg).map .cst else none
   | none=>none
  | _,_=>none
 | .index t x i=>match rd x,rd i with
  | some (.str s),some (.int _ n)=>if kC P t∧0≤n then (s[n.toNat]?).map fun b => .int .u8 b.toNat else none
  | some (.agg cs),some (.int _ n)=>match JM P t with
   | some (m,I)=>if 0≤n∧n<m then lL cs (n.toNat*I.size) I.size I.agg else none
   | none=>none
  | _,_=>none
 | .slice t x lo hi none=>match rd x with
  | some q=>match lo,hi with
   | none,none=>iV P t q none none
   | some l,none=>(rd l).bind fun a=>iV P t q (some a) none
   | none,some h=>(rd h).bind fun b=>iV P t q none (some b)
   | some l,some h=>(rd l).bind fun a=>(rd h).bind fun b=>iV P t q (some a) (some b)
  | none=>none
 | .slice t x (some l) (some h) (some m)=>match rd x,rd l,rd h,rd m with
  | some q,some a,some b,some c=>IB P t q a b c
  | _,_,_,_=>none
 | .binOp op t x y _=>match rd x,rd y with
  | some a,some b=>BA P op t a b
  | _,_=>none
 | .unOp op _ x=>(rd x).bind (aKN op)
 | .convert s d x=>(rd x).bind (RI P s d)
 | .makeFunc fn first caps=>match bQ (first.toList.map rd),bQ (caps.toList.map rd) with
  | some f,some c=>some (.func fn f c)
  | _,_=>none
 | .extract x i=>(rd x).bind (a9K · i)
 | .nilCheck x=>match rd x with
  | some (.ptr i o)=>some (.ptr i o)
  | some (.cst e)=>some (.cst e)
  | some (.func (.func f) a b)=>some (.func (.func f) a b)
  | _=>none
 | .build t ps=>match ti P t,iG rd ps.toList with
  | some I,some qs=>match fieldsOf P t,JM P t with
   | some fs,none=>(yA (fun i=>(fs[i]?).map fun f=>(f.1,f.2.1)) (I.zero.map PV.un) qs).map .agg
   | none,some (_,J)=>(yA (fun i=>some (i*J.size,J.size)) (I.zero.map PV.un) qs).map .agg
   | _,_=>none
  | _,_=>none
 | .call c=>qZ P rd c
 | _=>none
end Go.Proofs.YtcdceiloganlnaaGreatDoor
namespace Go.Proofs.YtcdceiloganlnaaGreatDoor
open Go.RowKit
section
variable {P:Program} {M:Mem} {B:bY}
theorem nT {cs:List PV} {vs:List Value} (h:Reps M B cs vs) (o z:Nat):Reps M B ((cs.drop o).take z) ((vs.drop o).take z):=by
 have hl:=bC h
 refine uO (by simp[hl]) fun j p u hp hu => ?_
 rw[List.getElem?_take] at hp hu
 split at hp
 ·rename_i hj
  rw[if_pos hj] at hu
  rw[List.getElem?_drop] at hp hu
  obtain ⟨u',h1,h2⟩:=fB h hp
  rw[h1] at hu; cases hu; exact h2
 ·cases hp
theorem extract_toList (cs:Array Value) (o z:Nat):(cs.extract o (o+z)).toList=(cs.toList.drop o).take z:=by
 simp[Array.toList_extract,List.extract_eq_take_drop]
theorem a7X (p:PV):p.un.one=p.one:=by cases p<;>rfl
theorem yF {cs:List PV} {vs:Array Value} (h:Reps M B cs vs.toList) {t:TypeId} {I:TI} {i:TypeInfo} {zv:Value} {d:TypeDesc} (hT:TIs P t I i zv d) {o:Nat} {p:PV} (hs:lL cs o I.size I.agg=some p) (w:World) :
 ∃ v,(part t vs o).run P w = .ok v w∧Rep M B p v∧p.own=false:=by
 unfold lL at hs
 unfold part
 rw[Sem.run_bind,hT.run_isAgg w]
 split at hs
 ·rename_i hg
  split at hs
  ·cases hs
   simp only[hg,if_true,Result.andThen_ok,Sem.run_bind,hT.run_sizeOf w,Sem.run_pure]
   exact ⟨_,rfl,rep_agg.2 ⟨_,rfl,by rw[extract_toList]; exact nT h _ _⟩,rfl⟩
  ·cases hs
 ·rename_i hg
  cases hc:cs[o]? with
  | none=>simp[hc] at hs
  | some q =>
   simp only[hc,Option.bind_some] at hs
   split at hs
   ·cases hs
    obtain ⟨u,hu,hr⟩:=fB h hc
    have hu':vs[o]? = some u:=by simpa using hu
    have hg':I.agg=false:=by simpa using hg
    simp only[hg',Bool.false_eq_true,if_false,Result.andThen_ok,hu']
    exact ⟨u,rfl,rep_un.2 hr,iM q⟩
   ·cases hs
theorem iC {p:PV} (h1:p.one=true) {b o:Nat}:Loc M B p b o↔∃ u,M b o=some u∧Rep M B p u :=
 jD (by cases p<;>first | rfl | (simp[PV.one] at h1)) (fun cs e=>by subst e; simp[PV.one] at h1)
theorem V8 {cs:List PV} {b off:Nat} (h:Cells M B cs b off) {o z:Nat} {g:Bool} {p:PV} (hs:lL cs o z g=some p):Loc M B p b (off+o):=by
 unfold lL at hs
 split at hs
 ·split at hs
  ·cases hs
   refine loc_agg.2 (nG fun j q hq => ?_)
   rw[List.getElem?_take] at hq
   split at hq
   ·rw[List.getElem?_drop] at hq
    have:=rX h hq
    rwa [show off+(o+j)=off+o+j by omega] at this
   ·cases hq
  ·cases hs
 ·cases hc:cs[o]? with
  | none=>simp[hc] at hs
  | some q =>
   simp only[hc,Option.bind_some] at hs
   split at hs
   ·rename_i h1
    cases hs
    rw[a9C]
    exact (iC h1).2 (rX h hc)
   ·cases hs
theorem add_lit (b o k:Nat):(⟨b,o,none⟩:Addr).add k=⟨b,o+k,none⟩:=by unfold Addr.add; split<;>simp_all
theorem a3G {q:PV} {v:Value} (hq:Rep M B q v) {s:TypeId} {fs:List (Nat×Nat×Bool)} (hf:fieldsOf P s=some fs) {f o z:Nat} {g:Bool} (hj:fs[f]? = some (o,z,g)) (hz:z≠0) {p:PV} (hs:JC q o z g=some p) (w:World) :
 ∃ u,(Instr.fieldAt s v f).run P w = .ok u w∧Rep M B p u∧p.own=false:=by
 obtain ⟨Fs,F,I,i,zv,d,hu,hF,ho,hT,hsz,hg⟩:=NK hf hj
 subst ho; subst hsz; subst hg
 have run:∀ b off,(Instr.fieldAt s (.pointer (some ⟨b,off,none⟩)) f).run P w = .ok (.pointer (some ⟨b,off+F.offset,none⟩)) w:=fun b off=>by
  simp[Instr.fieldAt,run_underlying hu,hF,Instr.sureAddr,fieldPlace,hT.run_sizeOf w,hz,add_lit]
 unfold JC at hs
 split at hs
 ·rename_i i off
  cases hs
  obtain ⟨c,hc,rfl⟩:=rep_ptr.1 hq
  exact ⟨_,run _ _,rep_ptr.2 ⟨c,hc,rfl⟩,rfl⟩
 ·rename_i cs
  cases hv:lL cs F.offset I.size I.agg with
  | none=>simp[hv] at hs
  | some r =>
   simp[hv] at hs; subst hs
   obtain ⟨b,off,rfl,hl⟩:=rep_cst.1 hq
   exact ⟨_,run _ _,rep_cst.2 ⟨b,_,rfl,V8 (loc_agg.1 hl) hv⟩,rfl⟩
 ·cases hs
theorem a5T {op:BinOp} {k:IntKind} {a b:Int} {p:PV} (h:LK op k a b=some p) (hop:op ≠ .shl∧op ≠ .shr) (t:TypeId) (w:World) :
 ∃ v,(binOp op t (.int k a) (.int k b)).run P w = .ok v w∧Rep M B p v∧p.own=false:=by
 cases op<;>simp only[LK,reduceCtorEq] at h<;>first
  | (cases h; exact ⟨_,by simp[binOp,Op.intArith,Op.intBits,Op.intCmp]; first | rfl | done,by first | exact rep_int.2 rfl | exact rep_bool.2 rfl,rfl⟩)
  | (split at h; exact absurd h (by simp); rename_i h0; cases h; exact ⟨_,by simp[binOp,Op.intDiv,h0]; first | rfl | done,by first | exact rep_int.2 rfl | exact rep_bool.2 rfl,rfl⟩)
  | (exact absurd rfl hop.1)
  | (exact absurd rfl hop.2)
theorem JF {op:BinOp} {k k':IntKind} {a b:Int} {p:PV} (h:wP op k a b=some p) (t:TypeId) (w:World) :
 ∃ v,(binOp op t (.int k a) (.int k' b)).run P w = .ok v w∧Rep M B p v∧p.own=false:=by
 unfold wP at h
 split at h
 ·cases h
 ·rename_i hb
  cases op<;>simp only[reduceCtorEq] at h
  ·cases h; exact ⟨_,by simp[binOp,Op.shift,hb],rep_int.2 rfl,rfl⟩
  ·cases h; exact ⟨_,by simp[binOp,Op.shift,hb],rep_int.2 rfl,rfl⟩
theorem a8Z {op:BinOp} {a b:ByteArray} {p:PV} (h:UG op a b=some p) (t:TypeId) (w:World) :
 ∃ v,(binOp op t (.string a) (.string b)).run P w = .ok v w∧Rep M B p v∧p.own=false:=by
 cases op<;>simp only[UG,reduceCtorEq] at h
 ·split at h
  ·rename_i hl
   cases h
   have h':¬ (((a.size+b.size:Nat):Int)>IntKind.i64.max):=by
    have:IntKind.i64.max=9223372036854775807:=by decide
    rw[this]; unfold iP at hl; omega
   refine ⟨_,?_,rep_str.2 rfl,rfl⟩
   simp only[binOp,Op.stringOp,if_neg h']
   rfl
  ·cases h
 ·cases h; exact ⟨_,rfl,rep_bool.2 rfl,rfl⟩
 ·cases h; exact ⟨_,rfl,rep_bool.2 rfl,rfl⟩
theorem gU {op:BinOp} {t:TypeId} {x y:Operand} {a b:Value} (ha:a ≠ .nilIface∧∀ cs,a ≠ .agg cs) (w:World):(eqGuard op t x y a b).run P w = .ok () w:=by
 cases a with
 | nilIface=>exact absurd rfl ha.1
 | agg cs=>exact absurd rfl (ha.2 cs)
 | _=>cases op<;>simp[eqGuard]
theorem aDB {t:TypeId} (h:P.underlying t=some .bool) (d:Nat) (a b:Bool) (w:World):(Op.equalIn (d+1) t (.bool a) (.bool b)).run P w = .ok (a==b) w:=by
 rw[Op.equalIn,Sem.run_bind,run_underlying h w]; rfl
theorem E8 {t e:TypeId} (h:P.underlying t=some (.pointer e)) (d:Nat) (a:Addr) (w:World):(Op.equalIn (d+1) t (.pointer (some a)) (.pointer none)).run P w = .ok false w:=by
 rw[Op.equalIn,Sem.run_bind,run_underlying h w]; rfl
theorem VH {t e:TypeId} (h:P.underlying t=some (.pointer e)) (d:Nat) (w:World):(Op.equalIn (d+1) t (.pointer none) (.pointer none)).run P w = .ok true w:=by
 rw[Op.equalIn,Sem.run_bind,run_underlying h w]; rfl
theorem ZH {t:TypeId} {x y:Array TypeId} {z:Bool} (h:P.underlying t=some (.func x y z)) (d:Nat) (f:Fn) (a b:Array Value) (w:World):(Op.equalIn (d+1) t (.func f a b) .nilFunc).run P w = .ok false w:=by
 rw[Op.equalIn,Sem.run_bind,run_underlying h w]; rfl
theorem a0K {t:TypeId} {x y:Array TypeId} {z:Bool} (h:P.underlying t=some (.func x y z)) (d:Nat) (w:World):(Op.equalIn (d+1) t .nilFunc .nilFunc).run P w = .ok true w:=by
 rw[Op.equalIn,Sem.run_bind,run_underlying h w]; rfl
theorem sN {t:TypeId} {a b:Value} {r:Bool} {w:World} (h:∀ d,(Op.equalIn (d+1) t a b).run P w = .ok r w):(Op.equal t a b).run P w = .ok r w:=h 9999
theorem ZW {t:TypeId} (h:YY P t=true):P.underlying t=some .bool:=by
 unfold YY at h; split at h
 ·assumption
 ·cases h
theorem qI {t:TypeId} (h:kC P t=true):P.underlying t=some .string:=by
 unfold kC at h; split at h
 ·assumption
 ·cases h
theorem BU {t:TypeId} (h:Q8 P t=true):∃ e,P.underlying t=some (.pointer e):=by
 unfold Q8 at h; split at h
 ·rename_i e he; exact ⟨e,he⟩
 ·cases h
theorem J5 {t:TypeId} (h:D5 P t=true):∃ a b c,P.underlying t=some (.func a b c):=by
 unfold D5 at h; split at h
 ·rename_i a b c he; exact ⟨a,b,c,he⟩
 ·cases h
theorem mJ {op:BinOp} {is:Bool} {p:PV} (h:sG op is=some p) {t:TypeId} {a b:Value} {w:World} (he:(Op.equal t a b).run P w = .ok is w)
 (hab:∀ op,op = .eql∨op = .neq→binOp op t a b=(if op = .eql then do pure (.bool (← Op.equal t a b)) else do pure (.bool (!(← Op.equal t a b))))) :
 ∃ v,(binOp op t a b).run P w = .ok v w∧Rep M B p v∧p.own=false:=by
 cases op<;>simp only[sG,reduceCtorEq] at h
 ·cases h; rw[hab _ (.inl rfl)]; exact ⟨.bool is,by simp[he],rep_bool.2 rfl,rfl⟩
 ·cases h; rw[hab _ (.inr rfl)]; exact ⟨.bool (!is),by simp[he],rep_bool.2 rfl,rfl⟩
theorem a2J {d:Nat} {E:TypeId→PV→PV→Option Bool} (hE:∀ t x y r,E t x y=some r→∀ a b,Rep M B x a→Rep M B y b→∀ w,(Op.equalIn d t a b).run P w = .ok r w) {cs ds:List PV} {xs ys:Array Value} (hx:Reps M B cs xs.toList) (hy:Reps M B ds ys.toList) (w:World) :
 ∀ (fs:List Field) (r:Bool),aE' P E cs ds fs=some r→(Op.eqFields d xs ys fs).run P w = .ok r w
 | [],r,h=>by simp[aE'] at h; subst h; rfl
 | f::fs,r,h=>by
  rw[aE'] at h
  split at h
  ·cases h
  ·rename_i hn
   split at h
   ·rename_i I hI
    split at h
    ·rename_i p q hp hq
     split at h
     ·rename_i b r' hb hr
      injection h with h; subst h
      obtain ⟨i,z,dd,hT⟩:=qY hI
      obtain ⟨u,h1,h2,_⟩:=yF hx hT hp w
      obtain ⟨v,h3,h4,_⟩:=yF hy hT hq w
      have h5:=hE _ _ _ _ hb u v h2 h4 w
      have ih:=a2J hE hx hy w fs r' hr
      rw[Op.eqFields,if_pos hn]
      simp only[Sem.run_bind,h1,h3,h5,Result.andThen_ok]
      cases b
      ·rfl
      ·simpa using ih
     ·cases h
    ·cases h
   ·cases h
theorem a4T:∀ (k d:Nat) (t:TypeId) (x y:PV) (r:Bool),aCG P k t x y=some r→∀ a b,Rep M B x a→Rep M B y b→∀ w,(Op.equalIn (d+k) t a b).run P w = .ok r w
 | 0,d,t,x,y,r,h,a,b,ha,hb,w=>by rw[aCG] at h; cases h
 | k+1,d,t,x,y,r,h,a,b,ha,hb,w=>by
  unfold aCG at h
  split at h
  ·rename_i hu
   split at h
   ·rename_i e; subst e
    injection h with h; subst h
    rw[rep_int.1 ha,rep_int.1 hb]
    exact run_equalIn_int w (d+k) t _ _ _ _ hu
   ·cases h
  ·rename_i hu
   injection h with h; subst h
   rw[rep_bool.1 ha,rep_bool.1 hb]
   exact run_equalIn_bool w (d+k) t _ _ hu
  ·rename_i hu
   injection h with h; subst h
   rw[rep_str.1 ha,rep_str.1 hb]
   exact run_equalIn_string w (d+k) t _ _ hu
  ·rename_i fs cs ds hu
   by_cases hst:P.stoodInHeld t=true
   ·rw[if_pos hst] at h; cases h
   ·rw[if_neg hst] at h
    obtain ⟨xs,rfl,hx⟩:=rep_agg.1 ha
    obtain ⟨ys,rfl,hy⟩:=rep_agg.1 hb
    have hf:P.fieldsOf t=fs:=by simp[Program.fieldsOf,hu]
    rw[show d+(k+1)=(d+k)+1 from rfl,run_equalIn_struct w (d+k) t xs ys (by rw[hf]; exact hu) (by simpa using hst),hf]
    exact a2J (fun t x y r h a b ha hb w=>a4T k d t x y r h a b ha hb w) hx hy w fs.toList r h
  ·cases h
theorem aPY {op:BinOp} {t:TypeId} {x y p:PV} (h:BA P op t x y=some p) {a b:Value} (ha:Rep M B x a) (hb:Rep M B y b) (w:World) :
 (∀ X Y:Operand,(eqGuard op t X Y a b).run P w = .ok () w)∧∃ v,(binOp op t a b).run P w = .ok v w∧Rep M B p v∧p.own=false:=by
 unfold BA at h
 split at h
 ·rename_i k a' k' b'
  rw[rep_int.1 ha,rep_int.1 hb]
  refine ⟨fun _ _=>gU ⟨by simp,by simp⟩ w,?_⟩
  split at h
  ·exact JF h t w
  ·exact JF h t w
  ·rename_i h1 h2
   split at h
   ·rename_i e; subst e; exact a5T h ⟨fun e=>h1 e,fun e=>h2 e⟩ t w
   ·cases h
 ·rw[rep_str.1 ha,rep_str.1 hb]; exact ⟨fun _ _=>gU ⟨by simp,by simp⟩ w,a8Z h t w⟩
 ·rename_i a' b'
  rw[rep_bool.1 ha,rep_bool.1 hb]
  refine ⟨fun _ _=>gU ⟨by simp,by simp⟩ w,?_⟩
  split at h
  ·rename_i ht
   have hu:=ZW ht
   have he:(Op.equal t (.bool a') (.bool b')).run P w = .ok (a'==b') w:=sN fun d=>aDB hu d a' b' w
   refine mJ (is:=a'==b') ?_ he (fun op ho=>by rcases ho with rfl | rfl<;>rfl)
   unfold ZC at h; unfold sG; exact h
  ·cases h
 ·obtain ⟨c,hc,rfl⟩:=rep_ptr.1 ha
  rw[rep_nilp.1 hb]
  refine ⟨fun _ _=>gU ⟨by simp,by simp⟩ w,?_⟩
  split at h
  ·rename_i ht
   obtain ⟨e,hu⟩:=BU ht
   refine mJ h (sN fun d=>E8 hu d _ w) (fun op ho=>by rcases ho with rfl | rfl<;>rfl)
  ·cases h
 ·obtain ⟨b',off,rfl,_⟩:=rep_cst.1 ha
  rw[rep_nilp.1 hb]
  refine ⟨fun _ _=>gU ⟨by simp,by simp⟩ w,?_⟩
  split at h
  ·rename_i ht
   obtain ⟨e,hu⟩:=BU ht
   refine mJ h (sN fun d=>E8 hu d _ w) (fun op ho=>by rcases ho with rfl | rfl<;>rfl)
  ·cases h
 ·rw[rep_nilp.1 ha,rep_nilp.1 hb]
  refine ⟨fun _ _=>gU ⟨by simp,by simp⟩ w,?_⟩
  split at h
  ·rename_i ht
   obtain ⟨e,hu⟩:=BU ht
   refine mJ h (sN fun d=>VH hu d w) (fun op ho=>by rcases ho with rfl | rfl<;>rfl)
  ·cases h
 ·obtain ⟨f,c,rfl,_,_⟩:=rep_func.1 ha
  rw[(rep_raw.1 hb).1]
  refine ⟨fun _ _=>gU ⟨by simp,by simp⟩ w,?_⟩
  split at h
  ·rename_i ht
   obtain ⟨e1,e2,e3,hu⟩:=J5 ht
   refine mJ h (sN fun d=>ZH hu d _ _ _ w) (fun op ho=>by rcases ho with rfl | rfl<;>rfl)
  ·cases h
 ·rw[(rep_raw.1 ha).1,(rep_raw.1 hb).1]
  refine ⟨fun _ _=>gU ⟨by simp,by simp⟩ w,?_⟩
  split at h
  ·rename_i ht
   obtain ⟨e1,e2,e3,hu⟩:=J5 ht
   refine mJ h (sN fun d=>a0K hu d w) (fun op ho=>by rcases ho with rfl | rfl<;>rfl)
  ·cases h
 ·rename_i cs ds
  obtain ⟨xs,e1,_⟩:=rep_agg.1 ha
  obtain ⟨ys,e2,_⟩:=rep_agg.1 hb
  split at h
  ·cases h
  ·rename_i hg
   cases he:aCG P 12 t (.agg cs) (.agg ds) with
   | none=>rw[he] at h; cases h
   | some r =>
    rw[he] at h
    have hr:(Op.equal t a b).run P w = .ok r w:=a4T 12 9988 t _ _ r he a b ha hb w
    refine ⟨fun X Y=>by rw[e1,e2]; exact run_eqGuard_agg w op t X Y xs ys (by simpa using hg),mJ h hr (fun op ho=>by rw[e1,e2]; rcases ho with rfl | rfl<;>rfl)⟩
 ·cases h
end
end Go.Proofs.YtcdceiloganlnaaGreatDoor
namespace Go.Proofs.YtcdceiloganlnaaGreatDoor
open Go.RowKit
section
variable {P:Program} {M:Mem} {B:bY}
theorem YW {ρ:Operand→Value} {o:Oper} {s:Sem Value} {v:Value} {w:World} (h:execOp ρ o=(do pure (.value (← s)))) (hr:s.run P w = .ok v w):(execOp ρ o).run P w = .ok (.value v) w:=by
 rw[h]; simp[hr]
theorem aQU {t ty:TypeId} {x p:PV} (h:aB7 P t x=some p) {a:Value} (ha:Rep M B x a) (w:World) :
 ∃ v,(Builtin.len_ #[t] ty #[a]).run P w = .ok v w∧Rep M B p v∧p.own=false:=by
 have hsl:∀ {n:Nat} {A:Option Addr} {c:Nat},(jQ P t).map (fun _=>PV.int .i64 n)=some p→∃ v,(Builtin.len_ #[t] ty #[.slice A n c]).run P w = .ok v w∧Rep M B p v∧p.own=false:=by
  intro n A c h
  unfold jQ at h
  split at h
  ·rename_i e hu
   simp at h; subst h
   exact ⟨_,by simp[Builtin.len_,run_underlying hu]; rfl,rep_int.2 rfl,rfl⟩
  ·simp at h
 unfold aB7 at h
 split at h
 ·split at h
  ·rename_i ht; cases h
   rw[rep_str.1 ha]
   exact ⟨_,by simp[Builtin.len_,run_underlying (qI ht)]; rfl,rep_int.2 rfl,rfl⟩
  ·cases h
 ·obtain ⟨A,cap,rfl,_⟩:=rep_sl.1 ha; exact hsl h
 ·obtain ⟨c,cap,_,rfl,_⟩:=rep_slh.1 ha; exact hsl h
 ·obtain ⟨A,cap,rfl,_⟩:=rep_slp.1 ha; exact hsl h
 ·cases h
theorem VY {s:TypeId} (h:vV P s=true):∃ e,P.underlying s=some (.slice e)∧P.underlying e=some (.int .u8):=by
 unfold vV at h
 split at h
 ·rename_i e hu
  split at h
  ·rename_i k hk
   have:k = .u8:=by simpa using h
   subst this
   exact ⟨e,hu,hk⟩
  ·cases h
 ·cases h
theorem a8W {es:List PV} {b:Nat} {w:World} (hmem:∀ (b o:Nat) (v:Value),M b o=some v→w.cell? ⟨b,o,none⟩=some v∧v.oneCell'=true) (hb:a5C es=true) {off:Nat} (hl:Locs M [] 1 es b off) :
 ∀ (j:Nat) v,((es.map PY).map (Value.int .u8))[j]? = some v→w.cell? ⟨b,off+j,none⟩=some v:=by
 intro j v hv
 simp only[List.getElem?_map,Option.map_map] at hv
 obtain ⟨q,hq,rfl⟩:=Option.map_eq_some_iff.1 hv
 have hloc:=lW hl hq
 have hbq:isByte q=true:=List.all_eq_true.1 hb q (List.mem_of_getElem? hq)
 cases q<;>simp[isByte] at hbq
 subst hbq
 obtain ⟨u,hu,hru⟩:=(jD rfl (fun cs e=>by cases e)).1 hloc
 have hr:u = .int .u8 _:=rep_int.1 hru
 subst hr
 have:=(hmem _ _ _ hu).1
 rwa [Nat.mul_one] at this
theorem aEN {s d:TypeId} {x p:PV} (h:RI P s d x=some p) {a:Value} (ha:Rep M B x a) (w:World) (hmem:∀ (b o:Nat) (v:Value),M b o=some v→w.cell? ⟨b,o,none⟩=some v∧v.oneCell'=true) :
 ∃ v,(convert s d a).run P w = .ok v w∧Rep M B p v∧p.own=false:=by
 unfold RI at h
 split at h
 ·rename_i ow sz es
  split at h
  ·rename_i hc
   cases h
   obtain ⟨e,hs,he⟩:=VY hc.1
   obtain ⟨A,cap,rfl,_,hsz,_,hA⟩:=rep_sl.1 ha
   refine ⟨.string (strOf es),?_,rep_str.2 rfl,rfl⟩
   rw[run_convert_bytes_string w s d e A es.length cap hs he (qI hc.2.1)]
   by_cases h0:es = []
   ·subst h0
    cases A with
    | none=>rfl
    | some A=>exact run_bytesToString w A 0 cap [] (run_loadCells_list (P:=P) w A [] (by simp))
   ·obtain ⟨b,off,rfl,hl⟩:=hA h0
    have h1:sz=1:=by
     obtain ⟨q,qs,rfl⟩:=List.exists_cons_of_ne_nil h0
     have hq:=hsz q (by simp)
     have hbq:isByte q=true:=List.all_eq_true.1 hc.2.2 q (by simp)
     cases q<;>simp[isByte] at hbq
     exact hq.symm
    subst h1
    have:=run_loadCells_list (P:=P) w ⟨b,off,none⟩ ((es.map PY).map (Value.int .u8)) (fun j v hj=>by rw[add_lit]; exact a8W hmem hc.2.2 hl j v hj)
    simp only[List.length_map] at this
    exact run_bytesToString w ⟨b,off,none⟩ es.length cap (es.map PY) this
  ·cases h
 ·rename_i k0 n
  rw[rep_int.1 ha]
  unfold b0A at h
  split at h
  ·rename_i k hk
   split at hk
   ·rename_i k' hu
    cases hk
    split at h
    ·rename_i ds hs
     cases h
     refine ⟨.int k (k.wrap n),?_,rep_int.2 rfl,rfl⟩
     unfold convert
     rw[Sem.run_bind,run_underlying hs w,Result.andThen_ok,Sem.run_bind,run_underlying hu w,Result.andThen_ok]
     cases ds<;>rfl
    ·cases h
   ·cases hk
  ·cases h
 ·rename_i a'
  rw[rep_str.1 ha]
  split at h
  ·rename_i hs hd
   cases h
   refine ⟨.string a',?_,rep_str.2 rfl,rfl⟩
   unfold convert
   rw[Sem.run_bind,run_underlying hs w,Result.andThen_ok,Sem.run_bind,run_underlying hd w,Result.andThen_ok]
   rfl
  ·cases h
 ·cases h
theorem uP:∀ {l:List (Option PV)} {ps:List PV},bQ l=some ps→l=ps.map some
 | [],ps,h=>by simp[bQ] at h; subst h; rfl
 | none::_,_,h=>by simp[bQ] at h
 | some p::l,ps,h=>by
  rw[bQ] at h
  cases ha:bQ l with
  | none=>simp[ha] at h
  | some qs=>simp[ha] at h; subst h; simp[uP ha]
theorem tH {rd:Operand→Option PV} {ρ:Operand→Value} (hrd:∀ x q,rd x=some q→Rep M B q (ρ x)∧q.own=false):∀ {xs:List Operand} {ps:List PV},bQ (xs.map rd)=some ps→Reps M B ps (xs.map ρ)∧∀ p,p∈ps→p.own=false
 | [],ps,h=>by simp[bQ] at h; subst h; exact ⟨reps_nil.2 rfl,by simp⟩
 | x::xs,ps,h=>by
  have h':=uP h
  cases ps with
  | nil=>simp at h'
  | cons p ps =>
   simp only[List.map_cons,List.cons.injEq] at h'
   obtain ⟨h1,h2⟩:=h'
   have ih:=tH hrd (xs:=xs) (ps:=ps) (by
    rw[h2]
    have:∀ ps:List PV,bQ (ps.map some)=some ps:=by
     intro ps; induction ps with
     | nil=>rfl
     | cons a l ih=>simp[bQ,ih]
    exact this ps)
   exact ⟨reps_cons.2 ⟨_,_,rfl,(hrd _ _ h1).1,ih.1⟩,fun q hq=>by
    rcases List.mem_cons.1 hq with rfl | hq
    ·exact (hrd _ _ h1).2
    ·exact ih.2 q hq⟩
theorem TE {p q:PV} {vs:List Value} (h:Reps M B [p,q] vs):∃ a b,vs = [a,b]∧Rep M B p a∧Rep M B q b:=by
 obtain ⟨a,us,rfl,ha,h2⟩:=reps_cons.1 h
 obtain ⟨b,us',rfl,hb,h3⟩:=reps_cons.1 h2
 rw[reps_nil] at h3; subst h3
 exact ⟨a,b,rfl,ha,hb⟩
theorem aMT {ts:Array TypeId} {ty:TypeId} {ps:List PV} {p:PV} (h:aC0 ps=some p) {vs:Array Value} (hv:Reps M B ps vs.toList) (w:World) :
 ∃ v,(Builtin.min_ ts ty vs).run P w = .ok v w∧Rep M B p v∧p.own=false:=by
 unfold aC0 at h
 split at h
 ·split at h
  ·rename_i e; subst e; cases h
   obtain ⟨a,b,e,ha,hb⟩:=TE hv
   rw[rep_int.1 ha,rep_int.1 hb] at e
   refine ⟨_,?_,rep_int.2 rfl,rfl⟩
   unfold Builtin.min_; rw[e]
   simp[Builtin.min2]
  ·cases h
 ·cases h
theorem aNR {ts:Array TypeId} {ty:TypeId} {ps:List PV} {p:PV} (h:aBZ ps=some p) {vs:Array Value} (hv:Reps M B ps vs.toList) (w:World) :
 ∃ v,(Builtin.max_ ts ty vs).run P w = .ok v w∧Rep M B p v∧p.own=false:=by
 unfold aBZ at h
 split at h
 ·split at h
  ·rename_i e; subst e; cases h
   obtain ⟨a,b,e,ha,hb⟩:=TE hv
   rw[rep_int.1 ha,rep_int.1 hb] at e
   refine ⟨_,?_,rep_int.2 rfl,rfl⟩
   unfold Builtin.max_; rw[e]
   simp[Builtin.max2]
  ·cases h
 ·split at h
  ·rename_i e; obtain ⟨rfl,rfl,rfl⟩:=e; cases h
   obtain ⟨a,us,e,ha,h2⟩:=reps_cons.1 hv
   obtain ⟨b,us',rfl,hb,h2⟩:=reps_cons.1 h2
   obtain ⟨c,d,rfl,hc,hd⟩:=TE h2
   rw[rep_int.1 ha,rep_int.1 hb,rep_int.1 hc,rep_int.1 hd] at e
   refine ⟨_,?_,rep_int.2 rfl,rfl⟩
   unfold Builtin.max_; rw[e]
   simp[Builtin.max2]
  ·cases h
 ·cases h
theorem aVQ {op:UnOp} {x p:PV} (h:aKN op x=some p) {a:Value} (ha:Rep M B x a) (w:World):∃ v,(Op.unary op a).run P w = .ok v w∧Rep M B p v∧p.own=false:=by
 unfold aKN at h
 split at h
 ·cases h; rw[rep_int.1 ha]; exact ⟨_,rfl,rep_int.2 rfl,rfl⟩
 ·cases h; rw[rep_bool.1 ha]; exact ⟨_,rfl,rep_bool.2 rfl,rfl⟩
 ·cases h
theorem aNB {x p:PV} {i:Nat} (h:a9K x i=some p) {a:Value} (ha:Rep M B x a) (w:World):∃ v,(Instr.extract a i).run P w = .ok v w∧Rep M B p v∧p.own=false:=by
 unfold a9K at h
 split at h
 ·rename_i ps
  obtain ⟨vs,rfl,hr⟩:=rep_tuple.1 ha
  cases hp:ps[i]? with
  | none=>simp[hp] at h
  | some q =>
   simp[hp] at h; subst h
   obtain ⟨u,hu,hq⟩:=fB hr hp
   have hu':vs[i]? = some u:=by simpa using hu
   exact ⟨u,by simp[Instr.extract,hu'],rep_un.2 hq,iM q⟩
 ·cases h
def qM (d:Nat):Option PV→Option Int
 | none=>some d
 | some (.int _ n)=>some n
 | _=>none
theorem oL {d:Nat} {q:Option PV} {n:Int} (h:qM d q=some n) {x:Option Value} (hx:(q=none∧x=none)∨∃ p v,q=some p∧x=some v∧Rep M B p v) :
 (q=none∧x=none∧n=d)∨∃ k,x=some (.int k n):=by
 rcases hx with ⟨rfl,rfl⟩ | ⟨p,v,rfl,rfl,hr⟩
 ·simp[qM] at h; exact .inl ⟨rfl,rfl,h.symm⟩
 ·cases p<;>simp[qM] at h
  subst h; rw[rep_int.1 hr]; exact .inr ⟨_,rfl⟩
theorem FB {isS:Bool} {len cap:Nat} {lo hi:Option Value} {l h:Int} (hl:(lo=none∧l=0)∨∃ k,lo=some (.int k l)) (hh:(hi=none∧h=len)∨∃ k,hi=some (.int k h))
 (h0:0≤l) (h1:l≤h) (h2:h≤len) (hc:len≤cap) (w:World):(Instr.sliceBounds isS len cap lo hi none).run P w = .ok (l.toNat,h.toNat,cap) w:=by
 have e2:((h.toNat:Nat):Int)=h:=Int.toNat_of_nonneg (by omega)
 rcases hl with ⟨rfl,rfl⟩ | ⟨k,rfl⟩<;>rcases hh with ⟨rfl,rfl⟩ | ⟨k',rfl⟩
 ·simp[Instr.sliceBounds]
 ·simp[Instr.sliceBounds,run_sliceBound w k' h cap _ (by omega) (by omega)]
 ·simp[Instr.sliceBounds,run_sliceBound w k l len _ (by omega) (by omega)]
 ·simp[Instr.sliceBounds,run_sliceBound w k' h cap _ (by omega) (by omega),run_sliceBound w k l h.toNat _ (by omega) (by omega)]
theorem a1K {len cap:Nat} {k1 k2 k3:IntKind} {l h m:Int} (h0:0≤l) (h1:l≤h) (h2:h≤m) (h3:m≤len) (hc:len≤cap) (w:World) :
 (Instr.sliceBounds true len cap (some (.int k1 l)) (some (.int k2 h)) (some (.int k3 m))).run P w = .ok (l.toNat,h.toNat,m.toNat) w:=by
 have e2:((h.toNat:Nat):Int)=h:=Int.toNat_of_nonneg (by omega)
 have e3:((m.toNat:Nat):Int)=m:=Int.toNat_of_nonneg (by omega)
 simp[Instr.sliceBounds,run_sliceBound w k3 m cap _ (by omega) (by omega),run_sliceBound w k2 h m.toNat _ (by omega) (by omega),run_sliceBound w k1 l h.toNat _ (by omega) (by omega)]
theorem a8Q {t:TypeId} {x p pa pb pc:PV} (hs:IB P t x pa pb pc=some p) {a l h m:Value} (ha:Rep M B x a) (hl:Rep M B pa l) (hh:Rep M B pb h) (hm:Rep M B pc m) (w:World) :
 ∃ v,(Instr.sliceAt t a (some l) (some h) (some m)).run P w = .ok v w∧Rep M B p v∧p.own=false:=by
 unfold IB at hs
 split at hs
 ·rename_i o sz es k1 l' k2 h' k3 m'
  obtain ⟨A,cap,rfl,hle,hsz,hz,hA⟩:=rep_sl.1 ha
  obtain rfl:=rep_int.1 hl
  obtain rfl:=rep_int.1 hh
  obtain rfl:=rep_int.1 hm
  split at hs
  ·rename_i hc
   obtain ⟨ht,b1,b2,b3,b4⟩:=hc
   cases hs
   obtain ⟨I,hI,hIs⟩:=Option.map_eq_some_iff.1 ht
   obtain ⟨e,i,z,d,hu,hT⟩:=gZ hI
   have hu':P.underlying t=some (.slice (P.elem t)):=by rw[hu]; simp[Program.elem,hu]
   have hee:P.elem t=e:=by simp[Program.elem,hu]
   have hrun:(Instr.sliceAt t (.slice A es.length cap) (some (.int k1 l')) (some (.int k2 h')) (some (.int k3 m'))).run P w = .ok (.slice (if m'.toNat=l'.toNat then A else A.map (·.add (l'.toNat*sz))) (h'.toNat-l'.toNat) (m'.toNat-l'.toNat)) w:=by
    rw[run_sliceAt_slice (P:=P) w t _ _ _ _ hu',run_slice_any (P:=P) w t A es.length cap hu',a1K (P:=P) b1 b2 b3 b4 hle w,Result.andThen_ok,hee,hT.run_sizeOf w]
    simp[sliced,hIs]
   refine ⟨_,hrun,rep_sl.2 ⟨_,_,by simp only[List.length_drop,List.length_take]; rw[Nat.min_eq_left (by omega)],?_,fun e he=>hsz e (List.mem_of_mem_take (List.mem_of_mem_drop he)),fun h0=>by obtain ⟨x1,x2,x3⟩:=hz h0; subst x1; subst x2; subst x3; simp at b4 ⊢; omega,?_⟩,rfl⟩
   ·simp only[List.length_drop,List.length_take]; omega
   ·intro hne
    have hlen:((es.take h'.toNat).drop l'.toNat).length≠0:=fun e=>hne (List.eq_nil_of_length_eq_zero e)
    simp only[List.length_drop,List.length_take] at hlen
    obtain ⟨b,off,rfl,hloc⟩:=hA (fun e=>by rw[e] at hlen; simp at hlen)
    rw[if_neg (by omega)]
    refine ⟨b,off+l'.toNat*sz,by rw[Option.map_some,add_lit],lI fun j p hj => ?_⟩
    rw[List.getElem?_drop,List.getElem?_take] at hj
    split at hj
    ·have:=lW hloc hj
     rwa [show off+l'.toNat*sz+j*sz=off+(l'.toNat+j)*sz by rw[Nat.add_mul]; omega]
    ·cases hj
  ·cases hs
 ·cases hs
theorem CU {t:TypeId} {x p:PV} {lo hi:Option PV} (hs:iV P t x lo hi=some p) {a:Value} (ha:Rep M B x a) {l h:Option Value}
 (hl:(lo=none∧l=none)∨∃ p v,lo=some p∧l=some v∧Rep M B p v) (hh:(hi=none∧h=none)∨∃ p v,hi=some p∧h=some v∧Rep M B p v) (w:World) :
 ∃ v,(Instr.sliceAt t a l h none).run P w = .ok v w∧Rep M B p v∧p.own=false:=by
 have hb:∀ d q,(match q with | none=>some (d:Int) | some (.int _ n)=>some n | _=>none)=qM d q:=fun d q=>rfl
 unfold iV at hs
 simp only at hs
 split at hs
 ·rename_i s
  rw[rep_str.1 ha]
  split at hs
  ·rename_i l' h' e1 e2
   have e1:qM 0 lo=some l':=e1
   have e2:qM s.size hi=some h':=e2
   split at hs
   ·rename_i hc
    obtain ⟨ht,b1,b2,b3⟩:=hc
    cases hs
    have hu:=qI ht
    have hl':(l=none∧l'=0)∨∃ k,l=some (.int k l'):=by
     rcases oL e1 hl with ⟨_,r1,r2⟩ | r
     ·exact .inl ⟨r1,by simpa using r2⟩
     ·exact .inr r
    have hh':(h=none∧h'=s.size)∨∃ k,h=some (.int k h'):=by
     rcases oL e2 hh with ⟨_,r1,r2⟩ | r
     ·exact .inl ⟨r1,r2⟩
     ·exact .inr r
    refine ⟨_,?_,rep_str.2 rfl,rfl⟩
    rw[run_sliceAt_string (P:=P) w t _ _ _ _ hu]
    simp[Instr.slice,run_underlying hu,FB (P:=P) (isS:=false) hl' hh' b1 b2 (by omega) (Nat.le_refl _) w]
   ·cases hs
  ·cases hs
 ·rename_i o sz es
  obtain ⟨A,cap,rfl,hle,hsz,hz,hA⟩:=rep_sl.1 ha
  split at hs
  ·rename_i l' h' e1 e2
   have e1:qM 0 lo=some l':=e1
   have e2:qM es.length hi=some h':=e2
   split at hs
   ·rename_i hc
    obtain ⟨ht,b1,b2,b3⟩:=hc
    cases hs
    obtain ⟨I,hI,hIs⟩:=Option.map_eq_some_iff.1 ht
    obtain ⟨e,i,z,d,hu,hT⟩:=gZ hI
    have hu':P.underlying t=some (.slice (P.elem t)):=by rw[hu]; simp[Program.elem,hu]
    have hee:P.elem t=e:=by simp[Program.elem,hu]
    have hl':(l=none∧l'=0)∨∃ k,l=some (.int k l'):=by
     rcases oL e1 hl with ⟨_,r1,r2⟩ | r
     ·exact .inl ⟨r1,by simpa using r2⟩
     ·exact .inr r
    have hh':(h=none∧h'=es.length)∨∃ k,h=some (.int k h'):=by
     rcases oL e2 hh with ⟨_,r1,r2⟩ | r
     ·exact .inl ⟨r1,r2⟩
     ·exact .inr r
    have hrun:(Instr.sliceAt t (.slice A es.length cap) l h none).run P w = .ok (.slice (if cap=l'.toNat then A else A.map (·.add (l'.toNat*sz))) (h'.toNat-l'.toNat) (cap-l'.toNat)) w:=by
     rw[run_sliceAt_slice (P:=P) w t _ _ _ _ hu',run_slice_any (P:=P) w t A es.length cap hu',FB (P:=P) (isS:=true) hl' hh' b1 b2 b3 hle w,Result.andThen_ok,hee,hT.run_sizeOf w]
     simp[sliced,hIs]
    refine ⟨_,hrun,rep_sl.2 ⟨_,_,by simp only[List.length_drop,List.length_take]; rw[Nat.min_eq_left (by omega)],?_,fun e he=>hsz e (List.mem_of_mem_take (List.mem_of_mem_drop he)),fun h0=>by obtain ⟨x1,x2,x3⟩:=hz h0; subst x1; subst x2; subst x3; simp,?_⟩,rfl⟩
    ·simp only[List.length_drop,List.length_take]; omega
    ·intro hne
     have hlen:((es.take h'.toNat).drop l'.toNat).length≠0:=fun e=>hne (List.eq_nil_of_length_eq_zero e)
     simp only[List.length_drop,List.length_take] at hlen
     obtain ⟨b,off,rfl,hloc⟩:=hA (fun e=>by rw[e] at hlen; simp at hlen)
     rw[if_neg (by omega)]
     refine ⟨b,off+l'.toNat*sz,by rw[Option.map_some,add_lit],lI fun j p hj => ?_⟩
     rw[List.getElem?_drop,List.getElem?_take] at hj
     split at hj
     ·have:=lW hloc hj
      rwa [show off+l'.toNat*sz+j*sz=off+(l'.toNat+j)*sz by rw[Nat.add_mul]; omega]
     ·cases hj
   ·cases hs
  ·cases hs
 ·rename_i i off n sz
  obtain ⟨c,cap,hc',rfl,hle,hfit⟩:=rep_slh.1 ha
  split at hs
  ·rename_i l' h' e1 e2
   have e1:qM 0 lo=some l':=e1
   have e2:qM n hi=some h':=e2
   split at hs
   ·rename_i hc
    obtain ⟨ht,b1,b2,b3,b4⟩:=hc
    obtain ⟨I,hI,hIs⟩:=Option.map_eq_some_iff.1 ht
    obtain ⟨e,i',z,d,hu,hT⟩:=gZ hI
    have hu':P.underlying t=some (.slice (P.elem t)):=by rw[hu]; simp[Program.elem,hu]
    have hee:P.elem t=e:=by simp[Program.elem,hu]
    have hl':(l=none∧l'=0)∨∃ k,l=some (.int k l'):=by
     rcases oL e1 hl with ⟨_,r1,r2⟩ | r
     ·exact .inl ⟨r1,by simpa using r2⟩
     ·exact .inr r
    have hh':(h=none∧h'=n)∨∃ k,h=some (.int k h'):=by
     rcases oL e2 hh with ⟨_,r1,r2⟩ | r
     ·exact .inl ⟨r1,r2⟩
     ·exact .inr r
    have hrun:(Instr.sliceAt t (.slice (some ⟨c.1,off,none⟩) n cap) l h none).run P w = .ok (.slice (if cap=l'.toNat then some ⟨c.1,off,none⟩ else some ⟨c.1,off+l'.toNat*sz,none⟩) (h'.toNat-l'.toNat) (cap-l'.toNat)) w:=by
     rw[run_sliceAt_slice (P:=P) w t _ _ _ _ hu',run_slice_any (P:=P) w t _ n cap hu',FB (P:=P) (isS:=true) hl' hh' b1 b2 b3 hle w,Result.andThen_ok,hee,hT.run_sizeOf w]
     simp[sliced,hIs,add_lit]
    split at hs
    ·rename_i hlt
     cases hs
     rw[if_neg (by omega)] at hrun
     refine ⟨_,hrun,rep_slh.2 ⟨c,cap-l'.toNat,hc',rfl,by omega,?_⟩,rfl⟩
     have:l'.toNat*sz+(cap-l'.toNat)*sz=cap*sz:=by rw[← Nat.add_mul]; congr 1; omega
     omega
    ·rename_i hlt
     cases hs
     refine ⟨_,hrun,rep_sl.2 ⟨_,_,by rw[show h'.toNat-l'.toNat=([]:List PV).length by simp; omega],by simp,by simp,fun h=>absurd h (by omega),fun h0=>absurd rfl h0⟩,rfl⟩
   ·cases hs
  ·cases hs
 ·cases hs
end
end Go.Proofs.YtcdceiloganlnaaGreatDoor
namespace Go.Proofs.YtcdceiloganlnaaGreatDoor
open Go.RowKit
theorem TZ (off:Nat):∀ (l:List Value) (k:Nat) (cs:Array Value),off+k+l.length≤cs.size →
 ((l.zipIdx k).foldl (fun (cs:Array Value) (cj:Value×Nat)=>cs.setIfInBounds (off+cj.2) cj.1) cs).toList=cs.toList.take (off+k) ++ l ++ cs.toList.drop (off+k+l.length)
 | [],k,cs,_=>by simp
 | v::l,k,cs,h=>by
  simp only[List.zipIdx_cons,List.foldl_cons]
  rw[TZ off l (k+1) _ (by simp at h ⊢; omega),Array.toList_setIfInBounds]
  have:=list_seg_step cs.toList (off+k) v l (by simp at h ⊢; omega)
  rw[show off+(k+1)=off+k+1 by omega,this]
  simp[Nat.add_assoc]
section
variable {P:Program} {M:Mem} {B:bY}
theorem dU {ps qs:List PV} {us vs:List Value} (h1:Reps M B ps us) (h2:Reps M B qs vs):Reps M B (ps ++ qs) (us ++ vs):=by
 have l1:=bC h1
 refine uO (by simp[l1,bC h2]) fun j p u hp hu => ?_
 rw[List.getElem?_append] at hp hu
 by_cases h:j<ps.length
 ·rw[if_pos h] at hp; rw[if_pos (by omega)] at hu
  obtain ⟨u',e,hr⟩:=fB h1 hp
  rw[e] at hu; cases hu; exact hr
 ·rw[if_neg h] at hp; rw[if_neg (by omega),← l1] at hu
  obtain ⟨u',e,hr⟩:=fB h2 hp
  rw[e] at hu; cases hu; exact hr
theorem XD {ps:List PV} {us:List Value} (h:Reps M B ps us) (k:Nat):Reps M B (ps.take k) (us.take k):=by
 have:=nT h 0 k; simpa using this
theorem aDR {ps:List PV} {us:List Value} (h:Reps M B ps us) (k:Nat):Reps M B (ps.drop k) (us.drop k):=by
 have:=nT h k (ps.length-k)
 have hl:=bC h
 rwa [List.take_of_length_le (by simp),List.take_of_length_le (by simp[hl])] at this
theorem uN {ps:List PV} {us:List Value} (h:Reps M B ps us):Reps M B (ps.map PV.un) us:=by
 refine uO (by simp[bC h]) fun j p u hp hu => ?_
 rw[List.getElem?_map] at hp
 cases hq:ps[j]? with
 | none=>simp[hq] at hp
 | some q =>
  simp[hq] at hp; subst hp
  obtain ⟨u',e,hr⟩:=fB h hq
  rw[e] at hu; cases hu; exact rep_un.2 hr
theorem jT {p:PV} (h:p.one=true) {v:Value} (hr:Rep M B p v):v.cells = #[v]∧v.oneCell'=true:=by
 cases p with
 | int k n=>rw[rep_int.1 hr]; exact ⟨rfl,rfl⟩
 | bool b=>rw[rep_bool.1 hr]; exact ⟨rfl,rfl⟩
 | str b=>rw[rep_str.1 hr]; exact ⟨rfl,rfl⟩
 | nilp=>rw[rep_nilp.1 hr]; exact ⟨rfl,rfl⟩
 | raw u=>obtain ⟨rfl,h1⟩:=rep_raw.1 hr; refine ⟨?_,h1⟩; cases v<;>first | rfl | (simp[Value.oneCell'] at h1)
 | ptr i off=>obtain ⟨c,_,rfl⟩:=rep_ptr.1 hr; exact ⟨rfl,rfl⟩
 | bld T i =>
  obtain ⟨c,_,h0,h1⟩:=rep_bld.1 hr
  by_cases hT:T=0
  ·obtain ⟨_,rfl⟩:=h0 hT; exact ⟨rfl,rfl⟩
  ·have h1:=h1 hT
   unfold aPJ at h1
   split at h1
   ·obtain ⟨_,rfl⟩:=h1; exact ⟨rfl,rfl⟩
   ·obtain ⟨_,rfl | rfl⟩:=h1<;>exact ⟨rfl,rfl⟩
 | cst e=>obtain ⟨c,_,rfl,_⟩:=rep_cst.1 hr; exact ⟨rfl,rfl⟩
 | sl o sz es=>obtain ⟨A,c,rfl,_⟩:=rep_sl.1 hr; exact ⟨rfl,rfl⟩
 | slh i off n sz=>obtain ⟨A,c,_,rfl,_⟩:=rep_slh.1 hr; exact ⟨rfl,rfl⟩
 | slT l=>obtain ⟨A,c,rfl,_⟩:=rep_slT.1 hr; exact ⟨rfl,rfl⟩
 | slp o n sz cs=>obtain ⟨A,c,rfl,_⟩:=rep_slp.1 hr; exact ⟨rfl,rfl⟩
 | mp l=>obtain ⟨f,rfl,_⟩:=rep_mp.1 hr; exact ⟨rfl,rfl⟩
 | func fn f c=>obtain ⟨f,c,rfl,_⟩:=rep_func.1 hr; exact ⟨rfl,rfl⟩
 | agg cs=>simp[PV.one] at h
 | tuple cs=>simp[PV.one] at h
theorem nM {p:PV} {new:List PV} (h:p.newCells=some new) {v:Value} (hr:Rep M B p v):Reps M B new v.cells.toList∧∀ q,q∈new→q.own=false:=by
 unfold PV.newCells at h
 split at h
 ·split at h
  ·cases h
   obtain ⟨vs,rfl,hs⟩:=rep_agg.1 hr
   exact ⟨uN hs,fun q hq=>by obtain ⟨x,_,rfl⟩:=List.mem_map.1 hq; exact iM x⟩
  ·cases h
 ·split at h
  ·rename_i h1
   cases h
   rw[(jT h1 hr).1]
   exact ⟨reps_cons.2 ⟨v,[],rfl,rep_un.2 hr,reps_nil.2 rfl⟩,fun q hq=>by rw[List.mem_singleton.1 hq]; exact iM p⟩
  ·cases h
theorem IW {p:PV} {new:List PV} (h:p.newCells=some new) {v:Value} (hr:Rep M B p v):∀ u,u∈v.cells.toList→u.oneCell'=true:=by
 have h1:=(nM h hr).1
 have h2:∀ q,q∈new→q.one=true:=by
  unfold PV.newCells at h
  split at h
  ·split at h
   ·rename_i hall
    cases h; intro q hq; obtain ⟨x,hx,rfl⟩:=List.mem_map.1 hq; rw[a7X]; exact List.all_eq_true.1 hall x hx
   ·cases h
  ·split at h
   ·rename_i ho
    cases h; intro q hq; rw[List.mem_singleton.1 hq,a7X]; exact ho
   ·cases h
 intro u hu
 obtain ⟨j,hj⟩:=List.mem_iff_getElem?.1 hu
 have hl:=bC h1
 have hjl:=(List.getElem?_eq_some_iff.1 hj).1
 have hd:new[j]? = some (new[j]'(by omega)):=List.getElem?_eq_getElem (by omega)
 obtain ⟨u',e,hr'⟩:=fB h1 hd
 rw[e] at hj; cases hj
 exact (jT (h2 _ (List.getElem_mem _)) hr').2
theorem U2 {place:Nat→Option (Nat×Nat)}:∀ {ps:List (Nat×PV)} {vs:List (Nat×Value)} {cs:List PV} {us:Array Value} {r:List PV},yA place cs ps=some r→Reps M B cs us.toList →
 ps.length=vs.length→(∀ (j:Nat) p v,ps[j]? = some p→vs[j]? = some v→p.1=v.1∧Rep M B p.2 v.2)→∃ r',Instr.fill place us vs=some r'∧Reps M B r r'.toList
 | [],[],cs,us,r,h,hc,_,_=>by simp[yA] at h; subst h; exact ⟨us,rfl,hc⟩
 | [],_::_,_,_,_,_,_,hl,_=>by simp at hl
 | _::_,[],_,_,_,_,_,hl,_=>by simp at hl
 | (i,p)::ps,(i',v)::vs,cs,us,r,h,hc,hl,hv=>by
  obtain ⟨e,hr⟩:=hv 0 (i,p) (i',v) rfl rfl
  simp only at e hr; subst e
  rw[yA] at h
  split at h
  ·rename_i o z new hp hn
   split at h
   ·rename_i hlen
    obtain ⟨hz,hfit⟩:=hlen
    have hnr:=(nM hn hr).1
    have hsz:v.cells.size=z:=by have:=bC hnr; simp at this; omega
    have hus:us.size=cs.length:=by have:=bC hc; simp at this; omega
    have hfold:=TZ o v.cells.toList 0 us (by simp; omega)
    simp only[Nat.add_zero] at hfold
    have ha:(v.cells.zipIdx.foldl (fun cs (c,j)=>cs.setIfInBounds (o+j) c) us)=((v.cells.toList.zipIdx 0).foldl (fun (cs:Array Value) (cj:Value×Nat)=>cs.setIfInBounds (o+cj.2) cj.1) us):=by
     rw[← Array.foldl_toList,Array.toList_zipIdx]
    obtain ⟨r',h1,h2⟩:=U2 (ps:=ps) (vs:=vs) (us:=(v.cells.toList.zipIdx 0).foldl (fun (cs:Array Value) (cj:Value×Nat)=>cs.setIfInBounds (o+cj.2) cj.1) us) h (by
     rw[hfold]
     have:(v.cells.toList.length)=z:=by simpa using hsz
     rw[this]
     exact dU (dU (XD hc o) hnr) (aDR hc _)) (by simpa using hl) (fun j p v a b=>hv (j+1) p v (by simpa using a) (by simpa using b))
    refine ⟨r',?_,h2⟩
    rw[Instr.fill,hp]
    simp only
    rw[if_neg (by simp; omega),ha]
    exact h1
   ·cases h
  ·cases h
theorem MK {rd:Operand→Option PV} {ρ:Operand→Value} (hrd:∀ x q,rd x=some q→Rep M B q (ρ x)∧q.own=false):∀ {xs:List (Nat×Operand)} {ps:List (Nat×PV)},iG rd xs=some ps →
 ps.length=(xs.map fun ix=>(ix.1,ρ ix.2)).length∧∀ (j:Nat) p v,ps[j]? = some p→(xs.map fun ix=>(ix.1,ρ ix.2))[j]? = some v→p.1=v.1∧Rep M B p.2 v.2
 | [],ps,h=>by simp[iG] at h; subst h; simp
 | (i,x)::xs,ps,h=>by
  rw[iG] at h
  split at h
  ·rename_i p qs hp hq
   cases h
   obtain ⟨h1,h2⟩:=MK hrd hq
   refine ⟨by simpa using h1,fun j p' v a b => ?_⟩
   cases j with
   | zero=>simp at a b; subst a; subst b; exact ⟨rfl,(hrd _ _ hp).1⟩
   | succ j=>exact h2 j p' v (by simpa using a) (by simpa using b)
  ·cases h
theorem X5 {z:Value} (h:∀ v,v∈z.cells→v.oneCell'=true):Reps M B ((z.cells.toList.map fF).map PV.un) z.cells.toList:=by
 refine uN (uO (by simp) fun j p u hp hu => ?_)
 rw[List.getElem?_map,hu] at hp
 simp at hp; subst hp
 exact pW (h u (Array.mem_of_getElem? (by simpa using hu)))
theorem a1J {t:TypeId} {fs:List (Nat×Nat×Bool)} (h:fieldsOf P t=some fs):∃ Fs,P.underlying t=some (.struct Fs)∧Fs.toList.mapM (fun f=>(P.info? f.type).map fun i=>(f.offset,i.size))=some (fs.map fun f=>(f.1,f.2.1)):=by
 unfold fieldsOf at h
 split at h
 ·rename_i Fs hu
  refine ⟨Fs,hu,?_⟩
  generalize Fs.toList=L at h
  induction L generalizing fs with
  | nil=>simp at h; subst h; rfl
  | cons f L ih =>
   rw[List.mapM_cons] at h ⊢
   cases hf:ti P f.type with
   | none=>simp[hf] at h
   | some I =>
    cases hm:L.mapM (fun f=>(ti P f.type).map fun i=>(f.offset,i.size,i.agg)) with
    | none=>simp[hf,hm] at h
    | some bs =>
     simp[hf,hm] at h
     subst h
     obtain ⟨i,z,d,hT⟩:=qY hf
     rw[ih hm]
     simp[hT.info,hT.size]
 ·cases h
theorem aDP {t:TypeId} {xs:Array (Nat×Operand)} {rd:Operand→Option PV} {ρ:Operand→Value} (hrd:∀ x q,rd x=some q→Rep M B q (ρ x)∧q.own=false) {p:PV} (h:pop P rd (.build t xs)=some p) (w:World) :
 ∃ v,(Instr.build t (xs.map fun (i,x)=>(i,ρ x))).run P w = .ok v w∧Rep M B p v∧p.own=false:=by
 have hxs:(xs.map fun (i,x)=>(i,ρ x)).toList=xs.toList.map fun ix=>(ix.1,ρ ix.2):=by simp
 rw[pop] at h
 split at h
 ·rename_i I qs hI hq
  obtain ⟨i,z,d,hT⟩:=qY hI
  obtain ⟨p1,p2⟩:=MK hrd hq
  have hz:Reps M B (I.zero.map PV.un) z.cells.toList:=by rw[hT.izero]; exact X5 hT.one
  split at h
  ·rename_i fs hf ha
   obtain ⟨Fs,hu,hm⟩:=a1J hf
   cases hfill:yA (fun i=>(fs[i]?).map fun f=>(f.1,f.2.1)) (I.zero.map PV.un) qs with
   | none=>simp[hfill] at h
   | some r =>
    simp[hfill] at h; subst h
    obtain ⟨r',h1,h2⟩:=U2 hfill hz p1 p2
    refine ⟨.agg r',run_build w t _ r' ?_,rep_agg.2 ⟨r',rfl,h2⟩,rfl⟩
    have hpl:(fun (j:Nat)=>((fs.map fun f=>(f.1,f.2.1)).toArray)[j]?)=fun (i:Nat)=>(fs[i]?).map fun f=>(f.1,f.2.1):=by
     funext j; simp
    simp only[Program.built,hT.info,hu,hT.zero,hm]
    rw[hpl,hxs]; exact h1
  ·rename_i n J hf ha
   obtain ⟨e,j,z',d',hu,hJ⟩:=IK ha
   cases hfill:yA (fun i=>some (i*J.size,J.size)) (I.zero.map PV.un) qs with
   | none=>simp[hfill] at h
   | some r =>
    simp[hfill] at h; subst h
    obtain ⟨r',h1,h2⟩:=U2 hfill hz p1 p2
    refine ⟨.agg r',run_build w t _ r' ?_,rep_agg.2 ⟨r',rfl,h2⟩,rfl⟩
    simp only[Program.built,hT.info,hu,hT.zero,hJ.info]
    rw[hxs,← hJ.size]; exact h1
  ·cases h
 ·cases h
theorem aIU {c:Call} {ty:TypeId} {rd:Operand→Option PV} {ρ:Operand→Value} (hrd:∀ x q,rd x=some q→Rep M B q (ρ x)∧q.own=false) {p:PV} (h:qZ P rd c=some p) (w:World) :
 ∃ v,(do let d←resolve ρ c ty; invoke d.target d.args:Sem Next).run P w = .ok (.value v) w∧Rep M B p v∧p.own=false:=by
 obtain ⟨callee,args,argTypes⟩:=c
 unfold qZ at h
 simp only at h
 split at h
 ·split at h
  ·rename_i x t h1 h2
   cases hx:rd x with
   | none=>simp[hx] at h
   | some q =>
    simp[hx] at h
    have e1:args = #[x]:=by rw[← Array.toList_inj]; exact h1
    have e2:argTypes = #[t]:=by rw[← Array.toList_inj]; exact h2
    subst e1; subst e2
    obtain ⟨v,h3,h4⟩:=aQU (ty:=ty) h (hrd _ _ hx).1 w
    exact ⟨v,by simp[resolve,invoke,builtin,h3],h4⟩
  ·cases h
 ·cases ha:bQ (args.toList.map rd) with
  | none=>simp[ha] at h
  | some ps =>
   simp[ha] at h
   obtain ⟨h1,_⟩:=tH hrd ha
   obtain ⟨v,h3,h4⟩:=aMT (ts:=argTypes) (ty:=ty) h (vs:=args.map ρ) (by simpa using h1) w
   exact ⟨v,by simp only[resolve,invoke,builtin,Sem.run_bind,Sem.run_pure,Result.andThen_ok]; rw[h3]; rfl,h4⟩
 ·cases ha:bQ (args.toList.map rd) with
  | none=>simp[ha] at h
  | some ps =>
   simp[ha] at h
   obtain ⟨h1,_⟩:=tH hrd ha
   obtain ⟨v,h3,h4⟩:=aNR (ts:=argTypes) (ty:=ty) h (vs:=args.map ρ) (by simpa using h1) w
   exact ⟨v,by simp only[resolve,invoke,builtin,Sem.run_bind,Sem.run_pure,Result.andThen_ok]; rw[h3]; rfl,h4⟩
 ·cases h
theorem UX {t:TypeId} {A:Option Addr} {n cap:Nat} {k:IntKind} {j:Int} {I:TI} {e:TypeId} {i:TypeInfo} {z:Value} {d:TypeDesc} (hu:P.underlying t=some (.slice e)) (hT:TIs P e I i z d) {b off:Nat} (hA:A=some ⟨b,off,none⟩)
 (h0:0≤j) (h1:j<n) (w:World):(Instr.indexAt t (.slice A n cap) (.int k j)).run P w = .ok (.pointer (some ⟨b,off+j.toNat*I.size,none⟩)) w:=by
 subst hA
 simp[Instr.indexAt,asIntOf,run_underlying hu,h0,h1,hT.run_sizeOf w,add_lit]
theorem aQN {t:TypeId} {x i:Operand} {rd:Operand→Option PV} {ρ:Operand→Value} (hrd:∀ x q,rd x=some q→Rep M B q (ρ x)∧q.own=false) {p:PV} (h:pop P rd (.indexAddr t x i)=some p) (w:World) :
 ∃ v,(Instr.indexAt t (ρ x) (ρ i)).run P w = .ok v w∧Rep M B p v∧p.own=false:=by
 rw[pop] at h
 split at h
 ·rename_i o sz es k n hx hi
  have hrx:=(hrd _ _ hx).1
  rw[rep_int.1 (hrd _ _ hi).1]
  split at h
  ·rename_i hc
   obtain ⟨I,hI,hIs⟩:=Option.map_eq_some_iff.1 hc.1
   obtain ⟨e,i',z,d,hu,hT⟩:=gZ hI
   cases hg:es[n.toNat]? with
   | none=>simp[hg] at h
   | some q =>
    simp[hg] at h; subst h
    have hlt:=(List.getElem?_eq_some_iff.1 hg).1
    obtain ⟨A,cap,e1,hle,hsz,_,hA⟩:=rep_sl.1 hrx
    ·obtain ⟨b,off,rfl,hl⟩:=hA (fun e=>by rw[e] at hlt; simp at hlt)
     rw[e1]
     refine ⟨_,UX hu hT rfl hc.2 (by omega) w,rep_cst.2 ⟨b,_,rfl,?_⟩,rfl⟩
     rw[hIs]; exact lW hl hg
  ·cases h
 ·rename_i j off m sz k n hx hi
  rw[rep_int.1 (hrd _ _ hi).1]
  split at h
  ·rename_i hc
   cases h
   obtain ⟨I,hI,hIs⟩:=Option.map_eq_some_iff.1 hc.1
   obtain ⟨e,i',z,d,hu,hT⟩:=gZ hI
   obtain ⟨c,cap,hc',e1,_⟩:=rep_slh.1 (hrd _ _ hx).1
   rw[e1]
   exact ⟨_,UX hu hT rfl hc.2.1 (by omega) w,rep_ptr.2 ⟨c,hc',by rw[hIs]⟩,rfl⟩
  ·cases h
 ·rename_i j off k n hx hi
  rw[rep_int.1 (hrd _ _ hi).1]
  split at h
  ·rename_i m I hI
   split at h
   ·rename_i hc
    cases h
    obtain ⟨e,i',z,d,hu,hT⟩:=IK hI
    obtain ⟨c,hc',e1⟩:=rep_ptr.1 (hrd _ _ hx).1
    rw[e1]
    refine ⟨_,?_,rep_ptr.2 ⟨c,hc',rfl⟩,rfl⟩
    simp[Instr.indexAt,asIntOf,run_underlying hu,hc.1,hc.2,Instr.sureAddr,hT.run_sizeOf w,add_lit]
   ·cases h
  ·cases h
 ·rename_i cs k n hx hi
  rw[rep_int.1 (hrd _ _ hi).1]
  split at h
  ·rename_i m I hI
   split at h
   ·rename_i hc
    obtain ⟨e,i',z,d,hu,hT⟩:=IK hI
    obtain ⟨b,off,e1,hl⟩:=rep_cst.1 (hrd _ _ hx).1
    rw[e1]
    cases hv:lL cs (n.toNat*I.size) I.size I.agg with
    | none=>simp[hv] at h
    | some r =>
     simp[hv] at h; subst h
     refine ⟨_,?_,rep_cst.2 ⟨b,_,rfl,V8 (loc_agg.1 hl) hv⟩,rfl⟩
     simp[Instr.indexAt,asIntOf,run_underlying hu,hc.1,hc.2,Instr.sureAddr,hT.run_sizeOf w,add_lit]
   ·cases h
  ·cases h
 ·cases h
theorem aDE {t:TypeId} {x i:Operand} {rd:Operand→Option PV} {ρ:Operand→Value} (hrd:∀ x q,rd x=some q→Rep M B q (ρ x)∧q.own=false) {p:PV} (h:pop P rd (.index t x i)=some p) (w:World) :
 ∃ v,(Instr.index t (ρ x) (ρ i)).run P w = .ok v w∧Rep M B p v∧p.own=false:=by
 rw[pop] at h
 split at h
 ·rename_i s k n hx hi
  rw[rep_int.1 (hrd _ _ hi).1,rep_str.1 (hrd _ _ hx).1]
  split at h
  ·rename_i hc
   cases hb:s[n.toNat]? with
   | none=>simp[hb] at h
   | some b =>
    simp[hb] at h; subst h
    refine ⟨.int .u8 b.toNat,?_,rep_int.2 rfl,rfl⟩
    simp[Instr.index,asIntOf,run_underlying (qI hc.1),hc.2,hb]
  ·cases h
 ·rename_i cs k n hx hi
  rw[rep_int.1 (hrd _ _ hi).1]
  split at h
  ·rename_i m I hI
   split at h
   ·rename_i hc
    obtain ⟨e,i',z,d,hu,hT⟩:=IK hI
    obtain ⟨vs,e1,hv⟩:=rep_agg.1 (hrd _ _ hx).1
    rw[e1]
    obtain ⟨v,h1,h2⟩:=yF hv hT h w
    refine ⟨v,?_,h2⟩
    simp[Instr.index,asIntOf,run_underlying hu,hc.1,hc.2,hT.run_sizeOf w,h1]
   ·cases h
  ·cases h
 ·cases h
theorem aDG {rd:Operand→Option PV} {ρ:Operand→Value} (hrd:∀ x q,rd x=some q→Rep M B q (ρ x)∧q.own=false) {o:Oper} {p:PV} (h:pop P rd o.op=some p) (w:World) (hmem:∀ (b o:Nat) (v:Value),M b o=some v→w.cell? ⟨b,o,none⟩=some v∧v.oneCell'=true) :
 ∃ v,(execOp ρ o).run P w = .ok (.value v) w∧Rep M B p v∧p.own=false:=by
 obtain ⟨dst,op,type,pos,after,guard⟩:=o
 simp only at h
 have fin:∀ {s:Sem Value},(∃ v,s.run P w = .ok v w∧Rep M B p v∧p.own=false)→execOp ρ ⟨dst,op,type,pos,after,guard⟩=(do pure (.value (← s)))→∃ v,(execOp ρ ⟨dst,op,type,pos,after,guard⟩).run P w = .ok (.value v) w∧Rep M B p v∧p.own=false :=
  fun ⟨v,h1,h2⟩ he=>⟨v,YW he h1,h2⟩
 cases op with
 | move x=>exact ⟨ρ x,rfl,hrd _ _ h⟩
 | assign x=>exact ⟨ρ x,rfl,hrd _ _ h⟩
 | pick c a b =>
  rw[pop] at h
  split at h
  ·rename_i cc hc
   have e:=rep_bool.1 (hrd _ _ hc).1
   cases cc with
   | true=>exact ⟨ρ a,by simp[execOp,e,asBool],hrd _ _ (by simpa using h)⟩
   | false=>exact ⟨ρ b,by simp[execOp,e,asBool],hrd _ _ (by simpa using h)⟩
  ·cases h
 | fieldAddr s x f =>
  rw[pop] at h
  split at h
  ·rename_i fs q hf hq
   cases hj:fs[f]? with
   | none=>simp[hj] at h
   | some ozg =>
    obtain ⟨o,z,g⟩:=ozg
    simp only[hj,Option.bind_some] at h
    split at h
    ·cases h
    ·rename_i hz
     exact fin (a3G (hrd _ _ hq).1 hf hj hz h w) rfl
  ·cases h
 | field s x f =>
  rw[pop] at h
  split at h
  ·rename_i fs cs hf hq
   cases hj:fs[f]? with
   | none=>simp[hj] at h
   | some ozg =>
    obtain ⟨o,z,g⟩:=ozg
    simp only[hj,Option.bind_some] at h
    obtain ⟨Fs,F,I,i,zv,d,hu,hF,ho,hT,hsz,hg⟩:=NK hf hj
    subst ho; subst hsz; subst hg
    obtain ⟨vs,e,hv⟩:=rep_agg.1 (hrd _ _ hq).1
    obtain ⟨v,h1,h2⟩:=yF hv hT h w
    refine fin ⟨v,?_,h2⟩ rfl
    rw[e]
    simp[Instr.field,run_underlying hu,hF,asAgg,h1]
  ·cases h
 | indexAddr t x i=>exact fin (aQN hrd h w) rfl
 | index t x i=>exact fin (aDE hrd h w) rfl
 | slice t x lo hi mx =>
  cases mx with
  | some m =>
   cases lo with
   | none=>simp[pop] at h
   | some l =>
    cases hi with
    | none=>simp[pop] at h
    | some b =>
     rw[pop] at h
     split at h
     ·rename_i q pa pb pc hx ha hb hc
      exact fin (a8Q h (hrd _ _ hx).1 (hrd _ _ ha).1 (hrd _ _ hb).1 (hrd _ _ hc).1 w) rfl
     ·cases h
  | none =>
   rw[pop] at h
   cases hx:rd x with
   | none=>simp[hx] at h
   | some q =>
    cases lo with
    | none =>
     cases hi with
     | none=>simp[hx] at h; exact fin (CU h (hrd _ _ hx).1 (.inl ⟨rfl,rfl⟩) (.inl ⟨rfl,rfl⟩) w) rfl
     | some b =>
      cases hb:rd b with
      | none=>simp[hx,hb] at h
      | some pb=>simp[hx,hb] at h; exact fin (CU h (hrd _ _ hx).1 (.inl ⟨rfl,rfl⟩) (.inr ⟨_,_,rfl,rfl,(hrd _ _ hb).1⟩) w) rfl
    | some a =>
     cases ha:rd a with
     | none=>cases hi<;>simp[hx,ha] at h
     | some pa =>
      cases hi with
      | none=>simp[hx,ha] at h; exact fin (CU h (hrd _ _ hx).1 (.inr ⟨_,_,rfl,rfl,(hrd _ _ ha).1⟩) (.inl ⟨rfl,rfl⟩) w) rfl
      | some b =>
       cases hb:rd b with
       | none=>simp[hx,ha,hb] at h
       | some pb=>simp[hx,ha,hb] at h; exact fin (CU h (hrd _ _ hx).1 (.inr ⟨_,_,rfl,rfl,(hrd _ _ ha).1⟩) (.inr ⟨_,_,rfl,rfl,(hrd _ _ hb).1⟩) w) rfl
 | binOp op t x y yt =>
  rw[pop] at h
  split at h
  ·rename_i a b ha hb
   obtain ⟨h1,v,h2,h3⟩:=aPY h (hrd _ _ ha).1 (hrd _ _ hb).1 w
   refine fin (s:=do eqGuard op t x y (ρ x) (ρ y); binOp op t (ρ x) (ρ y)) ⟨v,?_,h3⟩ rfl
   rw[Sem.run_bind,h1 x y,Result.andThen_ok,h2]
  ·cases h
 | unOp op t x =>
  rw[pop] at h
  cases hx:rd x with
  | none=>simp[hx] at h
  | some q=>simp[hx] at h; exact fin (aVQ h (hrd _ _ hx).1 w) rfl
 | convert s d x =>
  rw[pop] at h
  cases hx:rd x with
  | none=>simp[hx] at h
  | some q=>simp[hx] at h; exact fin (aEN h (hrd _ _ hx).1 w hmem) rfl
 | makeFunc fn first caps =>
  rw[pop] at h
  split at h
  ·rename_i f c hf hc
   cases h
   exact fin (s:=Instr.makeFunc fn (first.map ρ) (caps.map ρ)) ⟨_,rfl,rep_func.2 ⟨_,_,rfl,by simpa using (tH hrd hf).1,by simpa using (tH hrd hc).1⟩,rfl⟩ rfl
  ·cases h
 | extract x i =>
  rw[pop] at h
  cases hx:rd x with
  | none=>simp[hx] at h
  | some q=>simp[hx] at h; exact fin (aNB h (hrd _ _ hx).1 w) rfl
 | nilCheck x =>
  rw[pop] at h
  split at h
  ·rename_i i o hx
   cases h
   obtain ⟨c,_,e⟩:=rep_ptr.1 (hrd _ _ hx).1
   exact ⟨ρ x,by simp[execOp,e],(hrd _ _ hx)⟩
  ·rename_i q hx
   cases h
   obtain ⟨b,off,e,_⟩:=rep_cst.1 (hrd _ _ hx).1
   exact ⟨ρ x,by simp[execOp,e],(hrd _ _ hx)⟩
  ·rename_i f a b hx
   cases h
   obtain ⟨f',c',e,_,_⟩:=rep_func.1 (hrd _ _ hx).1
   exact ⟨ρ x,by simp[execOp,e],(hrd _ _ hx)⟩
  ·cases h
 | build t ps=>exact fin (aDP hrd h w) rfl
 | call c =>
  obtain ⟨v,h1,h2⟩:=aIU (ty:=type) hrd (by simpa[pop] using h) w
  exact ⟨v,h1,h2⟩
 | _=>simp[pop] at h
end
end Go.Proofs.YtcdceiloganlnaaGreatDoor

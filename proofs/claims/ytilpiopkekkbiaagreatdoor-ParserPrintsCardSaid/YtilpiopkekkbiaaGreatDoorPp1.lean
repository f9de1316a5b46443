/- A part of the proof. -/
import Derived.Lib.ItoaNum
import Derived.WalkKit
import Derived.WalkSpells
import Derived.WalkLawsBesides
import Derived.Lib.Hide
import Derived.Below
import Derived.Laws.BytesString
import Derived.Great.BuildSlice
import Derived.Laws.CopyRow
import Derived.Lib.AppendStr
import Derived.Laws.MakeOwn
import Derived.WideMake
import Derived.Lib.OthersKept
set_option linter.unusedVariables false
set_option linter.unusedSimpArgs false
set_option linter.unnecessarySimpa false
set_option linter.unusedSectionVars false
noncomputable section
namespace Go.Proofs.YtilpiopkekkbiaaGreatDoor
open Go.RowKit
abbrev aU:=@List.length_append
abbrev aV:=@if_neg
abbrev aX:=@if_pos
abbrev bF:=@List.length_map
abbrev bI:=@Bool.and_eq_true
abbrev bM:=@List.length_cons
abbrev dY:=@List.getElem_mem
abbrev dZ:=@List.length_nil
abbrev fG:=@Go.run_underlying
abbrev fK:=@Nat.le_refl
abbrev iO:=@List.getElem?_eq_some_iff
abbrev jF:=@List.all_eq_true
abbrev jU:=@List.getElem?_eq_getElem
abbrev kG:=@List.mem_cons
abbrev lI:=@List.cons_append
abbrev lJ:=@List.eq_nil_of_length_eq_zero
abbrev lL:=@List.getElem?_map
abbrev mV:=@List.getElem?_take
abbrev mX:=@Go.Sem.run_bind
abbrev nJ:=@List.append_assoc
abbrev nZ:=@List.mem_of_getElem?
abbrev ng:=@Nat.le_trans
abbrev ny:=@decide_eq_true_eq
abbrev oI:=@Nat.add_mul
abbrev oJ:=@Nat.eq_of_beq_eq_true
abbrev pG:=@Int.toNat_natCast
abbrev qK:=@Nat.zero_add
abbrev qY:=@List.getElem?_set_ne
abbrev qZ:=@List.map_append
abbrev qc:=@beq_eq_false_iff_ne
abbrev sK:=@Array.toList_inj
abbrev sN:=@List.map_cons
abbrev uF:=@List.length_singleton
abbrev uG:=@List.mem_map
abbrev uH:=@beq_iff_eq
abbrev ul:=@Go.wpIn_mono
abbrev vW:=@List.getElem?_append_left
abbrev vX:=@List.mem_append
abbrev vY:=@Nat.mul_le_mul_right
abbrev vZ:=@Go.wp_mono
abbrev wY:=@List.length_take
abbrev wZ:=@Go.Result.andThen_ok
abbrev xw:=@List.length_drop
abbrev xx:=@List.mem_singleton
abbrev yj:=@Array.getElem?_eq_some_iff
abbrev yl:=@List.append_nil
abbrev yu:=@List.mem_iff_getElem?
abbrev yw:=@List.not_mem_nil
abbrev yx:=@Go.World.block_lt_of_cell?
abbrev yz:=@or_false
abbrev zx:=@List.getElem?_set_self
abbrev zy:=@Nat.lt_or_ge
abbrev BA:=@Bool.not_eq_true'
abbrev BB:=@Bool.not_false
abbrev BC:=@List.all_cons
abbrev BD:=@if_true
abbrev D5:=@List.drop_eq_getElem_cons
abbrev D6:=@Nat.blt_eq
abbrev Ed:=@Bool.not_true
abbrev Ee:=@Nat.zero_le
abbrev Gj:=@Bool.false_ne_true
abbrev Gl:=@Bool.or_eq_true
abbrev Gm:=@List.getElem?_append_right
abbrev JE:=@Go.RowKit.Below.heap_alloc
abbrev JF:=@Bool.and_false
abbrev JG:=@Bool.and_self
abbrev JH:=@Int.le_refl
abbrev JI:=@List.drop_eq_nil_of_le
abbrev JJ:=@List.length_set
abbrev JK:=@List.takeWhile_cons
abbrev JL:=@List.take_succ_eq_append_getElem
abbrev JM:=@Nat.beq_eq
abbrev JO:=@Nat.le_of_eq
abbrev JP:=@Nat.succ_mul
abbrev JQ:=@Option.map_eq_some_iff
abbrev JR:=@Go.Sem.run_pure
abbrev N8:=@Bool.true_and
abbrev N9:=@Int.tmod_lt_of_pos
abbrev NC:=@List.drop_eq_nil_iff
abbrev ND:=@List.ext_getElem?
abbrev NE:=@Nat.add_zero
abbrev NF:=@Option.bind_some
abbrev NG:=@Go.World.cell?_of_block
abbrev NH:=@cond_false
abbrev NI:=@of_decide_eq_true
abbrev NJ:=@Go.wpIn_seq
abbrev Qo:=@Bool.false_eq_true
abbrev Qp:=@Go.ByteArray.toList_eq
abbrev Qq:=@Int.tmod_nonneg
abbrev Qr:=@List.drop_drop
abbrev Qs:=@List.flatMap_cons
abbrev Qu:=@List.mem_of_mem_take
abbrev Qv:=@List.take_append_drop
abbrev Qw:=@List.take_of_length_le
abbrev Qx:=@Nat.le_of_ble_eq_true
abbrev Qy:=@Nat.lt_of_lt_of_le
abbrev Qz:=@Go.heap_alloc_new
abbrev RD:=@Go.mem_ready
abbrev RF:=@Go.run_sliceBound
abbrev X7:=@List.any_cons
abbrev X8:=@List.getElem_map
abbrev X9:=@List.map_map
abbrev XA:=@List.map_take
abbrev XB:=@List.mem_append_left
abbrev XC:=@List.mem_append_right
abbrev XD:=@List.mem_range
abbrev XF:=@List.nil_append
abbrev XG:=@Go.MapKept.run_getObj_map
abbrev XH:=@Nat.ble_eq_true_of_le
abbrev XI:=@Option.map_some
abbrev XJ:=@decide_eq_false_iff_not
abbrev XK:=@Go.run_firstCells_some
abbrev a4B:=@Array.getElem?_append_left
abbrev a4C:=@Bool.eq_iff_iff
abbrev a4D:=@Bool.not_eq_true
abbrev a4E:=@Int.tmod_eq_emod_of_nonneg
abbrev a4F:=@List.nodup_cons
abbrev a4G:=@Go.MapKept.bytes_beq
abbrev a4H:=@Nat.min_eq_right
abbrev a4I:=@Go.Oper.upon_value
abbrev a4J:=@Option.some.injEq
abbrev aDV:=@Array.getD_eq_getD_getElem?
abbrev aDW:=@Array.size_replicate
abbrev aDX:=@Bool.or_eq_false_iff
abbrev aDY:=@Int.toNat_of_nonneg
abbrev aDZ:=@List.filter_eq_self
abbrev aD':=@List.getD_eq_getElem?_getD
abbrev aE0:=@List.getElem?_cons_succ
abbrev aE1:=@List.getElem?_drop
abbrev aE2:=@List.getElem?_toArray
abbrev aE3:=@List.getElem_of_mem
abbrev aE4:=@List.pairwise_iff_getElem
abbrev aE5:=@List.range'_succ
abbrev aE6:=@List.range_eq_range'
abbrev aE7:=@Go.MapKept.run_findKey
abbrev aE8:=@Nat.add_sub_cancel_left
abbrev aE9:=@Go.World.cell?_alloc_old
abbrev aW4:=@Array.getElem?_setIfInBounds_ne
abbrev aW5:=@Array.toList_setIfInBounds
abbrev aW6:=@Go.Lib.run_firstCells_string
abbrev aW7:=@Option.bind_eq_some_iff
end Go.Proofs.YtilpiopkekkbiaaGreatDoor
namespace Go.Proofs.YtilpiopkekkbiaaGreatDoor
variable {m c:Int} {k:IntKind} {b g r ow:Bool} {s:Option IntKind} {α:Type} {op:BinOp} {x:Operand} {e:MapEntry}
def aCZ (m:Int):List (Nat×List Value) := [(0,[Value.int .i64 m]),(1,Lib.pow10Tab.map (Value.int .u64))]
def BH (m:Int) (b o:Nat):Option Value:=((aCZ m).lookup b).bind (·[o]?)
structure Mem where
 m:Int
 f:Nat->Nat->Option Value
 g:∀ b o v,BH m b o=some v->f b o=some v
instance:CoeFun Mem (fun _=>Nat->Nat->Option Value):=⟨Mem.f⟩
def yQ (m:Int) (F:Nat->Nat->Option Value):Mem:=⟨m,fun b o=>match BH m b o with | some v=>some v | none=>F b o,fun b o v h=>by simp only[h]⟩
theorem EI {F:Nat->Nat->Option Value} (h:∀ b o v,BH m b o=some v->F b o=some v) (b o:Nat):yQ m F b o=F b o:=by
 show (match BH m b o with | some v=>some v | none=>F b o)=F b o;split
 .rename_i v hv; exact (h b o v hv).symm
 .rfl
theorem UO {M:Mem} {c:Nat} {f:Nat->Option Value} (h:∀ o,M c o=none):∀ b o v,BH M.m b o=some v->(if b=c then f o else M b o)=some v:=fun b o v e=>by
 have hb:b≠c:=fun hb=>by subst hb; have:=M.g _ _ _ e; rw[h] at this; cases this
 rw[aV hb]; exact M.g _ _ _ e
open Go.RowKit
inductive PV where
 | int (k:IntKind) (n:Int)
 | bool (b:Bool)
 | str (s:ByteArray)
 | nilp
 | raw (v:Value)
 | ptr (i off:Nat)
 | dA (T:TypeId) (i:Nat)
 | cst (e:PV)
 | sl (own:Bool) (sz:Nat) (es:List PV)
 | slh (i off n sz:Nat)
 | dC (l:List UInt8)
 | gX (o:Bool) (n sz:Nat) (cs:List PV)
 | mp (l:List PV)
 | func (fn:Fn) (first caps:List PV)
 | agg (cs:List PV)
 | tuple (cs:List PV)
instance:Inhabited PV:=⟨.nilp⟩
abbrev aP:=List (Nat×Nat×TypeId)
abbrev VL:=(Value->Prop)×(Nat->Nat->Prop)
def jQ (M:Mem) (f:Value->Prop):VL:=(f,fun b o=>∃ u,M b o=some u/\f u)
def Em (sz:Nat):List VL->Nat->Nat->Prop
 | [],_,_=>True
 | p::ps,b,o=>p.2 b o/\Em sz ps b (o+sz)
def NM (M:Mem):List VL->Nat->Nat->Prop
 | [],_,_=>True
 | p::ps,b,o=>(∃ u,M b o=some u/\p.1 u)/\NM M ps b (o+1)
def oL:List VL->List Value->Prop
 | [],[]=>True
 | p::ps,v::vs=>p.1 v/\oL ps vs
 | _,_=>False
def PV.size:PV->Nat | .agg cs=>cs.length | _=>1
def PV.isAgg:PV->Bool | .agg _=>true | _=>false
def PV.own:PV->Bool | .sl o _ _=>o | .dC _=>true | .gX o _ _ _=>o | _=>false
def PV.lit:PV->Bool | .int _ _=>true | .bool _=>true | .str _=>true | _=>false
def LH:Mem:=⟨0,BH 0,fun _ _ _ h=>h⟩
def nO (l:List UInt8):List PV:=l.map fun x => .int .u8 x.toNat
def PV.un:PV->PV | .sl _ sz es => .sl false sz es | .dC l => .sl false 1 (nO l) | .gX _ n sz _ => .gX false n sz [] | p=>p
def aO:Nat:=1073741824
def DD:Nat:=1000001
def Y9 (T:Nat) (c:Nat×Nat×Nat) (v:Value):Prop:=match Nat.beq T DD with
 | true=>c.2=(1,0)/\v = .pointer (some ⟨c.1,0,none⟩)
 | false=>c.2=(2,T+1)/\(v = .pointer none\/v = .pointer (some ⟨c.1,0,none⟩))
def Y8 (T:Nat) (c:Nat×Nat×Nat) (v:Value):Prop:=(T=0->c.2=(1,0)/\v = .map (some c.1))/\(T≠0->Y9 T c v)
theorem aYJ {T:Nat} {c:Nat×Nat×Nat} {v:Value} (hT:Nat.beq T DD=false) (h:c.2=(2,T+1)) (hv:v = .pointer none\/v = .pointer (some ⟨c.1,0,none⟩)):Y9 T c v:=by grind [Y9]
def Gt:Nat:=4242
mutual
def bC (M:Mem) (B:aP):PV->VL
 | .int k n=>jQ M fun v=>v = .int k n
 | .bool b=>jQ M fun v=>v = .bool b
 | .str s=>jQ M fun v=>v = .string s
 | .nilp=>jQ M fun v=>v = .pointer none
 | .raw u=>jQ M fun v=>v=u/\u.oneCell'=true
 | .ptr i off=>jQ M fun v=>∃ c,(B[i]? = some c/\c.2.2≠0)/\v = .pointer (some ⟨c.1,off,none⟩)
 | .dA T i=>jQ M fun v=>∃ c,B[i]? = some c/\Y8 T c v
 | .cst e=>jQ M fun v=>∃ b off,v = .pointer (some ⟨b,off,none⟩)/\(bC M [] e).2 b off
 | .sl _ sz es=>jQ M fun v=>∃ A cap,v = .slice A es.length cap/\es.length<=cap/\(∀ e,e∈es->e.size=sz)/\(sz=0->es = []/\A=none/\cap=0)/\(es ≠ []->∃ b off,A=some ⟨b,off,none⟩/\Em sz (iI M [] es) b off)
 | .dC l=>jQ M fun v=>∃ A cap,v = .slice A l.length cap/\l.length<=cap/\(l ≠ []->∃ b off,A=some ⟨b,off,none⟩/\∀ (j:Nat) x,l[j]? = some x->M b (off+j)=some (.int .u8 (x.toNat:Int)))
 | .gX _ n _ _=>jQ M fun v=>∃ A cap,v = .slice A n cap/\n<=cap
 | .mp l=>jQ M fun v=>∃ f,v = .func (.yield Gt) f #[]/\oL (iI M [] l) f.toList
 | .slh i off n sz=>jQ M fun v=>∃ c cap,(B[i]? = some c/\c.2.2≠0)/\v = .slice (some ⟨c.1,off,none⟩) n cap/\n<=cap/\off+cap*sz<=c.2.1
 | .func fn first caps=>jQ M fun v=>∃ f c,v = .func fn f c/\oL (iI M B first) f.toList/\oL (iI M B caps) c.toList
 | .agg cs=>(fun v=>∃ vs,v = .agg vs/\oL (iI M B cs) vs.toList,fun b o=>NM M (iI M B cs) b o)
 | .tuple cs=>(fun v=>∃ vs,v = .tuple vs/\oL (iI M B cs) vs.toList,fun _ _=>False)
def iI (M:Mem) (B:aP):List PV->List VL
 | [] => []
 | p::ps=>bC M B p::iI M B ps
end
def Rep (M:Mem) (B:aP) (p:PV) (v:Value):Prop:=(bC M B p).1 v
def Loc (M:Mem) (B:aP) (p:PV) (b o:Nat):Prop:=(bC M B p).2 b o
def ay (M:Mem) (B:aP) (ps:List PV) (vs:List Value):Prop:=oL (iI M B ps) vs
def Cells (M:Mem) (B:aP) (ps:List PV) (b o:Nat):Prop:=NM M (iI M B ps) b o
def kP (M:Mem) (B:aP) (sz:Nat) (ps:List PV) (b o:Nat):Prop:=Em sz (iI M B ps) b o
section
variable {M:Mem} {B:aP}
theorem dw {n:Int} {v:Value}:Rep M B (.int k n) v↔v = .int k n:=by rfl
theorem kE {v:Value}:Rep M B (.bool b) v↔v = .bool b:=by rfl
theorem iq {s:ByteArray} {v:Value}:Rep M B (.str s) v↔v = .string s:=by rfl
theorem Ip {v:Value}:Rep M B .nilp v↔v = .pointer none:=by rfl
theorem CU {u v:Value}:Rep M B (.raw u) v↔v=u/\u.oneCell'=true:=by rfl
theorem wO {i off:Nat} {v:Value}:Rep M B (.ptr i off) v↔∃ c,(B[i]? = some c/\c.2.2≠0)/\v = .pointer (some ⟨c.1,off,none⟩):=by rfl
theorem Fv {T:TypeId} {i:Nat} {v:Value}:Rep M B (.dA T i) v↔∃ c,B[i]? = some c/\Y8 T c v:=by rfl
theorem Am {e:PV} {v:Value}:Rep M B (.cst e) v↔∃ b off,v = .pointer (some ⟨b,off,none⟩)/\Loc M [] e b off:=by rfl
theorem jR {o:Bool} {sz:Nat} {es:List PV} {v:Value}:Rep M B (.sl o sz es) v↔∃ A cap,v = .slice A es.length cap/\es.length<=cap/\(∀ e,e∈es->e.size=sz)/\(sz=0->es = []/\A=none/\cap=0)/\(es ≠ []->∃ b off,A=some ⟨b,off,none⟩/\kP M [] sz es b off):=by rfl
theorem tZ {i off n sz:Nat} {v:Value}:Rep M B (.slh i off n sz) v↔∃ c cap,(B[i]? = some c/\c.2.2≠0)/\v = .slice (some ⟨c.1,off,none⟩) n cap/\n<=cap/\off+cap*sz<=c.2.1:=by rfl
theorem Fz {o:Bool} {n sz:Nat} {cs:List PV} {v:Value}:Rep M B (.gX o n sz cs) v↔∃ A cap,v = .slice A n cap/\n<=cap:=by rfl
theorem a2X {l:List UInt8} {v:Value}:Rep M B (.dC l) v↔∃ A cap,v = .slice A l.length cap/\l.length<=cap/\(l ≠ []->∃ b off,A=some ⟨b,off,none⟩/\∀ (j:Nat) x,l[j]? = some x->M b (off+j)=some (.int .u8 (x.toNat:Int))):=by rfl
theorem aSZ {l:List PV} {v:Value}:Rep M B (.mp l) v↔∃ f,v = .func (.yield Gt) f #[]/\ay M [] l f.toList:=by rfl
theorem zn {fn:Fn} {first caps:List PV} {v:Value}:Rep M B (.func fn first caps) v↔∃ f c,v = .func fn f c/\ay M B first f.toList/\ay M B caps c.toList:=by rfl
theorem pz {cs:List PV} {v:Value}:Rep M B (.agg cs) v↔∃ vs,v = .agg vs/\ay M B cs vs.toList:=by rfl
theorem tq {cs:List PV} {v:Value}:Rep M B (.tuple cs) v↔∃ vs,v = .tuple vs/\ay M B cs vs.toList:=by rfl
theorem dW {vs:List Value}:ay M B [] vs↔vs = []:=by cases vs<;>simp[ay,iI,oL]
theorem cO {p:PV} {ps:List PV} {vs:List Value}:ay M B (p::ps) vs↔∃ u us,vs=u::us/\Rep M B p u/\ay M B ps us:=by
 cases vs with
 | nil=>simp[ay,iI,oL]
 | cons u us=>exact ⟨fun h=>⟨u,us,rfl,h.1,h.2⟩,fun ⟨_,_,e,h1,h2⟩=>by cases e; exact ⟨h1,h2⟩⟩
theorem aZO {b o:Nat}:Cells M B [] b o:=by simp[Cells,iI,NM]
theorem a5P {p:PV} {ps:List PV} {b o:Nat}:Cells M B (p::ps) b o↔(∃ u,M b o=some u/\Rep M B p u)/\Cells M B ps b (o+1):=by rfl
theorem a1T {sz b o:Nat}:kP M B sz [] b o:=by simp[kP,iI,Em]
theorem Pg {sz:Nat} {p:PV} {ps:List PV} {b o:Nat}:kP M B sz (p::ps) b o↔Loc M B p b o/\kP M B sz ps b (o+sz):=by rfl
theorem yO {cs:List PV} {b o:Nat}:Loc M B (.agg cs) b o↔Cells M B cs b o:=by rfl
theorem zX {p:PV} (h:p.isAgg=false) (ht:∀ cs,p ≠ .tuple cs) {b o:Nat}:Loc M B p b o↔∃ u,M b o=some u/\Rep M B p u:=by cases p<;>first | exact absurd rfl (ht _) | (simp[PV.isAgg] at h; done) | simp[Loc,Rep,bC,jQ]
theorem a1S {cs:List PV} {b o:Nat}:Loc M B (.tuple cs) b o↔False:=by rfl
theorem Vg {l:List UInt8} {v:Value}:Rep M B (.sl false 1 (nO l)) v↔Rep M B (.dC l) v:=by
 rw[jR,a2X];have hl:(nO l).length=l.length:=by simp[nO]
 have hn:nO l ≠ []↔l ≠ []:=by grind
 have hs:∀ e,e∈nO l->e.size=1:=fun e he=>by obtain ⟨x,_,rfl⟩:=uG.1 he; rfl
 have key:∀ b off,kP M [] 1 (nO l) b off↔∀ (j:Nat) x,l[j]? = some x->M b (off+j)=some (.int .u8 (x.toNat:Int)):=by
  intro b off;have one:∀ (x:UInt8) (b o:Nat),Loc M [] (.int .u8 (x.toNat:Int)) b o↔M b o=some (.int .u8 (x.toNat:Int)):=fun x b o=>by simp[Loc,bC,jQ]
  unfold nO;clear hl hn hs;induction l generalizing off with
  | nil=>simp[kP,iI,Em]
  | cons a l ih =>
   refine Iff.trans (by rfl) (Iff.trans (and_congr (one a b off) (ih (off+1))) ?_);constructor;grind
   .intro h;exact ⟨h 0 a rfl,fun j x hj=>by have:=h (j+1) x (by grind); rwa [show off+(j+1)=off+1+j by omega] at this⟩
 simp_all
theorem ou {p:PV} {v:Value}:Rep M B p.un v↔Rep M B p v:=by
 cases p with
 | dC l=>exact Vg
 | gX o n sz cs=>rfl
 | _=>simp[PV.un,jR]
theorem a9V {p:PV} {b o:Nat}:Loc M B p.un b o↔Loc M B p b o:=by
 cases p with
 | dC l =>rw[zX rfl (fun cs h=>by cases h),zX rfl (fun cs h=>by cases h)];simp only[ou]
 | gX o n sz cs =>rfl
 | _=>simp[PV.un,Loc,bC]
theorem aDM (p:PV):p.un.size=p.size:=by cases p<;>rfl
theorem qX (p:PV):p.un.own=false:=by cases p<;>rfl
theorem bVC (p:PV):p.un.un=p.un:=by cases p<;>rfl
theorem oH:∀ {ps:List PV} {vs:List Value},ay M B ps vs->ps.length=vs.length
 | [],vs,h=>by rw[dW] at h; simp[h]
 | p::ps,vs,h=>by obtain ⟨u,us,rfl,_,h2⟩:=cO.1 h;simp[oH h2]
theorem vN:∀ {ps:List PV} {vs:List Value},ay M B ps vs->∀ {j:Nat} {p:PV},ps[j]? = some p->∃ u,vs[j]? = some u/\Rep M B p u
 | [],_,_,j,p,h=>by simp at h
 | q::ps,vs,hr,j,p,h=>by
  obtain ⟨u,us,rfl,h1,h2⟩:=cO.1 hr;cases j with
  | zero=>simp at h; subst h; exact ⟨u,by simp,h1⟩
  | succ j=>obtain ⟨u',hu,hp⟩:=vN h2 h; exact ⟨u',by simpa using hu,hp⟩
theorem Ir:∀ {ps:List PV} {vs:List Value},ps.length=vs.length->(∀ (j:Nat) p u,ps[j]? = some p->vs[j]? = some u->Rep M B p u)->ay M B ps vs
 | [],[],_,_=>dW.2 rfl
 | p::ps,u::us,hl,h=>cO.2 ⟨u,us,rfl,h 0 p u rfl rfl,Ir (by grind) fun j q v hq hv=>h (j+1) q v (by grind) (by grind)⟩
 | [],_::_,hl,_=>by simp at hl
 | _::_,[],hl,_=>by simp at hl
theorem OC:∀ {ps:List PV} {b o:Nat},Cells M B ps b o->∀ {j:Nat} {p:PV},ps[j]? = some p->∃ u,M b (o+j)=some u/\Rep M B p u
 | [],_,_,_,j,p,h=>by simp at h
 | q::ps,b,o,hc,j,p,h=>by
  obtain ⟨h1,h2⟩:=a5P.1 hc;cases j with
  | zero=>simp at h; subst h; simpa using h1
  | succ j=>obtain ⟨u,hu,hp⟩:=OC h2 h; exact ⟨u,by rw[<- hu]; congr 1; omega,hp⟩
theorem Ey:∀ {ps:List PV} {b o:Nat},(∀ (j:Nat) p,ps[j]? = some p->∃ u,M b (o+j)=some u/\Rep M B p u)->Cells M B ps b o
 | [],_,_,_=>aZO
 | p::ps,b,o,h=>a5P.2 ⟨by simpa using h 0 p rfl,Ey fun j q hq=>by obtain ⟨u,hu,hr⟩:=h (j+1) q (by grind); grind⟩
theorem EF:∀ {ps:List PV} {sz b o:Nat},kP M B sz ps b o->∀ {j:Nat} {p:PV},ps[j]? = some p->Loc M B p b (o+j*sz)
 | [],_,_,_,_,j,p,h=>by simp at h
 | q::ps,sz,b,o,hc,j,p,h=>by
  obtain ⟨h1,h2⟩:=Pg.1 hc;cases j with
  | zero=>simp at h; subst h; simpa using h1
  | succ j=>have:=EF h2 h; rwa [show o+(j+1)*sz=o+sz+j*sz by rw[JP]; omega]
theorem zY:∀ {ps:List PV} {sz b o:Nat},(∀ (j:Nat) p,ps[j]? = some p->Loc M B p b (o+j*sz))->kP M B sz ps b o
 | [],_,_,_,_=>a1T
 | p::ps,sz,b,o,h=>Pg.2 ⟨by simpa using h 0 p rfl,zY fun j q hq=>by have:=h (j+1) q (by grind); rwa [show o+(j+1)*sz=o+sz+j*sz by rw[JP]; omega] at this⟩
theorem aQC {ps qs:List PV} {sz b o:Nat} (h1:kP M B sz ps b o) (h2:kP M B sz qs b (o+ps.length*sz)):kP M B sz (ps ++ qs) b o :=
 zY fun j p hp=>by
  rcases zy j ps.length with h | h
  grind [EF]
  .have:=EF h2 (by rwa [Gm h] at hp);rwa [show o+ps.length*sz+(j-ps.length)*sz=o+j*sz by rw[Nat.add_assoc,<- oI]; grind] at this
end
structure dH (M M':Mem) (B B':aP):Prop where
 mem:∀ (b o:Nat) (v:Value),M b o=some v->M' b o=some v
 blk:∀ (i:Nat) (c:Nat×Nat×TypeId),B[i]? = some c->B'[i]? = some c
theorem dH.refl (M:Mem) (B:aP):dH M M B B:=⟨fun _ _ _ h=>h,fun _ _ h=>h⟩
theorem dH.none {M M':Mem} {B B':aP} (h:dH M M' B B'):dH M M' [] []:=⟨h.mem,fun _ _ e=>e⟩
theorem dH.zero (M:Mem) (B:aP):dH M M [] B:=⟨fun _ _ _ e=>e,fun i c e=>by simp at e⟩
theorem dH.trans {M M' M'':Mem} {B B' B'':aP} (h:dH M M' B B') (k:dH M' M'' B' B''):dH M M'' B B'':=⟨fun b o v e=>k.mem b o v (h.mem b o v e),fun i c e=>k.blk i c (h.blk i c e)⟩
section
variable {M M':Mem} {B B':aP}
mutual
theorem a3B {B B':aP} (h:dH M M' B B'):∀ p:PV,(∀ v,(bC M B p).1 v->(bC M' B' p).1 v)/\(∀ b o,(bC M B p).2 b o->(bC M' B' p).2 b o)
 | .int k n=>by simp only[bC,jQ]; exact ⟨fun _ h=>h,fun b o ⟨u,hu,e⟩=>⟨u,h.mem _ _ _ hu,e⟩⟩
 | .bool _=>by simp only[bC,jQ]; exact ⟨fun _ h=>h,fun b o ⟨u,hu,e⟩=>⟨u,h.mem _ _ _ hu,e⟩⟩
 | .str _=>by simp only[bC,jQ]; exact ⟨fun _ h=>h,fun b o ⟨u,hu,e⟩=>⟨u,h.mem _ _ _ hu,e⟩⟩
 | .nilp=>by simp only[bC,jQ]; exact ⟨fun _ h=>h,fun b o ⟨u,hu,e⟩=>⟨u,h.mem _ _ _ hu,e⟩⟩
 | .raw _=>by simp only[bC,jQ]; exact ⟨fun _ h=>h,fun b o ⟨u,hu,e⟩=>⟨u,h.mem _ _ _ hu,e⟩⟩
 | .ptr i off=>by
  have key:∀ v,(∃ c,(B[i]? = some c/\c.2.2≠0)/\v=Value.pointer (some ⟨c.1,off,none⟩))->∃ c,(B'[i]? = some c/\c.2.2≠0)/\v=Value.pointer (some ⟨c.1,off,none⟩):=fun v ⟨c,hc,e⟩=>⟨c,⟨h.blk _ _ hc.1,hc.2⟩,e⟩
  simp only[bC,jQ]; exact ⟨key,fun b o ⟨u,hu,e⟩=>⟨u,h.mem _ _ _ hu,key u e⟩⟩
 | .dA T i=>by
  have key:∀ v,(∃ c,B[i]? = some c/\Y8 T c v)->∃ c,B'[i]? = some c/\Y8 T c v:=fun v ⟨c,hc,e⟩=>⟨c,h.blk _ _ hc,e⟩
  simp only[bC,jQ]; exact ⟨key,fun b o ⟨u,hu,e⟩=>⟨u,h.mem _ _ _ hu,key u e⟩⟩
 | .cst e=>by
  have ih:=(a3B h.none e).2;have key:∀ v,(∃ b off,v=Value.pointer (some ⟨b,off,none⟩)/\(bC M [] e).2 b off)->(∃ b off,v=Value.pointer (some ⟨b,off,none⟩)/\(bC M' [] e).2 b off):=fun v ⟨b,off,e,hl⟩=>⟨b,off,e,ih _ _ hl⟩
  simp only[bC,jQ]; exact ⟨key,fun b o ⟨u,hu,e⟩=>⟨u,h.mem _ _ _ hu,key u e⟩⟩
 | .sl _ sz es=>by
  have ih:=(EZ h.none es).2.1;have key:∀ v,(∃ A cap,v=Value.slice A es.length cap/\es.length<=cap/\(∀ e,e∈es->e.size=sz)/\(sz=0->es = []/\A=none/\cap=0)/\(es ≠ []->∃ b off,A=some ⟨b,off,none⟩/\Em sz (iI M [] es) b off)) ->
   (∃ A cap,v=Value.slice A es.length cap/\es.length<=cap/\(∀ e,e∈es->e.size=sz)/\(sz=0->es = []/\A=none/\cap=0)/\(es ≠ []->∃ b off,A=some ⟨b,off,none⟩/\Em sz (iI M' [] es) b off)):=fun v ⟨A,cap,e,h1,h2,h3,h4⟩=>⟨A,cap,e,h1,h2,h3,fun hc=>by obtain ⟨b,off,hb,hl⟩:=h4 hc;exact ⟨b,off,hb,ih sz b off hl⟩⟩
  simp only[bC,jQ]; exact ⟨key,fun b o ⟨u,hu,e⟩=>⟨u,h.mem _ _ _ hu,key u e⟩⟩
 | .slh i off n sz=>by
  have key:∀ v,(∃ c cap,(B[i]? = some c/\c.2.2≠0)/\v=Value.slice (some ⟨c.1,off,none⟩) n cap/\n<=cap/\off+cap*sz<=c.2.1)->(∃ c cap,(B'[i]? = some c/\c.2.2≠0)/\v=Value.slice (some ⟨c.1,off,none⟩) n cap/\n<=cap/\off+cap*sz<=c.2.1):=fun v ⟨c,cap,hc,e⟩=>⟨c,cap,⟨h.blk _ _ hc.1,hc.2⟩,e⟩
  simp only[bC,jQ]; exact ⟨key,fun b o ⟨u,hu,e⟩=>⟨u,h.mem _ _ _ hu,key u e⟩⟩
 | .gX o n z cs=>by simp only[bC,jQ]; exact ⟨fun _ h=>h,fun b o ⟨u,hu,e⟩=>⟨u,h.mem _ _ _ hu,e⟩⟩
 | .mp l=>by
  have i1:=(EZ h.none l).1;have key:∀ v,(∃ f,v=Value.func (.yield Gt) f #[]/\oL (iI M [] l) f.toList)->(∃ f,v=Value.func (.yield Gt) f #[]/\oL (iI M' [] l) f.toList):=fun v ⟨f,e,h1⟩=>⟨f,e,i1 _ h1⟩
  simp only[bC,jQ]; exact ⟨key,fun b o ⟨u,hu,e⟩=>⟨u,h.mem _ _ _ hu,key u e⟩⟩
 | .dC l=>by
  have key:∀ v,(∃ A cap,v=Value.slice A l.length cap/\l.length<=cap/\(l ≠ []->∃ b off,A=some ⟨b,off,none⟩/\∀ (j:Nat) x,l[j]? = some x->M b (off+j)=some (.int .u8 (x.toNat:Int)))) ->
   (∃ A cap,v=Value.slice A l.length cap/\l.length<=cap/\(l ≠ []->∃ b off,A=some ⟨b,off,none⟩/\∀ (j:Nat) x,l[j]? = some x->M' b (off+j)=some (.int .u8 (x.toNat:Int)))):=fun v ⟨A,cap,e,h1,h2⟩=>⟨A,cap,e,h1,fun hc=>by obtain ⟨b,off,hb,hl⟩:=h2 hc;exact ⟨b,off,hb,fun j x hj=>h.mem _ _ _ (hl j x hj)⟩⟩
  simp only[bC,jQ]; exact ⟨key,fun b o ⟨u,hu,e⟩=>⟨u,h.mem _ _ _ hu,key u e⟩⟩
 | .func fn first caps=>by
  have i1:=(EZ h first).1;have i2:=(EZ h caps).1;have key:∀ v,(∃ f c,v=Value.func fn f c/\oL (iI M B first) f.toList/\oL (iI M B caps) c.toList)->(∃ f c,v=Value.func fn f c/\oL (iI M' B' first) f.toList/\oL (iI M' B' caps) c.toList):=fun v ⟨f,c,e,h1,h2⟩=>⟨f,c,e,i1 _ h1,i2 _ h2⟩
  simp only[bC,jQ]; exact ⟨key,fun b o ⟨u,hu,e⟩=>⟨u,h.mem _ _ _ hu,key u e⟩⟩
 | .agg cs=>by have ih:=EZ h cs;simp only[bC]; exact ⟨fun v ⟨vs,e,hv⟩=>⟨vs,e,ih.1 _ hv⟩,fun b o hc=>ih.2.2 b o hc⟩
 | .tuple cs=>by have ih:=EZ h cs;simp only[bC]; exact ⟨fun v ⟨vs,e,hv⟩=>⟨vs,e,ih.1 _ hv⟩,fun b o hc=>hc⟩
theorem EZ {B B':aP} (h:dH M M' B B'):∀ ps:List PV,(∀ vs,oL (iI M B ps) vs->oL (iI M' B' ps) vs)/\(∀ sz b o,Em sz (iI M B ps) b o->Em sz (iI M' B' ps) b o)/\(∀ b o,NM M (iI M B ps) b o->NM M' (iI M' B' ps) b o)
 | []=>by simp only[iI]; exact ⟨fun vs h=>by cases vs<;>simpa[oL] using h,fun _ _ _ _=>trivial,fun _ _ _=>trivial⟩
 | p::ps=>by
  have h1:=a3B h p;have h2:=EZ h ps;simp only[iI];exact ⟨fun vs hv=>by
   cases vs with
   | nil=>simp[oL] at hv
   | cons v vs=>exact ⟨h1.1 _ hv.1,h2.1 _ hv.2⟩,fun sz b o hl=>⟨h1.2 _ _ hl.1,h2.2.1 _ _ _ hl.2⟩,fun b o ⟨⟨u,hu,hr⟩,hc⟩=>⟨⟨u,h.mem _ _ _ hu,h1.1 _ hr⟩,h2.2.2 _ _ hc⟩⟩
end
theorem Rep.mono (h:dH M M' B B') {p:PV} {v:Value} (hr:Rep M B p v):Rep M' B' p v:=(a3B h p).1 v hr
theorem Loc.mono (h:dH M M' B B') {p:PV} {b o:Nat} (hr:Loc M B p b o):Loc M' B' p b o:=(a3B h p).2 b o hr
theorem ay.mono (h:dH M M' B B') {ps:List PV} {vs:List Value} (hr:ay M B ps vs):ay M' B' ps vs:=(EZ h ps).1 vs hr
theorem kP.mono (h:dH M M' B B') {sz:Nat} {ps:List PV} {b o:Nat} (hr:kP M B sz ps b o):kP M' B' sz ps b o:=(EZ h ps).2.1 sz b o hr
theorem Cells.mono (h:dH M M' B B') {ps:List PV} {b o:Nat} (hr:Cells M B ps b o):Cells M' B' ps b o:=(EZ h ps).2.2 b o hr
end
mutual
def PV.flat:PV->Bool
 | .ptr _ _=>false
 | .dA _ _=>false
 | .slh _ _ _ _=>false
 | .func _ f c=>PV.flats f&&PV.flats c
 | .agg cs=>PV.flats cs
 | .tuple cs=>PV.flats cs
 | _=>true
def PV.flats:List PV->Bool
 | []=>true
 | p::ps=>p.flat&&PV.flats ps
end
section
variable {M:Mem} {B:aP}
mutual
theorem aTX (B':aP):∀ p:PV,p.flat=true->bC M B p=bC M B' p
 | .int _ _,_=>by simp only[bC]
 | .bool _,_=>by simp only[bC]
 | .str _,_=>by simp only[bC]
 | .nilp,_=>by simp only[bC]
 | .raw _,_=>by simp only[bC]
 | .ptr _ _,h=>by simp[PV.flat] at h
 | .dA _ _,h=>by simp[PV.flat] at h
 | .slh _ _ _ _,h=>by simp[PV.flat] at h
 | .dC _,_=>by simp only[bC]
 | .gX _ _ _ _,_=>by simp only[bC]
 | .mp _,_=>by simp only[bC]
 | .cst e,_=>by simp only[bC]
 | .sl _ _ es,_=>by simp only[bC]
 | .func _ f c,h=>by simp only[PV.flat,bI] at h;simp only[bC,QM B' f h.1,QM B' c h.2]
 | .agg cs,h=>by simp only[bC,QM B' cs (by simpa[PV.flat] using h)]
 | .tuple cs,h=>by simp only[bC,QM B' cs (by simpa[PV.flat] using h)]
theorem QM (B':aP):∀ ps:List PV,PV.flats ps=true->iI M B ps=iI M B' ps
 | [],_=>by simp only[iI]
 | p::ps,h=>by simp only[PV.flats,bI] at h;simp only[iI,aTX B' p h.1,QM B' ps h.2]
end
theorem Rep.flat (B':aP) {p:PV} {v:Value} (hf:p.flat=true) (h:Rep M B p v):Rep M B' p v:=by grind [Rep,aTX]
theorem ay.flat (B':aP) {ps:List PV} {vs:List Value} (hf:PV.flats ps=true) (h:ay M B ps vs):ay M B' ps vs:=by grind [ay,QM]
end
abbrev fP:=List (Nat×PV)
abbrev aG:=List (Option (List PV))
def bZ (k:Nat):fP->Option PV
 | []=>none
 | (j,p)::l=>if j=k then some p else bZ k l
def iM (k:Nat) (p:PV):fP->fP
 | [] => [(k,p)]
 | (j,q)::l=>if j=k then (k,p)::l else if k<j then (k,p)::(j,q)::l else (j,q)::iM k p l
structure ASt where
 s:fP
 h:aG
def bT (p:PV) (v:Value) (b:Nat):Nat:=if p.own then (match v with | .slice (some a) _ _=>if a.block=b then 1 else 0 | _=>0) else 0
def ik:fP->Array Value->Nat->Nat
 | [],_,_=>0
 | (k,p)::l,t,b=>bT p (t.getD k undef) b+ik l t b
def dn:List PV->List Value->Nat->Nat
 | p::ps,v::vs,b=>bT p v b+dn ps vs b
 | _,_,_=>0
def uu (es:List MapEntry):List Value:=es.flatMap fun e => [e.key,e.val]
def DT:List UInt8->List UInt8->Bool
 | [],[]=>false
 | [],_::_=>true
 | _::_,[]=>false
 | a::az,b::bs=>Nat.blt a.toNat b.toNat||(Nat.beq a.toNat b.toNat&&DT az bs)
def Uk:Value->Value->Bool
 | .string a,.string b=>DT a.data.toList b.data.toList
 | _,_=>false
def tJ:Value->Bool | .string _=>true | _=>false
def GK:Value->Value->Bool
 | .string a,.string b=>a.data.toList==b.data.toList
 | _,_=>false
def uO (e:MapEntry):List MapEntry->List MapEntry
 | [] => [e]
 | x::l=>if Uk e.key x.key then e::x::l else x::uO e l
def H5 (l:List MapEntry) (e:MapEntry):List MapEntry :=if (tJ e.key&&l.all fun x=>tJ x.key) && !(l.any fun x=>GK e.key x.key) then uO e l else l ++ [e]
def qi (es:List MapEntry):List MapEntry:=es.foldl H5 []
def IM (es:Array MapEntry):Value := .func (.yield Gt) (uu (qi es.toList)).toArray #[]
def XZ:Nat:=4243
def I5 (s:ByteArray) (pos:Nat):Value := .func (.yield XZ) #[.string s,.int .i64 pos] #[]
def rowAt (w:World) (b:Nat):Option (Array Value×Nat):=match w.heap[b]? with
 | some (.cells vs ty (0,0))=>some (vs,ty+1)
 | some (.map es _)=>some (#[IM es],0)
 | some (.stringIter s pos)=>some (#[I5 s pos],0)
 | _=>none
theorem Lm {w w':World} {b:Nat} (h:w'.heap[b]? = w.heap[b]?):rowAt w' b=rowAt w b:=by unfold rowAt; rw[h]
theorem CW {w:World} {b:Nat} {vs:Array Value} {ty:TypeId} (h:w.heap[b]? = some (.cells vs ty (0,0))):rowAt w b=some (vs,ty+1):=by grind [rowAt]
theorem aCA {w:World} {b:Nat} {es:Array MapEntry} {ck:Nat} (h:w.heap[b]? = some (.map es ck)):rowAt w b=some (#[IM es],0):=by unfold rowAt; rw[h]
theorem EU {w:World} {b:Nat} {vs:Array Value} {T:Nat} (h:rowAt w b=some (vs,T)) (hT:T≠0):∃ ty,T=ty+1/\w.heap[b]? = some (.cells vs ty (0,0)):=by grind [rowAt]
theorem aC9 {w:World} {b:Nat} {s:ByteArray} {pos:Nat} (h:w.heap[b]? = some (.stringIter s pos)):rowAt w b=some (#[I5 s pos],0):=by unfold rowAt; rw[h]
theorem aTE {w:World} {b:Nat} {vs:Array Value} (h:rowAt w b=some (vs,0)):(∃ es ck,w.heap[b]? = some (.map es ck)/\vs = #[IM es])\/∃ s pos,w.heap[b]? = some (.stringIter s pos)/\vs = #[I5 s pos]:=by grind [rowAt]
def gy (w:World) (b:Nat):List Value:=match rowAt w b with | some (c,_)=>c.toList | none => []
def aT (w:World):aG->aP->Nat->Nat
 | some cs::h,c::B,b=>(if c.1=b then 1 else 0)+dn cs (gy w c.1) b+aT w h B b
 | none::h,_::B,b=>aT w h B b
 | _,_,_=>0
def TlS (M:Mem) (w:World) (p:PV) (v:Value):Prop :=∀ sz es A n cap,p = .sl true sz es->v = .slice A n cap->(A=none->cap=0)/\(sz=0->A=none)/\∀ a,A=some a->∃ cs ty,w.heap[a.block]? = some (.cells cs ty (0,0))/\a.off+cap*sz<=cs.size/\(∀ o,a.off+es.length*sz<=o->M a.block o=none)/\a.spot=none/\a.off=0
def Jj:TypeId:=5
def TlT (M:Mem) (w:World) (p:PV) (v:Value):Prop :=∀ l A n cap,p = .dC l->v = .slice A n cap->(A=none->cap=0)/\∀ a,A=some a->∃ cs,w.heap[a.block]? = some (.cells cs Jj (0,0))/\cs.size=cap/\cap<=maxLen/\(∀ o,l.length<=o->M a.block o=none)/\a.spot=none/\a.off=0
def TlP (M:Mem) (w:World) (p:PV) (v:Value):Prop :=∀ n sz cs A m cap,p = .gX true n sz cs->v = .slice A m cap->(cs.length=n*sz/\0<sz)/\(A=none->cap=0)/\∀ a,A=some a->∃ vs ty,w.heap[a.block]? = some (.cells vs ty (0,0))/\cap*sz<=vs.size/\(∀ (j:Nat) p,cs[j]? = some p->p.lit=true/\∃ u,vs[j]? = some u/\Rep LH [] p u/\u.oneCell'=true)/\(∀ o,M a.block o=none)/\a.spot=none/\a.off=0
structure Tl (M:Mem) (w:World) (p:PV) (v:Value):Prop where
 s:TlS M w p v
 t:TlT M w p v
 p:TlP M w p v
theorem Qc {M:Mem} {w:World} {p:PV} {v:Value} (hp:∀ l,p ≠ .dC l) (h:TlS M w p v) (hq:∀ n z cs,p ≠ .gX true n z cs:=by intro _ _ _ h; cases h):Tl M w p v:=⟨h,fun l _ _ _ e _=>absurd e (hp l),fun n z cs _ _ _ e _=>absurd e (hq n z cs)⟩
theorem aD1 {M:Mem} {w:World} {n z:Nat} {cs:List PV} {v:Value} (h:TlP M w (.gX true n z cs) v):Tl M w (.gX true n z cs) v:=⟨(fun _ _ _ _ _ e _=>by cases e),(fun _ _ _ _ e _=>by cases e),h⟩
def a4U (M:Mem) (B:aP) (w:World) (cs:List PV) (c:Nat×Nat×TypeId):Prop :=∃ vs ty,rowAt w c.1=some (vs,ty)/\(vs.size=c.2.1/\ty=c.2.2)/\cs.length<=vs.size/\(∀ (j:Nat) p,cs[j]? = some p->∃ v,vs[j]? = some v/\Rep M B p v/\Tl M w p v/\v.oneCell'=true)/\∀ o,M c.1 o=none
def qf (M:Mem) (B:aP) (w:World) (h:aG):Prop:=h.length=B.length/\∀ (i:Nat) cs,h[i]? = some (some cs)->∃ c,B[i]? = some c/\a4U M B w cs c
def fp (B:aP) (Z:ASt) (t:Array Value) (w:World) (b:Nat):Nat:=ik Z.s t b+aT w Z.h B b
def jM (s:fP):Prop:=s.Pairwise fun a b=>a.1<b.1
structure Inv (n:Nat) (M:Mem) (B:aP) (out:Nat->Nat) (Z:ASt) (t:Array Value) (w:World):Prop where
 size:t.size=n
 mem:∀ (b o:Nat) (v:Value),M b o=some v->w.cell? ⟨b,o,none⟩=some v/\v.oneCell'=true
 iC:jM Z.s
 slots:∀ k p,bZ k Z.s=some p->k<n/\Rep M B p (t.getD k undef)/\Tl M w p (t.getD k undef)
 heap:qf M B w Z.h
 cnt:∀ b,fp B Z t w b+out b<=1
 new:∀ b,w.heap.size<=b->fp B Z t w b+out b=0
structure Fr (f:Nat->Nat) (M:Mem) (w:World) (M':Mem) (w':World):Prop where
 os:w'.os=w.os
 tape:w'.tape=w.tape
 output:w'.output=w.output
 size:w.heap.size<=w'.heap.size
 blk:∀ b,b<w.heap.size->f b=0->w'.heap[b]? = w.heap[b]? /\ ∀ o,M' b o=M b o
theorem Fr.refl (f:Nat->Nat) (M:Mem) (w:World):Fr f M w M w:=⟨rfl,rfl,rfl,fK _,fun _ _ _=>⟨rfl,fun _=>rfl⟩⟩
theorem Fr.trans {f g:Nat->Nat} {M M' M'':Mem} {w w' w'':World} (h:Fr f M w M' w') (k:Fr g M' w' M'' w'') (hg:∀ b,b<w.heap.size->f b=0->g b=0):Fr f M w M'' w'' :=⟨k.os.trans h.os,k.tape.trans h.tape,k.output.trans h.output,ng h.size k.size,fun b hb hf=>by obtain ⟨h1,h2⟩:=h.blk b hb hf;obtain ⟨k1,k2⟩:=k.blk b (Qy hb h.size) (hg b hb hf);simp_all⟩
theorem Fr.mono {f g:Nat->Nat} {M M':Mem} {w w':World} (h:Fr f M w M' w') (hg:∀ b,b<w.heap.size->g b=0->f b=0):Fr g M w M' w' :=⟨h.os,h.tape,h.output,h.size,fun b hb h0=>h.blk b hb (hg b hb h0)⟩
structure Good (n:Nat) (out:Nat->Nat) (M:Mem) (B:aP) (Z:ASt) (t:Array Value) (w:World) (M':Mem) (B':aP) (Z':ASt) (t':Array Value) (w':World):Prop where
 inv:Inv n M' B' out Z' t' w'
 le:dH M M' B B'
 fr:Fr (fp B Z t w) M w M' w'
 own:∀ b,b<w.heap.size->fp B' Z' t' w' b<=fp B Z t w b
theorem Good.refl {n:Nat} {out:Nat->Nat} {M:Mem} {B:aP} {Z:ASt} {t:Array Value} {w:World} (h:Inv n M B out Z t w):Good n out M B Z t w M B Z t w :=⟨h,dH.refl _ _,Fr.refl _ _ _,fun _ _=>fK _⟩
theorem Good.trans {n:Nat} {out:Nat->Nat} {M M1 M2:Mem} {B B1 B2:aP} {Z Z1 Z2:ASt} {t t1 t2:Array Value} {w w1 w2:World}
 (h:Good n out M B Z t w M1 B1 Z1 t1 w1) (k:Good n out M1 B1 Z1 t1 w1 M2 B2 Z2 t2 w2):Good n out M B Z t w M2 B2 Z2 t2 w2 :=
 ⟨k.inv,h.le.trans k.le,h.fr.trans k.fr (fun b hb h0=>by have:=h.own b hb; omega),fun b hb=>ng (k.own b (Qy hb h.fr.size)) (h.own b hb)⟩
theorem Ox {t:Array Value} {k j:Nat} {v:Value} (h:k≠j):(t.setIfInBounds k v).getD j undef=t.getD j undef:=by simp[h]
theorem UN {t:Array Value} {k:Nat} {v:Value} (h:k<t.size):(t.setIfInBounds k v).getD k undef=v:=by simp[h]
theorem Cc {kp:Nat×PV} {l:fP}:jM (kp::l)↔(∀ a,a∈l->kp.1<a.1)/\jM l:=by simp[jM]
theorem aUP {k:Nat} {p:PV}:∀ {s:fP} {a:Nat×PV},a∈iM k p s->a=(k,p)\/a∈s
 | [],a,h=>by simpa[iM] using h
 | (j,q)::l,a,h=>by
  rw[iM] at h;split at h
  grind
  .split at h
   simp_all
   .rcases kG.1 h with h | h
    .exact .inr (by simp[h])
    .rcases aUP h with h | h
     .exact .inl h
     .exact .inr (by simp[h])
theorem Cb {k:Nat} {p:PV}:∀ {s:fP},jM s->jM (iM k p s)
 | [],_=>by simp[iM,jM]
 | (j,q)::l,h=>by
  obtain ⟨h1,h2⟩:=Cc.1 h;rw[iM];split
  .rename_i e; subst e; exact Cc.2 ⟨h1,h2⟩
  .split
   .rename_i hlt; exact Cc.2 ⟨fun a ha=>by
     rcases kG.1 ha with rfl | ha
     .exact hlt
     .exact Nat.lt_trans hlt (h1 a ha),h⟩
   .exact Cc.2 ⟨fun a ha=>by
     rcases aUP ha with rfl | ha
     .omega
     .exact h1 a ha,Cb h2⟩
theorem QO {k:Nat}:∀ {s:fP},(∀ a,a∈s->k<a.1)->bZ k s=none
 | [],_=>rfl
 | (j,q)::l,h=>by have:=h (j,q) (by simp);rw[bZ,aV (by omega)];exact QO fun a ha=>h a (by simp[ha])
theorem CZ {k:Nat} {p:PV} (j:Nat):∀ {s:fP},jM s->bZ j (iM k p s)=if k=j then some p else bZ j s
 | [],_=>by rfl
 | (i,q)::l,h=>by
  obtain ⟨h1,h2⟩:=Cc.1 h;rw[iM];split
  .rename_i e; subst e; simp only[bZ]; split<;>rfl
  .split
   .simp only[bZ]
   .rw[bZ,CZ j h2,bZ];by_cases h3:i=j
    .subst h3; rw[aX rfl,aX rfl,aV (by omega)]
    .rw[aV h3,aV h3]
theorem a3F {k:Nat} {p:PV}:∀ {s:fP},bZ k s=some p->(k,p)∈s
 | [],h=>by simp[bZ] at h
 | (j,q)::l,h=>by
  rw[bZ] at h;split at h
  .rename_i e; subst e; injection h with h; subst h; simp
  .exact List.mem_cons_of_mem _ (a3F h)
theorem aAK {k:Nat} {v:Value} {t:Array Value} {b:Nat}:∀ {l:fP},(∀ a,a∈l->a.1≠k)->ik l (t.setIfInBounds k v) b=ik l t b
 | [],_=>rfl
 | (j,q)::l,h=>by rw[ik,ik,Ox (Ne.symm (h (j,q) (by simp))),aAK fun a ha=>h a (by simp[ha])]
def pg (s:fP) (t:Array Value) (k b:Nat):Nat:=match bZ k s with | some q=>bT q (t.getD k undef) b | none=>0
theorem VR {k:Nat} {p:PV} {v:Value} {t:Array Value} {b:Nat} (hk:k<t.size):∀ {s:fP},jM s->ik (iM k p s) (t.setIfInBounds k v) b+pg s t k b=ik s t b+bT p v b
 | [],_=>by simp[iM,ik,pg,bZ,hk]
 | (j,q)::l,h=>by
  obtain ⟨h1,h2⟩:=Cc.1 h;rw[iM];split
  .rename_i e; subst e;have hl:∀ a,a∈l->a.1≠j:=fun a ha=>by have:=h1 a ha; omega
   simp only[ik,UN hk,aAK hl,pg,bZ,BD];omega
  .split
   .rename_i hne hlt;have hl:∀ a,a∈(j,q)::l->a.1≠k:=fun a ha=>by
     rcases kG.1 ha with rfl | ha
     .exact hne
     .have:=h1 a ha; omega
    have hn:bZ k ((j,q)::l)=none:=QO fun a ha=>by
     rcases kG.1 ha with rfl | ha
     .exact hlt
     .have:=h1 a ha; omega
    rw[ik,UN hk,aAK hl,pg,hn];show _+0=_;omega
   .rename_i hne hnl;have ih:=VR (p:=p) (v:=v) (b:=b) hk h2;have e1:pg ((j,q)::l) t k b=pg l t k b:=by simp only[pg,bZ,aV hne]
    rw[ik,ik,Ox (Ne.symm hne)];omega
theorem QA (p:PV) (v:Value) (b:Nat):bT p.un v b=0:=by simp[bT,qX]
theorem dP {p:PV} (h:p.own=false) (v:Value) (b:Nat):bT p v b=0:=by simp[bT,h]
theorem EN {s:fP} {t:Array Value} {k b:Nat}:pg s t k b<=ik s t b:=by
 induction s with
 | nil=>simp[pg,bZ]
 | cons a l ih =>grind [pg,bZ,ik]
theorem fJ {M:Mem} {w:World} {p:PV} {v:Value} (h:p.own=false):Tl M w p v:=⟨fun sz es A n cap e _=>by grind [PV.own],fun l A n cap e _=>by grind [PV.own],fun n z cs A m cap e _=>by grind [PV.own]⟩
section
variable {n:Nat} {M:Mem} {B:aP} {out:Nat->Nat} {Z:ASt} {t:Array Value} {w:World}
theorem Tl.kept {M':Mem} {w':World} {p:PV} {v:Value} (h:Tl M w p v) (hb:∀ b,bT p v b=1->w'.heap[b]? = w.heap[b]? /\ ∀ o,M' b o=M b o):Tl M' w' p v:=by
 refine ⟨fun sz es A n cap e ev => ?_,fun l A n cap e ev => ?_,fun n z cs A m cap e ev => ?_⟩
 .obtain ⟨g1,g2,g3⟩:=h.s sz es A n cap e ev;grind [bT,PV.own]
 .obtain ⟨g1,g3⟩:=h.t l A n cap e ev;grind [bT,PV.own]
 .obtain ⟨g0,g1,g3⟩:=h.p n z cs A m cap e ev;grind [bT,PV.own]
theorem Inv.put (hI:Inv n M B out Z t w) {k:Nat} (hk:k<n) {p:PV} {v:Value} (hr:Rep M B p v) (ho:p.own=false) :
 Good n out M B Z t w M B { Z with s:=iM k p Z.s } (t.setIfInBounds k v) w:=by
 have hle:∀ b,fp B { Z with s:=iM k p Z.s } (t.setIfInBounds k v) w b<=fp B Z t w b:=fun b=>by have:=VR (p:=p) (v:=v) (b:=b) (by rw[hI.size]; exact hk:k<t.size) hI.iC;rw[dP ho] at this;show ik (iM k p Z.s) (t.setIfInBounds k v) b+aT w Z.h B b<=ik Z.s t b+aT w Z.h B b;omega
 refine ⟨⟨by simp[hI.size],hI.mem,Cb hI.iC,fun j q hj => ?_,hI.heap,fun b=>by have:=hI.cnt b; have:=hle b; omega,fun b hb=>by have:=hI.new b hb; have:=hle b; omega⟩,dH.refl _ _,Fr.refl _ _ _,fun b _=>hle b⟩;rw[CZ j hI.iC] at hj;split at hj
 .rename_i e; subst e; rw[UN (by rw[hI.size]; exact hk)];grind [fJ]
 .rename_i hne;rw[Ox hne];exact hI.slots j q hj
theorem Inv.clr (hI:Inv n M B out Z t w) {k:Nat} {p:PV} (hp:bZ k Z.s=some p):Inv n M B out { Z with s:=iM k p.un Z.s } t w/\∀ b,fp B { Z with s:=iM k p.un Z.s } t w b+bT p (t.getD k undef) b=fp B Z t w b:=by
 have hk:=(hI.slots k p hp).1;have hks:k<t.size:=by rw[hI.size]; exact hk
 have hset:t.setIfInBounds k (t.getD k undef)=t:=by apply Array.ext (by simp);intro i h1 h2;by_cases h:k=i;simp_all;simp_all
 have hown:∀ b,ik (iM k p.un Z.s) t b+bT p (t.getD k undef) b=ik Z.s t b:=fun b=>by have:=VR (p:=p.un) (v:=t.getD k undef) (b:=b) hks hI.iC;rw[QA] at this;grind [pg]
 refine ⟨⟨hI.size,hI.mem,Cb hI.iC,fun j q hj => ?_,hI.heap,fun b=>by have:=hI.cnt b; grind [fp],fun b hb=>by have:=hI.new b hb; grind [fp]⟩,fun b=>by have:=hown b; simp only[fp]; omega⟩;rw[CZ j hI.iC] at hj;split at hj
 .rename_i e; subst e; injection hj with hj; subst hj
  exact ⟨hk,ou.2 (hI.slots _ _ hp).2.1,fJ (qX _)⟩
 .exact hI.slots j q hj
theorem Inv.bQG (hI:Inv n M B out Z t w) {k:Nat} (hk:k<n) {p:PV} {v:Value} (hr:Rep M B p v) (hT:Tl M w p v) (hc:∀ b,fp B Z t w b+bT p v b+out b<=1) (hn:∀ b,w.heap.size<=b->bT p v b=0) :
 Inv n M B out { Z with s:=iM k p Z.s } (t.setIfInBounds k v) w/\∀ b,fp B { Z with s:=iM k p Z.s } (t.setIfInBounds k v) w b<=fp B Z t w b+bT p v b:=by
 have hle:∀ b,fp B { Z with s:=iM k p Z.s } (t.setIfInBounds k v) w b<=fp B Z t w b+bT p v b:=fun b=>by have:=VR (p:=p) (v:=v) (b:=b) (by rw[hI.size]; exact hk:k<t.size) hI.iC;simp only[fp]; omega
 refine ⟨⟨by simp[hI.size],hI.mem,Cb hI.iC,fun j q hj => ?_,hI.heap,fun b=>by have:=hc b; have:=hle b; omega,fun b hb=>by have:=hI.new b hb; have:=hle b; have:=hn b hb; omega⟩,hle⟩;rw[CZ j hI.iC] at hj;split at hj
 .rename_i e; subst e; rw[UN (by rw[hI.size]; exact hk)];simp_all
 .rename_i hne;rw[Ox hne];exact hI.slots j q hj
end
section
variable {n:Nat} {M M':Mem} {B B':aP} {out:Nat->Nat} {Z:ASt} {t:Array Value} {w w':World}
theorem xU:∀ {cs:List PV} {vs:List Value} {j:Nat} {p:PV} {v:Value} (b:Nat),cs[j]? = some p->vs[j]? = some v->bT p v b<=dn cs vs b
 | [],_,_,_,_,_,h,_=>by simp at h
 | _::_,[],_,_,_,_,_,h=>by simp at h
 | q::cs,u::vs,0,p,v,b,h1,h2=>by grind [dn]
 | q::cs,u::vs,j+1,p,v,b,h1,h2=>by have:=xU b (by simpa using h1) (by simpa using h2); rw[dn]; omega
theorem kX:∀ {h:aG} {B:aP} {i:Nat} {cs:List PV} {c:Nat×Nat×TypeId} (b:Nat),h[i]? = some (some cs)->B[i]? = some c->(if c.1=b then 1 else 0)+dn cs (gy w c.1) b<=aT w h B b
 | [],_,_,_,_,_,h,_=>by simp at h
 | _::_,[],_,_,_,_,_,h=>by simp at h
 | some ds::h,d::B,0,cs,c,b,h1,h2=>by grind [aT]
 | none::h,d::B,0,cs,c,b,h1,h2=>by simp at h1
 | some ds::h,d::B,i+1,cs,c,b,h1,h2=>by have:=kX b (by simpa using h1) (by simpa using h2); rw[aT]; omega
 | none::h,d::B,i+1,cs,c,b,h1,h2=>by have:=kX b (by simpa using h1) (by simpa using h2); rw[aT]; omega
theorem Fe:∀ {h:aG} {B:aP} (b:Nat),(∀ (i:Nat) cs c,h[i]? = some (some cs)->B[i]? = some c->gy w' c.1=gy w c.1)->aT w' h B b=aT w h B b
 | [],_,_,_=>by simp[aT]
 | some _::_,[],_,_=>by simp[aT]
 | none::_,[],_,_=>by simp[aT]
 | some ds::h,d::B,b,H=>by rw[aT,aT,Fe b (fun i cs c h1 h2=>H (i+1) cs c (by grind) (by grind)),H 0 ds d rfl rfl]
 | none::h,d::B,b,H=>by rw[aT,aT,Fe b (fun i cs c h1 h2=>H (i+1) cs c (by grind) (by grind))]
theorem Q7 {x:List PV} {c:Nat×Nat×TypeId}:∀ {h:aG} {B:aP} (b:Nat),h.length=B.length->aT w (h ++ [some x]) (B ++ [c]) b=aT w h B b+((if c.1=b then 1 else 0)+dn x (gy w c.1) b)
 | [],[],b,_=>by simp[aT]
 | some ds::h,d::B,b,H=>by simp only[lI,aT]; rw[Q7 b (by simpa using H)]; omega
 | none::h,d::B,b,H=>by simp only[lI,aT]; rw[Q7 b (by simpa using H)]
 | [],_::_,_,H=>by simp at H
 | _::_,[],_,H=>by simp at H
theorem OB {b:Nat} (h:w'.heap[b]? = w.heap[b]?):gy w' b=gy w b:=by unfold gy; rw[Lm h]
theorem qj {b:Nat} {vs:Array Value} {ty:Nat} (h:rowAt w b=some (vs,ty)):gy w b=vs.toList:=by unfold gy; rw[h]
theorem qf.at (h:qf M B w Z.h) {i:Nat} {cs:List PV} (hi:Z.h[i]? = some (some cs)) {c:Nat×Nat×TypeId} (hc:B[i]? = some c):a4U M B w cs c:=by obtain ⟨c',hc',ho⟩:=h.2 i cs hi;simp_all
theorem Q8 {b:Nat} (hI:Inv n M B out Z t w) (h:1<=fp B Z t w b+out b):b<w.heap.size:=by
 rcases zy b w.heap.size with h' | h'
 .exact h'
 .have:=hI.new b h'; omega
theorem Inv.ext (hI:Inv n M B out Z t w) (hle:dH M M' B B) (hmem:∀ (b o:Nat) (v:Value),M' b o=some v->w'.cell? ⟨b,o,none⟩=some v/\v.oneCell'=true)
 (hb:∀ b,1<=fp B Z t w b->w'.heap[b]? = w.heap[b]? /\ ∀ o,M' b o=M b o) (hsz:w.heap.size<=w'.heap.size) :
 Inv n M' B out Z t w'/\∀ b,fp B Z t w' b=fp B Z t w b:=by
 have Dy:∀ (i:Nat) cs c,Z.h[i]? = some (some cs)->B[i]? = some c->1<=fp B Z t w c.1:=fun i cs c h1 h2=>by have:=kX (w:=w) c.1 h1 h2;grind [fp]
 have hfp:∀ b,fp B Z t w' b=fp B Z t w b:=fun b=>by grind [fp,Fe,OB]
 refine ⟨⟨hI.size,hmem,hI.iC,fun k p hp => ?_,⟨hI.heap.1,fun i cs hi => ?_⟩,fun b=>by rw[hfp]; exact hI.cnt b,fun b h=>by rw[hfp]; exact hI.new b (ng hsz h)⟩,hfp⟩
 .obtain ⟨h1,h2,h3⟩:=hI.slots k p hp;refine ⟨h1,h2.mono hle,h3.kept fun b ho=>hb b ?_⟩;have:=EN (s:=Z.s) (t:=t) (k:=k) (b:=b);grind [pg,fp]
 .obtain ⟨c,hc,vs,ty,h1,h2,h3,h4,h5⟩:=hI.heap.2 i cs hi;have hcb:=hb c.1 (Dy i cs c hi hc);refine ⟨c,hc,vs,ty,by rw[Lm hcb.1,h1],h2,h3,fun j p hj => ?_,fun o=>by rw[hcb.2]; exact h5 o⟩;obtain ⟨v,hv,hr,hT,hone⟩:=h4 j p hj;refine ⟨v,hv,hr.mono hle,hT.kept fun b ho=>hb b ?_,hone⟩;have e1:=kX (w:=w) b hi hc;have e2:=xU b hj (by rw[qj h1]; grind:(gy w c.1)[j]? = some v);simp only[fp]; omega
theorem Inv.drew (hI:Inv n M B out Z t w):Inv n M B out Z t w.drew/\Good n out M B Z t w M B Z t w.drew:=by have:=hI.ext (w':=w.drew) (dH.refl _ _) (fun b o v h=>hI.mem b o v h) (fun b _=>⟨rfl,fun _=>rfl⟩) (fK _);exact ⟨this.1,this.1,dH.refl _ _,⟨rfl,rfl,rfl,fK _,fun _ _ _=>⟨rfl,fun _=>rfl⟩⟩,fun b _=>by rw[this.2]; omega⟩
def laid (M:Mem) (b:Nat) (vs:List Value):Mem:=yQ M.m fun b' o=>if b'=b then vs[o]? else M b' o
theorem yN (hI:Inv n M B out Z t w) (o:Nat):M w.heap.size o=none:=by
 cases hm:M w.heap.size o with
 | none=>rfl
 | some v=>have:=yx _ _ (hI.mem _ o v hm).1; simp at this
theorem yM {M:Mem} {c:Nat} (h:∀ o,M c o=none) (vs:List Value) (b o:Nat):laid M c vs b o=if b=c then vs[o]? else M b o:=EI (UO h) b o
theorem Ut (hI:Inv n M B out Z t w) (vs:List Value):dH M (laid M w.heap.size vs) B B :=⟨fun b o v h=>by grind [yM,yN],fun _ _ h=>h⟩
theorem Inv.lay (hI:Inv n M B out Z t w) (vs:Array Value) (ty:TypeId) (k:Nat) (h1:∀ v,v∈vs->v.oneCell'=true) :
 Good n out M B Z t w (laid M w.heap.size (vs.toList.take k)) B Z t (w.alloc (.cells vs ty))/\∀ b,fp B Z t (w.alloc (.cells vs ty)) b=fp B Z t w b:=by
 have hle:=Ut hI (vs.toList.take k);have hb:∀ b,1<=fp B Z t w b->(w.alloc (.cells vs ty)).heap[b]? = w.heap[b]? /\ ∀ o,laid M w.heap.size (vs.toList.take k) b o=M b o:=fun b hb=>by have:=Q8 hI (by omega:1<=fp B Z t w b+out b);grind [Below.heap_alloc,yM,yN]
 have:=hI.ext hle (fun b o v h=>by
  by_cases e:b=w.heap.size;grind [yM,yN,World.cell?_alloc_new]
  .rw[yM (yN hI),aV e] at h;rw[aE9 _ _ _ e]; exact hI.mem b o v h) hb (by simp)
 refine ⟨⟨this.1,hle,⟨rfl,rfl,rfl,by simp,fun b hb _=>⟨JE _ _ _ hb,fun o=>by rw[yM (yN hI),aV (by omega)]⟩⟩,fun b _=>by rw[this.2]; omega⟩,this.2⟩
theorem Inv.aR6 (hI:Inv n M B out Z t w) (vs:Array Value) (ty:TypeId) (cs:List PV) (hl:cs.length<=vs.size)
 (hr:∀ (j:Nat) p,cs[j]? = some p->∃ v,vs[j]? = some v/\Rep M (B ++ [(w.heap.size,vs.size,ty+1)]) p v/\Tl M w p v/\v.oneCell'=true/\∀ b,bT p v b=0) :
 Good n out M B Z t w M (B ++ [(w.heap.size,vs.size,ty+1)]) { Z with h:=Z.h ++ [some cs] } t (w.alloc (.cells vs ty)):=by
 have hle:dH M M B (B ++ [(w.heap.size,vs.size,ty+1)]):=⟨fun _ _ _ h=>h,fun i c h=>by rw[vW (iO.1 h).1]; exact h⟩;obtain ⟨hE,hF⟩:=(hI.ext (w':=w.alloc (.cells vs ty)) (dH.refl _ _) (fun b o v h=>by have:=yx _ _ (hI.mem b o v h).1;simp only at this;rw[aE9 _ _ _ (by simp; omega)]; exact hI.mem b o v h) (fun b hb=>⟨JE _ _ _ (Q8 hI (by omega)),fun _=>rfl⟩) (by simp));have hC:∀ b,dn cs vs.toList b=0:=fun b=>by
  have key:∀ (cs:List PV) (us:List Value),(∀ (j:Nat) p,cs[j]? = some p->∃ v,us[j]? = some v/\∀ b,bT p v b=0)->dn cs us b=0:=by
   intro cs;induction cs with
   | nil=>grind [dn]
   | cons p ps ih =>
    intro us h;obtain ⟨v,hv,h0⟩:=h 0 p rfl;cases us with
    | nil=>simp at hv
    | cons u us =>simp at hv; subst hv;rw[dn,h0,ih us fun j q hq=>by obtain ⟨v,hv,h0⟩:=h (j+1) q (by grind); simp_all]
  grind
 have hat:gy (w.alloc (.cells vs ty)) w.heap.size=vs.toList:=qj (CW (Qz w _));have hfp:∀ b,fp (B ++ [(w.heap.size,vs.size,ty+1)]) { Z with h:=Z.h ++ [some cs] } t (w.alloc (.cells vs ty)) b=fp B Z t w b+if w.heap.size=b then 1 else 0:=fun b=>by have:=hF b;simp only[fp] at this ⊢;rw[Q7 b hI.heap.1,hat];grind
 have hlast:∀ (i:Nat) (cs':List PV),(Z.h ++ [some cs])[i]? = some (some cs')->(i<Z.h.length/\Z.h[i]? = some (some cs'))\/(i=Z.h.length/\cs'=cs):=fun i cs' h=>by grind
 refine ⟨⟨hI.size,hE.mem,hI.iC,fun k p hp => ?_,⟨by simp[hI.heap.1],fun i cs' hi => ?_⟩,fun b => ?_,fun b hb => ?_⟩,hle,⟨rfl,rfl,rfl,by simp,fun b hb _=>⟨JE _ _ _ hb,fun _=>rfl⟩⟩,fun b hb=>by rw[hfp,aV (by omega)]; omega⟩
 .obtain ⟨h1,h2,h3⟩:=hE.slots k p hp;exact ⟨h1,h2.mono hle,h3⟩
 .rcases hlast i cs' hi with ⟨hlt,hi'⟩ | ⟨rfl,rfl⟩
  .obtain ⟨c,hc,vs',ty',h1,h2,h3,h4,h5⟩:=hE.heap.2 i cs' hi';exact ⟨c,hle.blk _ _ hc,vs',ty',h1,h2,h3,fun j p hj=>by obtain ⟨v,a1,a2,a3,a4⟩:=h4 j p hj; exact ⟨v,a1,a2.mono hle,a3,a4⟩,h5⟩
  .refine ⟨(w.heap.size,vs.size,ty+1),by rw[hI.heap.1]; simp,vs,ty+1,CW (Qz w _),⟨rfl,rfl⟩,hl,fun j p hj => ?_,fun o => ?_⟩
   .obtain ⟨v,a1,a2,a3,a4,a5⟩:=hr j p hj;refine ⟨v,a1,a2,?_,a4⟩;exact a3.kept fun b hb=>by rw[a5] at hb; omega
   .cases hm:M w.heap.size o with
    | none=>rfl
    | some v=>have:=yx _ _ (hI.mem _ o v hm).1; simp at this
 .rw[hfp];have:=hI.cnt b;split
  .rename_i e; subst e; have:=hI.new _ (fK _); omega
  .omega
 .rw[hfp];simp at hb;have:=hI.new b (by omega);rw[aV (by omega)]; omega
theorem Inv.aR7 (hI:Inv n M B out Z t w) (ob:Obj) (vs:Array Value) (T:Nat) (hrow:rowAt (w.alloc ob) w.heap.size=some (vs,T)) (cs:List PV) (hl:cs.length<=vs.size)
 (hr:∀ (j:Nat) p,cs[j]? = some p->∃ v,vs[j]? = some v/\Rep M (B ++ [(w.heap.size,vs.size,T)]) p v/\Tl M w p v/\v.oneCell'=true/\∀ b,bT p v b=0) :
 Good n out M B Z t w M (B ++ [(w.heap.size,vs.size,T)]) { Z with h:=Z.h ++ [some cs] } t (w.alloc ob):=by
 have hle:dH M M B (B ++ [(w.heap.size,vs.size,T)]):=⟨fun _ _ _ h=>h,fun i c h=>by rw[vW (iO.1 h).1]; exact h⟩;obtain ⟨hE,hF⟩:=(hI.ext (w':=w.alloc ob) (dH.refl _ _) (fun b o v h=>by have:=yx _ _ (hI.mem b o v h).1;simp only at this;rw[aE9 _ _ _ (by simp; omega)]; exact hI.mem b o v h) (fun b hb=>⟨JE _ _ _ (Q8 hI (by omega)),fun _=>rfl⟩) (by simp));have hC:∀ b,dn cs vs.toList b=0:=fun b=>by
  have key:∀ (cs:List PV) (us:List Value),(∀ (j:Nat) p,cs[j]? = some p->∃ v,us[j]? = some v/\∀ b,bT p v b=0)->dn cs us b=0:=by
   intro cs;induction cs with
   | nil=>grind [dn]
   | cons p ps ih =>
    intro us h;obtain ⟨v,hv,h0⟩:=h 0 p rfl;cases us with
    | nil=>simp at hv
    | cons u us =>simp at hv; subst hv;rw[dn,h0,ih us fun j q hq=>by obtain ⟨v,hv,h0⟩:=h (j+1) q (by grind); simp_all]
  grind
 have hat:gy (w.alloc ob) w.heap.size=vs.toList:=qj (hrow);have hfp:∀ b,fp (B ++ [(w.heap.size,vs.size,T)]) { Z with h:=Z.h ++ [some cs] } t (w.alloc ob) b=fp B Z t w b+if w.heap.size=b then 1 else 0:=fun b=>by have:=hF b;simp only[fp] at this ⊢;rw[Q7 b hI.heap.1,hat];grind
 have hlast:∀ (i:Nat) (cs':List PV),(Z.h ++ [some cs])[i]? = some (some cs')->(i<Z.h.length/\Z.h[i]? = some (some cs'))\/(i=Z.h.length/\cs'=cs):=fun i cs' h=>by grind
 refine ⟨⟨hI.size,hE.mem,hI.iC,fun k p hp => ?_,⟨by simp[hI.heap.1],fun i cs' hi => ?_⟩,fun b => ?_,fun b hb => ?_⟩,hle,⟨rfl,rfl,rfl,by simp,fun b hb _=>⟨JE _ _ _ hb,fun _=>rfl⟩⟩,fun b hb=>by rw[hfp,aV (by omega)]; omega⟩
 .obtain ⟨h1,h2,h3⟩:=hE.slots k p hp;exact ⟨h1,h2.mono hle,h3⟩
 .rcases hlast i cs' hi with ⟨hlt,hi'⟩ | ⟨rfl,rfl⟩
  .obtain ⟨c,hc,vs',ty',h1,h2,h3,h4,h5⟩:=hE.heap.2 i cs' hi';exact ⟨c,hle.blk _ _ hc,vs',ty',h1,h2,h3,fun j p hj=>by obtain ⟨v,a1,a2,a3,a4⟩:=h4 j p hj; exact ⟨v,a1,a2.mono hle,a3,a4⟩,h5⟩
  .refine ⟨(w.heap.size,vs.size,T),by rw[hI.heap.1]; simp,vs,T,hrow,⟨rfl,rfl⟩,hl,fun j p hj => ?_,fun o => ?_⟩
   .obtain ⟨v,a1,a2,a3,a4,a5⟩:=hr j p hj;refine ⟨v,a1,a2,?_,a4⟩;exact a3.kept fun b hb=>by rw[a5] at hb; omega
   .cases hm:M w.heap.size o with
    | none=>rfl
    | some v=>have:=yx _ _ (hI.mem _ o v hm).1; simp at this
 .rw[hfp];have:=hI.cnt b;split
  .rename_i e; subst e; have:=hI.new _ (fK _); omega
  .omega
 .rw[hfp];simp at hb;have:=hI.new b (by omega);rw[aV (by omega)]; omega
theorem Inv.newObj (hI:Inv n M B out Z t w) (vs:Array Value) (ty:TypeId) (cs:List PV) (hl:cs.length<=vs.size)
 (hr:∀ (j:Nat) p,cs[j]? = some p->∃ v,vs[j]? = some v/\Rep M B p v/\Tl M w p v/\v.oneCell'=true/\∀ b,bT p v b=0) :
 Good n out M B Z t w M (B ++ [(w.heap.size,vs.size,ty+1)]) { Z with h:=Z.h ++ [some cs] } t (w.alloc (.cells vs ty)) :=
 hI.aR6 vs ty cs hl fun j p hj=>by obtain ⟨v,a1,a2,a3⟩:=hr j p hj;exact ⟨v,a1,a2.mono ⟨fun _ _ _ h=>h,fun i c h=>by rw[vW (iO.1 h).1]; exact h⟩,a3⟩
theorem Inv.setCell (hI:Inv n M B out Z t w) {i j:Nat} {cs:List PV} {c:Nat×Nat×TypeId} (hi:Z.h[i]? = some (some cs)) (hc:B[i]? = some c) (hm:c.2.2≠0) (hj:j<cs.length) {p:PV} {v:Value}
 (hr:Rep M B p v) (hT:Tl M w p v) (h1:v.oneCell'=true) (hcnt:∀ b,fp B Z t w b+bT p v b+out b<=1) (hnew:∀ b,w.heap.size<=b->bT p v b=0) :
 Inv n M B out { Z with h:=Z.h.set i (some (cs.set j p)) } t (w.setCell ⟨c.1,j,none⟩ v)/\(∀ b,fp B { Z with h:=Z.h.set i (some (cs.set j p)) } t (w.setCell ⟨c.1,j,none⟩ v) b<=fp B Z t w b+bT p v b) /\
 Fr (fp B Z t w) M w M (w.setCell ⟨c.1,j,none⟩ v)/\w.frozen? ⟨c.1,j,none⟩=false/\(w.cell? ⟨c.1,j,none⟩).isSome=true:=by
 obtain ⟨vs,ty,r1,o2,o3,o4,o5⟩:=hI.heap.at hi hc;obtain ⟨ty,rfl,o1⟩:=EU r1 (by rw[o2.2]; exact hm);have hset:w.setCell ⟨c.1,j,none⟩ v=w.setRow c.1 (vs.setIfInBounds j v):=setCell_eq_setRow w c.1 j vs ty (0,0) v o1;have hblk:1<=fp B Z t w c.1:=by have:=kX (w:=w) c.1 hi hc;grind [fp]
 have hoth:∀ b,b≠c.1->(w.setCell ⟨c.1,j,none⟩ v).heap[b]? = w.heap[b]? := fun b hb=>Below.heap_setCell _ _ _ _ hb
 have hself:(w.setCell ⟨c.1,j,none⟩ v).heap[c.1]? = some (.cells (vs.setIfInBounds j v) ty (0,0)):=by rw[hset]; grind [setRow_heap]
 have hvj:j<vs.size:=by omega
 have hne:∀ (i':Nat) cs' c',i'≠i->Z.h[i']? = some (some cs')->B[i']? = some c'->c'.1≠c.1:=by
  have key:∀ (h:aG) (B:aP) (i i':Nat) cs cs' c c',i'<i->h[i]? = some (some cs)->B[i]? = some c->h[i']? = some (some cs')->B[i']? = some c'->c.1=c'.1->2<=aT w h B c.1:=by
   intro h;induction h with
   | nil=>simp
   | cons x h ih =>
    intro B i i' cs cs' c c' hlt h1 h2 h3 h4 he;cases B with
    | nil=>simp at h2
    | cons d B =>
     cases i with
     | zero=>omega
     | succ i =>
      simp at h1 h2;cases i' with
      | zero =>simp at h3 h4; subst h3; subst h4;have:=kX (w:=w) c.1 h1 h2;grind [aT]
      | succ i' =>simp at h3 h4;have:=ih B i i' cs cs' c c' (by omega) h1 h2 h3 h4 he;cases x<;>rw[aT]<;>omega
  grind [fp]
 have hcell:∀ (i':Nat) cs' c',Z.h[i']? = some (some cs')->B[i']? = some c'->i'≠i->gy (w.setCell ⟨c.1,j,none⟩ v) c'.1=gy w c'.1:=fun i' cs' c' h1 h2 hii=>OB (hoth _ (hne i' cs' c' hii h1 h2))
 have hfp:∀ b,fp B { Z with h:=Z.h.set i (some (cs.set j p)) } t (w.setCell ⟨c.1,j,none⟩ v) b<=fp B Z t w b+bT p v b:=fun b=>by
  have key:∀ (cs:List PV) (us:List Value) (j:Nat),dn (cs.set j p) (us.set j v) b<=dn cs us b+bT p v b:=by
   intro cs;induction cs with
   | nil=>grind [dn]
   | cons q qs ih =>
    intro us j;cases us with
    | nil=>simp[dn]
    | cons u us =>
     cases j with
     | zero=>grind [dn]
     | succ j=>have:=ih us j; grind [dn]
  have Uj:∀ (h:aG) (B:aP) (i:Nat),h[i]? = some (some cs)->B[i]? = some c->(∀ (i':Nat) cs' c',h[i']? = some (some cs')->B[i']? = some c'->i'≠i->gy (w.setCell ⟨c.1,j,none⟩ v) c'.1=gy w c'.1) ->
   aT (w.setCell ⟨c.1,j,none⟩ v) (h.set i (some (cs.set j p))) B b<=aT w h B b+bT p v b:=by
   intro h;induction h with
   | nil=>simp
   | cons x h ih =>
    intro B i h1 h2 h3;cases B with
    | nil=>simp at h2
    | cons d B =>
     cases i with
     | zero =>simp at h1 h2; subst h1; subst h2;have e1:=Fe (w':=w.setCell ⟨d.1,j,none⟩ v) (w:=w) (h:=h) (B:=B) b (fun i' cs' c' a1 a2=>h3 (i'+1) cs' c' (by grind) (by grind) (by omega));simp only[List.set_cons_zero,aT];rw[e1,qj (CW hself),qj r1,aW5];have:=key cs vs.toList j;omega
     | succ i =>
      simp at h1 h2;have:=ih B i h1 h2 (fun i' cs' c' a1 a2 a3=>h3 (i'+1) cs' c' (by grind) (by grind) (by omega));cases x with
      | none=>grind [aT]
      | some ds =>have e:=h3 0 ds d rfl rfl (by omega);grind [aT]
  have:=Uj Z.h B i hi hc hcell;simp only[fp]; omega
 have hpb:∀ b,bT p v b=1->b≠c.1:=fun b hb e=>by grind
 refine ⟨⟨hI.size,fun b o u h => ?_,hI.iC,fun k q hq => ?_,⟨by simp[hI.heap.1],fun i' cs' hi' => ?_⟩,fun b=>by have:=hfp b; have:=hcnt b; omega,fun b hb => ?_⟩,hfp,⟨rfl,rfl,rfl,by simp_all,fun b hb h0=>⟨hoth b fun e=>by grind,fun _=>rfl⟩⟩,by simp[World.frozen?,o1],by simp[World.cell?,o1,hvj]⟩
 .have hm:=hI.mem b o u h;have hbc:b≠c.1:=fun e=>by simp_all
  grind [World.cell?_of_block]
 .obtain ⟨s1,s2,s3⟩:=hI.slots k q hq;refine ⟨s1,s2,s3.kept fun b hb=>⟨hoth b fun e => ?_,fun _=>rfl⟩⟩;subst e;have e1:=EN (s:=Z.s) (t:=t) (k:=k) (b:=c.1);simp only[pg,hq] at e1;have e2:=hI.cnt c.1;have e3:=kX (w:=w) c.1 hi hc;grind [fp]
 .by_cases hii:i'=i
  .subst hii;rw[zx (iO.1 hi).1] at hi';injection hi' with hi'; injection hi' with hi'; subst hi'
   refine ⟨c,hc,vs.setIfInBounds j v,ty+1,CW hself,by grind,by grind,fun j' q hq => ?_,o5⟩;by_cases hjj:j=j'
   .subst hjj;rw[zx hj] at hq; injection hq with hq; subst hq
    exact ⟨v,by simp[hvj],hr,hT.kept fun b hb=>⟨hoth b (hpb b hb),fun _=>rfl⟩,h1⟩
   .rw[qY hjj] at hq;obtain ⟨u,a1,a2,a3,a4⟩:=o4 j' q hq;refine ⟨u,by rw[aW4 hjj]; exact a1,a2,a3.kept fun b hb=>⟨hoth b fun e => ?_,fun _=>rfl⟩,a4⟩;subst e;have e2:=hI.cnt c.1;have e3:=kX (w:=w) c.1 hi hc;have e4:=xU c.1 hq (by rw[qj r1]; grind:(gy w c.1)[j']? = some u);grind [fp]
  .rw[qY (Ne.symm hii)] at hi';obtain ⟨c',hc',vs',ty',a1,a2,a3,a4,a5⟩:=hI.heap.2 i' cs' hi';have hcc:=hne i' cs' c' hii hi' hc';refine ⟨c',hc',vs',ty',by rw[Lm (hoth _ hcc)]; exact a1,a2,a3,fun j' q hq => ?_,a5⟩;obtain ⟨u,b1,b2,b3,b4⟩:=a4 j' q hq;refine ⟨u,b1,b2,b3.kept fun b hb=>⟨hoth b fun e => ?_,fun _=>rfl⟩,b4⟩;subst e;have key:∀ (h:aG) (B:aP) (i i':Nat),i≠i'->h[i]? = some (some cs)->B[i]? = some c->h[i']? = some (some cs')->B[i']? = some c'->2<=aT w h B c.1:=by
    intro h;induction h with
    | nil=>simp
    | cons x h ih =>
     intro B i i' hlt h1 h2 h3 h4;have e4:=xU c.1 hq (by rw[qj a1]; grind:(gy w c'.1)[j']? = some u);cases B with
     | nil=>simp at h2
     | cons d B =>
      cases i with
      | zero =>
       cases i' with
       | zero=>omega
       | succ i' =>simp at h1 h2 h3 h4; subst h1; subst h2;have:=kX (w:=w) d.1 h3 h4;rw[aT,aX rfl]; omega
      | succ i =>
       simp at h1 h2;cases i' with
       | zero =>simp at h3 h4; subst h3; subst h4;have:=kX (w:=w) c.1 h1 h2;grind [aT]
       | succ i' =>simp at h3 h4;have:=ih B i i' (by omega) h1 h2 h3 h4;cases x<;>rw[aT]<;>omega
   have e2:=hI.cnt c.1;have:=key Z.h B i i' (Ne.symm hii) hi hc hi' hc';grind [fp]
 .have:=hfp b;simp[World.setCell] at hb;have e1:=hI.new b hb;have e2:=hnew b hb;omega
theorem Inv.setRow (hI:Inv n M B out Z t w) {i j:Nat} {cs:List PV} {c:Nat×Nat×TypeId} (hi:Z.h[i]? = some (some cs)) (hc:B[i]? = some c) {vs:Array Value} {T:Nat} (r1:rowAt w c.1=some (vs,T)) (hj:j<cs.length) {p:PV} {v:Value}
 (hr:Rep M B p v) (hT:Tl M w p v) (h1:v.oneCell'=true) (hcnt:∀ b,fp B Z t w b+bT p v b+out b<=1) (hnew:∀ b,w.heap.size<=b->bT p v b=0)
 {w':World} (hoth:∀ b,b≠c.1->w'.heap[b]? = w.heap[b]?) (hself:rowAt w' c.1=some (vs.setIfInBounds j v,T)) (hos:w'.os=w.os) (htp:w'.tape=w.tape) (hou:w'.output=w.output) (hsz:w'.heap.size=w.heap.size) :
 Inv n M B out { Z with h:=Z.h.set i (some (cs.set j p)) } t w'/\(∀ b,fp B { Z with h:=Z.h.set i (some (cs.set j p)) } t w' b<=fp B Z t w b+bT p v b) /\
 Fr (fp B Z t w) M w M w':=by
 obtain ⟨vs',ty,r1',o2,o3,o4,o5⟩:=hI.heap.at hi hc;rw[r1] at r1';injection r1' with r1'; injection r1' with e1 e2; subst e1; subst e2
 have hblk:1<=fp B Z t w c.1:=by have:=kX (w:=w) c.1 hi hc;grind [fp]
 have hvj:j<vs.size:=by omega
 have hne:∀ (i':Nat) cs' c',i'≠i->Z.h[i']? = some (some cs')->B[i']? = some c'->c'.1≠c.1:=by
  have key:∀ (h:aG) (B:aP) (i i':Nat) cs cs' c c',i'<i->h[i]? = some (some cs)->B[i]? = some c->h[i']? = some (some cs')->B[i']? = some c'->c.1=c'.1->2<=aT w h B c.1:=by
   intro h;induction h with
   | nil=>simp
   | cons x h ih =>
    intro B i i' cs cs' c c' hlt h1 h2 h3 h4 he;cases B with
    | nil=>simp at h2
    | cons d B =>
     cases i with
     | zero=>omega
     | succ i =>
      simp at h1 h2;cases i' with
      | zero =>simp at h3 h4; subst h3; subst h4;have:=kX (w:=w) c.1 h1 h2;grind [aT]
      | succ i' =>simp at h3 h4;have:=ih B i i' cs cs' c c' (by omega) h1 h2 h3 h4 he;cases x<;>rw[aT]<;>omega
  grind [fp]
 have hcell:∀ (i':Nat) cs' c',Z.h[i']? = some (some cs')->B[i']? = some c'->i'≠i->gy w' c'.1=gy w c'.1:=fun i' cs' c' h1 h2 hii=>OB (hoth _ (hne i' cs' c' hii h1 h2))
 have hfp:∀ b,fp B { Z with h:=Z.h.set i (some (cs.set j p)) } t w' b<=fp B Z t w b+bT p v b:=fun b=>by
  have key:∀ (cs:List PV) (us:List Value) (j:Nat),dn (cs.set j p) (us.set j v) b<=dn cs us b+bT p v b:=by
   intro cs;induction cs with
   | nil=>grind [dn]
   | cons q qs ih =>
    intro us j;cases us with
    | nil=>simp[dn]
    | cons u us =>
     cases j with
     | zero=>grind [dn]
     | succ j=>have:=ih us j; grind [dn]
  have Uj:∀ (h:aG) (B:aP) (i:Nat),h[i]? = some (some cs)->B[i]? = some c->(∀ (i':Nat) cs' c',h[i']? = some (some cs')->B[i']? = some c'->i'≠i->gy w' c'.1=gy w c'.1) ->
   aT w' (h.set i (some (cs.set j p))) B b<=aT w h B b+bT p v b:=by
   intro h;induction h with
   | nil=>simp
   | cons x h ih =>
    intro B i h1 h2 h3;cases B with
    | nil=>simp at h2
    | cons d B =>
     cases i with
     | zero =>simp at h1 h2; subst h1; subst h2;have e1:=Fe (w':=w') (w:=w) (h:=h) (B:=B) b (fun i' cs' c' a1 a2=>h3 (i'+1) cs' c' (by grind) (by grind) (by omega));grind [aT,qj,Array.toList_setIfInBounds]
     | succ i =>
      simp at h1 h2;have:=ih B i h1 h2 (fun i' cs' c' a1 a2 a3=>h3 (i'+1) cs' c' (by grind) (by grind) (by omega));cases x with
      | none=>grind [aT]
      | some ds =>have e:=h3 0 ds d rfl rfl (by omega);grind [aT]
  have:=Uj Z.h B i hi hc hcell;simp only[fp]; omega
 have hpb:∀ b,bT p v b=1->b≠c.1:=fun b hb e=>by grind
 refine ⟨⟨hI.size,fun b o u h => ?_,hI.iC,fun k q hq => ?_,⟨by simp[hI.heap.1],fun i' cs' hi' => ?_⟩,fun b=>by have:=hfp b; have:=hcnt b; omega,fun b hb => ?_⟩,hfp,⟨hos,htp,hou,JO hsz.symm,fun b hb h0=>⟨hoth b fun e=>by grind,fun _=>rfl⟩⟩⟩
 .have hm:=hI.mem b o u h;have hbc:b≠c.1:=fun e=>by simp_all
  grind [World.cell?_of_block]
 .obtain ⟨s1,s2,s3⟩:=hI.slots k q hq;refine ⟨s1,s2,s3.kept fun b hb=>⟨hoth b fun e => ?_,fun _=>rfl⟩⟩;subst e;have e1:=EN (s:=Z.s) (t:=t) (k:=k) (b:=c.1);simp only[pg,hq] at e1;have e2:=hI.cnt c.1;have e3:=kX (w:=w) c.1 hi hc;grind [fp]
 .by_cases hii:i'=i
  .subst hii;rw[zx (iO.1 hi).1] at hi';injection hi' with hi'; injection hi' with hi'; subst hi'
   refine ⟨c,hc,vs.setIfInBounds j v,T,hself,by grind,by grind,fun j' q hq => ?_,o5⟩;by_cases hjj:j=j'
   .subst hjj;rw[zx hj] at hq; injection hq with hq; subst hq
    exact ⟨v,by simp[hvj],hr,hT.kept fun b hb=>⟨hoth b (hpb b hb),fun _=>rfl⟩,h1⟩
   .rw[qY hjj] at hq;obtain ⟨u,a1,a2,a3,a4⟩:=o4 j' q hq;refine ⟨u,by rw[aW4 hjj]; exact a1,a2,a3.kept fun b hb=>⟨hoth b fun e => ?_,fun _=>rfl⟩,a4⟩;subst e;have e2:=hI.cnt c.1;have e3:=kX (w:=w) c.1 hi hc;have e4:=xU c.1 hq (by rw[qj r1]; grind:(gy w c.1)[j']? = some u);grind [fp]
  .rw[qY (Ne.symm hii)] at hi';obtain ⟨c',hc',vs',ty',a1,a2,a3,a4,a5⟩:=hI.heap.2 i' cs' hi';have hcc:=hne i' cs' c' hii hi' hc';refine ⟨c',hc',vs',ty',by rw[Lm (hoth _ hcc)]; exact a1,a2,a3,fun j' q hq => ?_,a5⟩;obtain ⟨u,b1,b2,b3,b4⟩:=a4 j' q hq;refine ⟨u,b1,b2,b3.kept fun b hb=>⟨hoth b fun e => ?_,fun _=>rfl⟩,b4⟩;subst e;have key:∀ (h:aG) (B:aP) (i i':Nat),i≠i'->h[i]? = some (some cs)->B[i]? = some c->h[i']? = some (some cs')->B[i']? = some c'->2<=aT w h B c.1:=by
    intro h;induction h with
    | nil=>simp
    | cons x h ih =>
     intro B i i' hlt h1 h2 h3 h4;have e4:=xU c.1 hq (by rw[qj a1]; grind:(gy w c'.1)[j']? = some u);cases B with
     | nil=>simp at h2
     | cons d B =>
      cases i with
      | zero =>
       cases i' with
       | zero=>omega
       | succ i' =>simp at h1 h2 h3 h4; subst h1; subst h2;have:=kX (w:=w) d.1 h3 h4;rw[aT,aX rfl]; omega
      | succ i =>
       simp at h1 h2;cases i' with
       | zero =>simp at h3 h4; subst h3; subst h4;have:=kX (w:=w) c.1 h1 h2;grind [aT]
       | succ i' =>simp at h3 h4;have:=ih B i i' (by omega) h1 h2 h3 h4;cases x<;>rw[aT]<;>omega
   have e2:=hI.cnt c.1;have:=key Z.h B i i' (Ne.symm hii) hi hc hi' hc';grind [fp]
 .have:=hfp b;rw[hsz] at hb;have e1:=hI.new b hb;have e2:=hnew b hb;omega
end
structure TI where
 size:Nat
 bytes:Nat
 agg:Bool
 zero:List PV
def nH:Value->PV
 | .int k n => .int k n
 | .bool b => .bool b
 | .string s => .str s
 | .pointer none => .nilp
 | .slice none n c=>if n=0/\c=0 then .sl true 0 [] else .raw (.slice none n c)
 | .func fn f c=>if f.isEmpty/\c.isEmpty then .func fn [] [] else .raw (.func fn f c)
 | v => .raw v
def FY (z:Nat) (o:Bool) (es:List PV):PV:=match Nat.blt 1000000 z with
 | true => .gX o 0 (z-1000000) []
 | false => .sl o z es
def PV.ES (z:Nat):PV->PV
 | .sl o s es=>if s=0 then FY z o es else .sl o s es
 | p=>p
theorem aR9 {M:Mem} {B:aP} {z:Nat} {o o':Bool} {es:List PV} {v:Value} (h:Rep M B (.sl o' 0 es) v):Rep M B (FY z o es) v:=by
 obtain ⟨A,c,rfl,h1,h2,h3,h4⟩:=jR.1 h;obtain ⟨h5,h6,h7⟩:=h3 rfl; subst h5;unfold FY;split
 .exact Fz.2 ⟨A,c,rfl,Ee _⟩
 .exact jR.2 ⟨A,c,rfl,h1,by simp,fun _=>⟨rfl,h6,h7⟩,by simp⟩
theorem bMY {z:Nat} {o:Bool} {es:List PV}:(FY z o es).own=o:=by unfold FY; split<;>rfl
theorem aRA {M:Mem} {w:World} {z:Nat} {o:Bool} {es:List PV}:Tl M w (FY z o es) (.slice none es.length 0):=by
 unfold FY;split
 .refine ⟨(fun _ _ _ _ _ e _=>by cases e),(fun _ _ _ _ e _=>by cases e),fun n sz cs A m cap e ev => ?_⟩;grind [Nat.blt_eq]
 .refine Qc (fun l h=>by cases h) ?_;intro sz es' A n cap e ev;grind
def OA (P:Program):Nat->TypeId->List Nat
 | 0,_ => []
 | k+1,t=>match P.underlying t with
  | some (.slice e) => [match P.info? e with | some i=>i.size | none=>0]
  | some (.struct fs)=>fs.toList.flatMap fun f=>OA P k f.type
  | some (.array n e)=>(List.replicate n (OA P k e)).flatten
  | _ => [0]
def a2D (v:Value):Option PV:=if v.oneCell' then some (nH v) else none
def aO6:TypeDesc->Bool
 | .struct _=>true
 | .array _ _=>true
 | _=>false
def ti (P:Program) (t:TypeId):Option TI :=
 match P.info? t with
 | none=>none
 | some i=>match i.zero,P.underlying t with
  | some z,some d=>if z.cells.toList.all (·.oneCell')&&z.cells.size==i.size then some ⟨i.size,i.bytes,aO6 d,z.cells.toList.map nH⟩ else none
  | _,_=>none
def fieldsOf (P:Program) (t:TypeId):Option (List (Nat×Nat×Bool)) :=
 match P.underlying t with
 | some (.struct fs)=>fs.toList.mapM fun f=>(ti P f.type).map fun i=>(f.offset,i.size,i.agg)
 | _=>none
def xI (P:Program) (t:TypeId):Option TypeId:=match P.underlying t with | some (.slice e)=>some e | _=>none
def jl (P:Program) (t:TypeId):Option TI:=(xI P t).bind (ti P)
def Et (P:Program) (t:TypeId):Option (Nat×TI):=match P.underlying t with | some (.array n e)=>(ti P e).map fun i=>(n,i) | _=>none
theorem Iq {M:Mem} {B:aP} {v:Value} (h:v.oneCell'=true):Rep M B (nH v) v:=by
 cases v with
 | int k n=>rfl
 | bool b=>rfl
 | string s=>rfl
 | pointer a=>cases a with
  | none=>rfl
  | some a=>exact CU.2 ⟨rfl,h⟩
 | slice a n c=>cases a with
  | none =>
   simp only[nH];split
   .rename_i e; obtain ⟨rfl,rfl⟩:=e;exact jR.2 ⟨none,0,rfl,fK _,by simp,fun _=>⟨rfl,rfl,rfl⟩,by simp⟩
   .exact CU.2 ⟨rfl,h⟩
  | some a=>exact CU.2 ⟨rfl,h⟩
 | func fn f c =>
  simp only[nH];split
  .have h1':f = #[]:=by grind
   have h2':c = #[]:=by grind
   subst h1'; subst h2';exact zn.2 ⟨#[],#[],rfl,dW.2 rfl,dW.2 rfl⟩
  .exact CU.2 ⟨rfl,h⟩
 | _=>exact CU.2 ⟨rfl,h⟩
theorem aW2 (v:Value):(nH v).own=true->v = .slice none 0 0:=by
 intro h;cases v with
 | slice a n c=>cases a with
  | none =>grind [nH,PV.own]
  | some a=>simp[nH,PV.own] at h
 | pointer a=>cases a<;>simp[nH,PV.own] at h
 | func fn f c =>grind [nH,PV.own]
 | _=>simp[nH,PV.own] at h
theorem aAL (v:Value) (b:Nat):bT (nH v) v b=0:=by unfold bT;grind [aW2]
theorem bWK (v:Value) (l:List UInt8):nH v ≠ .dC l:=by unfold nH; split<;>first | (cases h) | grind
theorem bWL (v:Value) (n z:Nat) (cs:List PV):nH v ≠ .gX true n z cs:=by unfold nH; split<;>first | (cases h) | grind
theorem aD3 {M:Mem} {w:World} (v:Value):Tl M w (nH v) v:=by refine Qc (bWK v) ?_ (bWL v);intro sz es A n cap e ev;have:=aW2 v (by rw[e]; rfl);rw[ev] at this;simp_all
theorem aT0 {M:Mem} {B:aP} {p:PV} {v:Value} (z:Nat) (h:Rep M B p v):Rep M B (p.ES z) v:=by
 cases p with
 | sl o s es =>rw[PV.ES];grind [aR9]
 | _=>exact h
theorem bR9 (z:Nat) (p:PV):(p.ES z).own=p.own:=by
 cases p with
 | sl o s es =>
  rw[PV.ES];split
  .exact bMY
  .rfl
 | _=>rfl
theorem LC {M:Mem} {B:aP} {o:Bool} {es:List PV} {v:Value} (h:Rep M B (.sl o 0 es) v):v = .slice none 0 0/\es = []:=by obtain ⟨A,c,rfl,h1,h2,h3,h4⟩:=jR.1 h;simp_all
theorem bTS {M:Mem} {B:aP} {w:World} {p:PV} {v:Value} (z:Nat) (hr:Rep M B p v) (h:Tl M w p v):Tl M w (p.ES z) v:=by
 cases p with
 | sl o s es =>
  rw[PV.ES];split
  .rename_i e; subst e;obtain ⟨rfl,rfl⟩:=LC hr;exact aRA
  .exact h
 | _=>exact h
def Vh:List Nat->List PV->List PV
 | z::zs,p::ps=>p.ES z::Vh zs ps
 | _,ps=>ps
def PV.zo (zs:List Nat):PV->PV
 | .agg cs => .agg (Vh zs cs)
 | p=>p.ES (zs.headD 0)
theorem aT8 {M:Mem} {B:aP}:∀ {zs:List Nat} {ps:List PV} {vs:List Value},ay M B ps vs->ay M B (Vh zs ps) vs
 | [],ps,vs,h=>by cases ps<;>exact h
 | z::zs,[],vs,h=>h
 | z::zs,p::ps,vs,h=>by obtain ⟨u,us,rfl,h1,h2⟩:=cO.1 h;exact cO.2 ⟨u,us,rfl,aT0 z h1,aT8 h2⟩
theorem Vf {M:Mem} {B:aP} {p:PV} {v:Value} (zs:List Nat) (h:Rep M B p v):Rep M B (p.zo zs) v:=by
 cases p with
 | agg cs=>obtain ⟨vs,rfl,hr⟩:=pz.1 h; exact pz.2 ⟨vs,rfl,aT8 hr⟩
 | _=>exact aT0 (zs.headD 0) h
theorem aT9 (zs:List Nat) (p:PV):(p.zo zs).own=p.own:=by
 cases p with
 | agg cs=>rfl
 | sl o s es=>exact bR9 (zs.headD 0) (.sl o s es)
 | _=>rfl
theorem aS6 (zs:List Nat) (p:PV) (v:Value) (b:Nat):bT (p.zo zs) v b=bT p v b:=by unfold bT; rw[aT9]
theorem aVF {M:Mem} {B:aP} {w:World} {p:PV} {v:Value} (zs:List Nat) (hr:Rep M B p v) (h:Tl M w p v):Tl M w (p.zo zs) v:=by
 cases p with
 | agg cs=>exact fJ rfl
 | _=>exact bTS (zs.headD 0) hr h
def PV.Ib (z:Nat):PV->PV
 | .sl o s es=>if s=0 then FY z true es else .sl o s es
 | p=>p
def yS:List Nat->List PV->List PV
 | z::zs,p::ps=>p.Ib z::yS zs ps
 | _,ps=>ps
theorem bQX {M:Mem} {B:aP} {p:PV} {v:Value} (z:Nat) (h:Rep M B p v):Rep M B (p.Ib z) v:=by
 cases p with
 | sl o s es =>rw[PV.Ib];grind [aR9]
 | _=>exact h
theorem bTR {M:Mem} {B:aP} {w:World} {p:PV} {v:Value} (z:Nat) (hr:Rep M B p v) (h:Tl M w p v):Tl M w (p.Ib z) v:=by
 cases p with
 | sl o s es =>
  rw[PV.Ib];split
  .rename_i e; subst e;obtain ⟨rfl,rfl⟩:=LC hr;exact aRA
  .exact h
 | _=>exact h
theorem bNN {M:Mem} {B:aP} {p:PV} {v:Value} (z:Nat) (hr:Rep M B p v) (b:Nat):bT (p.Ib z) v b=bT p v b:=by
 cases p with
 | sl o s es =>rw[PV.Ib];grind [LC,bT]
 | _=>rfl
theorem aRQ {M:Mem} {B:aP} {v:Value} {p:PV} (h:a2D v=some p):Rep M B p v/\(∀ b,bT p v b=0)/\∀ w,Tl M w p v:=by grind [a2D,Iq,aAL,aD3]
structure rO (P:Program) (t:TypeId) (I:TI) (i:TypeInfo) (z:Value) (d:TypeDesc):Prop where
 info:P.info? t=some i
 zero:i.zero=some z
 und:P.underlying t=some d
 one:∀ v,v∈z.cells->v.oneCell'=true
 JD:z.cells.size=i.size
 size:I.size=i.size
 bytes:I.bytes=i.bytes
 agg:I.agg=aO6 d
 Uh:I.zero=z.cells.toList.map nH
theorem GM {P:Program} {t:TypeId} {I:TI} (h:ti P t=some I):∃ i z d,rO P t I i z d:=by
 unfold ti at h;split at h
 .cases h
 .rename_i i hi;split at h
  .rename_i z d hz hd;split at h
   .rename_i hc;cases h;simp only[bI,jF,uH] at hc;exact ⟨i,z,d,hi,hz,hd,fun v hv=>hc.1 v (by grind),hc.2,rfl,rfl,rfl,rfl⟩
   .cases h
  .cases h
section
variable {P:Program} {t:TypeId} {I:TI} {i:TypeInfo} {z:Value} {d:TypeDesc}
theorem rO.run_sizeOf (h:rO P t I i z d) (w:World):(sizeOf t).run P w = .ok I.size w:=by simp[sizeOf,typeInfo,h.info,h.size]
theorem rO.aCB (h:rO P t I i z d) (w:World):(isAgg t).run P w = .ok I.agg w:=by unfold isAgg;rw[mX,fG h.und w,h.agg];cases d<;>rfl
theorem rO.bRR (h:rO P t I i z d) (w:World):(zeroValue t).run P w = .ok z w:=by simp[zeroValue,typeInfo,h.info,h.zero]
end
theorem aQP {β:Type} (f:α->Option β):∀ {l:List α} {r:List β},l.mapM f=some r->∀ {j:Nat} {y:β},r[j]? = some y->∃ x,l[j]? = some x/\f x=some y
 | [],r,h,j,y,hy=>by simp_all
 | a::l,r,h,j,y,hy=>by
  cases hf:f a with
  | none=>grind
  | some b =>
   cases hm:l.mapM f with
   | none=>simp_all
   | some bs =>
    simp[hf,hm] at h;subst h;cases j with
    | zero=>simp_all
    | succ j=>obtain ⟨x,h1,h2⟩:=aQP f hm (by simpa using hy); simp_all
theorem aHQ {P:Program} {t:TypeId} {fs:List (Nat×Nat×Bool)} (h:fieldsOf P t=some fs) {j:Nat} {o z:Nat} (hj:fs[j]? = some (o,z,g)):
 ∃ Fs f I i zv d,P.underlying t=some (.struct Fs)/\Fs[j]? = some f/\f.offset=o/\rO P f.type I i zv d/\I.size=z/\I.agg=g:=by
 unfold fieldsOf at h;split at h
 .obtain ⟨f,hf,hm⟩:=aQP _ h hj;grind [ti,GM]
 .cases h
theorem zH {P:Program} {t:TypeId} {I:TI} (h:jl P t=some I):∃ e i z d,P.underlying t=some (.slice e)/\rO P e I i z d:=by grind [jl,xI,GM]
theorem Xy {P:Program} {t:TypeId} {n:Nat} {I:TI} (h:Et P t=some (n,I)):∃ e i z d,P.underlying t=some (.array n e)/\rO P e I i z d:=by
 unfold Et at h;split at h
 grind [ti,GM]
 .cases h
def PV.one:PV->Bool
 | .agg _=>false
 | .tuple _=>false
 | _=>true
def xh (cs:List PV) (o z:Nat) (g:Bool):Option PV :=if g then (if o+z<=cs.length then some (.agg ((cs.drop o).take z)) else none) else (cs[o]?).bind fun p=>if p.one then some p.un else none
def Vy (q:PV) (o z:Nat) (g:Bool):Option PV :=
 match q with
 | .ptr i off=>some (.ptr i (off+o))
 | .cst (.agg cs)=>(xh cs o z g).map .cst
 | _=>none
def P9 (op:BinOp) (k:IntKind) (a b:Int):Option PV :=
 match op with
 | .add=>some (.int k (k.wrap (a+b)))
 | .sub=>some (.int k (k.wrap (a-b)))
 | .mul=>some (.int k (k.wrap (a*b)))
 | .quo=>if b=0 then none else some (.int k (k.wrap (a.tdiv b)))
 | .rem=>if b=0 then none else some (.int k (a.tmod b))
 | .and=>some (.int k (k.wrap (BitVec.ofInt k.bits a &&& BitVec.ofInt k.bits b).toNat))
 | .or=>some (.int k (k.wrap (BitVec.ofInt k.bits a ||| BitVec.ofInt k.bits b).toNat))
 | .eql=>some (.bool (a==b))
 | .neq=>some (.bool (a != b))
 | .lss=>some (.bool (decide (a<b)))
 | .leq=>some (.bool (decide (a<=b)))
 | .gtr=>some (.bool (decide (b<a)))
 | .geq=>some (.bool (decide (b<=a)))
 | _=>none
def QR (op:BinOp) (k:IntKind) (a b:Int):Option PV :=
 if b<0 then none else match op with
 | .shl=>some (.int k (k.wrap (a*2 ^ min b.toNat k.bits)))
 | .shr=>some (.int k (a.fdiv (2 ^ min b.toNat k.bits)))
 | _=>none
def Vx (op:BinOp) (a b:ByteArray):Option PV :=
 match op with
 | .add=>if a.size+b.size<=aO then some (.str (a ++ b)) else none
 | .eql=>some (.bool (a.toList==b.toList))
 | .neq=>some (.bool (!(a.toList==b.toList)))
 | _=>none
def aG5 (op:BinOp) (a b:Bool):Option PV :=
 match op with
 | .eql=>some (.bool (a==b))
 | .neq=>some (.bool (!(a==b)))
 | _=>none
def FX (op:BinOp) (is:Bool):Option PV :=
 match op with
 | .eql=>some (.bool is)
 | .neq=>some (.bool (!is))
 | _=>none
def a8M (P:Program) (t:TypeId):Bool:=P.underlying t matches some .bool
def Uc (P:Program) (t:TypeId):Bool:=P.underlying t matches some (.pointer _)
def PE (P:Program) (t:TypeId):Bool:=P.underlying t matches some (.func _ _ _)
def uP (P:Program) (t:TypeId):Bool:=P.underlying t matches some .string
def aO2 (P:Program) (t:TypeId):Option IntKind:=match P.underlying t with | some (.int k)=>some k | _=>none
def TB (P:Program) (E:TypeId->PV->PV->Option Bool) (cs ds:List PV):List Field->Option Bool
 | []=>some true
 | f::fs=>if f.name = "_" then none else match ti P f.type with
  | some I=>(match xh cs f.offset I.size I.agg,xh ds f.offset I.size I.agg with
   | some p,some q=>(match E f.type p q,TB P E cs ds fs with
    | some b,some r=>some (b&&r)
    | _,_=>none)
   | _,_=>none)
  | none=>none
def TC (P:Program):Nat->TypeId->PV->PV->Option Bool
 | 0,_,_,_=>none
 | k+1,t,x,y=>match P.underlying t,x,y with
  | some (.int _),.int q a,.int q' b=>if q=q' then some (a==b) else none
  | some .bool,.bool a,.bool b=>some (a==b)
  | some .string,.str a,.str b=>some (a.toList==b.toList)
  | some (.struct fs),.agg cs,.agg ds=>if P.stoodInHeld t=true then none else TB P (TC P k) cs ds fs.toList
  | _,_,_=>none
def DR (P:Program) (op:BinOp) (t:TypeId) (x y:PV):Option PV :=
 match x,y with
 | .int k a,.int k' b =>
  (match op with
  | .shl | .shr=>QR op k a b
  | _=>if k=k' then P9 op k a b else none)
 | .str a,.str b=>Vx op a b
 | .bool a,.bool b=>if a8M P t then aG5 op a b else none
 | .ptr _ _,.nilp=>if Uc P t then FX op false else none
 | .cst _,.nilp=>if Uc P t then FX op false else none
 | .nilp,.nilp=>if Uc P t then FX op true else none
 | .func _ _ _,.raw .nilFunc=>if PE P t then FX op false else none
 | .raw .nilFunc,.raw .nilFunc=>if PE P t then FX op true else none
 | .agg cs,.agg ds=>if P.eqGuardType P.depth t=true then none else (TC P 12 t (.agg cs) (.agg ds)).bind (FX op)
 | _,_=>none
def a3Y (op:UnOp) (x:PV):Option PV :=
 match op,x with
 | .neg,.int k n=>some (.int k (k.wrap (0-n)))
 | .not,.bool b=>some (.bool (!b))
 | _,_=>none
def Yn (x:PV) (i:Nat):Option PV:=match x with | .tuple ps=>(ps[i]?).map PV.un | _=>none
def a1N (P:Program) (t:TypeId) (x:PV):Option PV :=
 match x with
 | .str s=>if uP P t then some (.int .i64 s.size) else none
 | .sl _ _ es=>(xI P t).map fun _ => .int .i64 es.length
 | .slh _ _ n _=>(xI P t).map fun _ => .int .i64 n
 | .gX _ n _ _=>(xI P t).map fun _ => .int .i64 n
 | _=>none
def isByte:PV->Bool
 | .int k _=>k == .u8
 | _=>false
def YH:PV->Int
 | .int _ n=>n
 | _=>0
def sW (es:List PV):Bool:=es.all isByte
def strOf (es:List PV):ByteArray:=(es.map YH).foldl (fun r n=>r.push (UInt8.ofNat n.toNat)) ByteArray.empty
def PD (P:Program) (s:TypeId):Bool:=match P.underlying s with
 | some (.slice e)=>(match P.underlying e with | some (.int k)=>k == .u8 | _=>false)
 | _=>false
def Su (P:Program) (s d:TypeId) (x:PV):Option PV :=
 match x with
 | .sl _ _ es=>if PD P s=true/\uP P d=true/\sW es=true then some (.str (strOf es)) else none
 | .int _ n=>match aO2 P d with | some k=>(match P.underlying s with | some _=>some (.int k (k.wrap n)) | none=>none) | none=>none
 | .str a=>match P.underlying s,P.underlying d with | some .string,some .string=>some (.str a) | _,_=>none
 | _=>none
def a1X:List PV->Option PV
 | [.int k a,.int k' b]=>if k=k' then some (.int k (if b<a then b else a)) else none
 | _=>none
def a1W:List PV->Option PV
 | [.int k a,.int k' b]=>if k=k' then some (.int k (if b>a then b else a)) else none
 | [.int k a,.int k1 b,.int k2 c,.int k3 d]=>if k=k1/\k=k2/\k=k3 then some (.int k (if d>(if c>(if b>a then b else a) then c else (if b>a then b else a)) then d else (if c>(if b>a then b else a) then c else (if b>a then b else a)))) else none
 | _=>none
def wS (P:Program) (t:TypeId) (x:PV) (lo hi:Option PV):Option PV :=
 let bound (d:Nat):Option PV->Option Int
  | none=>some d
  | some (.int _ n)=>some n
  | _=>none
 match x with
 | .str s=>match bound 0 lo,bound s.size hi with
  | some l,some h=>if uP P t/\0<=l/\l<=h/\h<=s.size then some (.str (s.extract l.toNat h.toNat)) else none
  | _,_=>none
 | .sl _ sz es=>match bound 0 lo,bound es.length hi with
  | some l,some h=>if (jl P t).map TI.size=some sz/\0<=l/\l<=h/\h<=es.length then some (.sl false sz ((es.take h.toNat).drop l.toNat)) else none
  | _,_=>none
 | .slh i off n sz=>match bound 0 lo,bound n hi with
  | some l,some h=>if (jl P t).map TI.size=some sz/\0<=l/\l<=h/\h<=n/\0<sz then (if l<n then some (.slh i (off+l.toNat*sz) (h.toNat-l.toNat) sz) else some (.sl false sz [])) else none
  | _,_=>none
 | _=>none
def a3I (P:Program) (t:TypeId) (x a b c:PV):Option PV :=
 match x,a,b,c with
 | .sl _ sz es,.int _ l,.int _ h,.int _ m=>if (jl P t).map TI.size=some sz/\0<=l/\l<=h/\h<=m/\m<=es.length then some (.sl false sz ((es.take h.toNat).drop l.toNat)) else none
 | _,_,_,_=>none
def ji:List (Option PV)->Option (List PV)
 | []=>some []
 | none::_=>none
 | some p::l=>(ji l).map (p :: ·)
def PV.newCells (p:PV):Option (List PV):=match p with | .agg ds=>if ds.all PV.one then some (ds.map PV.un) else none | q=>if q.one then some [q.un] else none
def F7 (place:Nat->Option (Nat×Nat)):List PV->List (Nat×PV)->Option (List PV)
 | cs,[]=>some cs
 | cs,(i,p)::ps=>match place i,p.newCells with
  | some (o,z),some new=>if new.length=z/\o+z<=cs.length then F7 place (cs.take o ++ new ++ cs.drop (o+z)) ps else none
  | _,_=>none
def uV (rd:Operand->Option PV):List (Nat×Operand)->Option (List (Nat×PV))
 | []=>some []
 | (i,x)::l=>match rd x,uV rd l with
  | some p,some ps=>some ((i,p)::ps)
  | _,_=>none
def Fg (P:Program) (rd:Operand->Option PV) (c:Call):Option PV :=
 match c.callee with
 | .builtin .len=>(match c.args.toList,c.argTypes.toList with
  | [x],[t]=>(rd x).bind (a1N P t)
  | _,_=>none)
 | .builtin .min=>(ji (c.args.toList.map rd)).bind a1X
 | .builtin .max=>(ji (c.args.toList.map rd)).bind a1W
 | _=>none
def pop (P:Program) (rd:Operand->Option PV):Op->Option PV
 | .move x=>rd x
 | .assign x=>rd x
 | .pick c a b=>match rd c with
  | some (.bool c)=>if c then rd a else rd b
  | _=>none
 | .fieldAddr s x f=>match fieldsOf P s,rd x with
  | some fs,some q=>(fs[f]?).bind fun (o,z,g)=>if z=0 then none else Vy q o z g
  | _,_=>none
 | .field s x f=>match fieldsOf P s,rd x with
  | some fs,some (.agg cs)=>(fs[f]?).bind fun (o,z,g)=>xh cs o z g
  | _,_=>none
 | .indexAddr t x i=>match rd x,rd i with
  | some (.sl _ sz es),some (.int _ n)=>if (jl P t).map TI.size=some sz/\0<=n then (es[n.toNat]?).map .cst else none
  | some (.slh i off m sz),some (.int _ n)=>if (jl P t).map TI.size=some sz/\0<=n/\n<m then some (.ptr i (off+n.toNat*sz)) else none
  | some (.ptr i off),some (.int _ n)=>match Et P t with
   | some (m,I)=>if 0<=n/\n<m then some (.ptr i (off+n.toNat*I.size)) else none
   | none=>none
  | some (.cst (.agg cs)),some (.int _ n)=>match Et P t with
   | some (m,I)=>if 0<=n/\n<m then (xh cs (n.toNat*I.size) I.size I.agg).map .cst else none
   | none=>none
  | _,_=>none
 | .index t x i=>match rd x,rd i with
  | some (.str s),some (.int _ n)=>if uP P t/\0<=n then (s[n.toNat]?).map fun b => .int .u8 b.toNat else none
  | some (.agg cs),some (.int _ n)=>match Et P t with
   | some (m,I)=>if 0<=n/\n<m then xh cs (n.toNat*I.size) I.size I.agg else none
   | none=>none
  | _,_=>none
 | .slice t x lo hi none=>match rd x with
  | some q=>match lo,hi with
   | none,none=>wS P t q none none
   | some l,none=>(rd l).bind fun a=>wS P t q (some a) none
   | none,some h=>(rd h).bind fun b=>wS P t q none (some b)
   | some l,some h=>(rd l).bind fun a=>(rd h).bind fun b=>wS P t q (some a) (some b)
  | none=>none
 | .slice t x (some l) (some h) (some m)=>match rd x,rd l,rd h,rd m with
  | some q,some a,some b,some c=>a3I P t q a b c
  | _,_,_,_=>none
 | .binOp op t x y _=>match rd x,rd y with
  | some a,some b=>DR P op t a b
  | _,_=>none
 | .unOp op _ x=>(rd x).bind (a3Y op)
 | .convert s d x=>(rd x).bind (Su P s d)
 | .makeFunc fn first caps=>match ji (first.toList.map rd),ji (caps.toList.map rd) with
  | some f,some c=>some (.func fn f c)
  | _,_=>none
 | .extract x i=>(rd x).bind (Yn · i)
 | .nilCheck x=>match rd x with
  | some (.ptr i o)=>some (.ptr i o)
  | some (.cst e)=>some (.cst e)
  | some (.func (.func f) a b)=>some (.func (.func f) a b)
  | _=>none
 | .build t ps=>match ti P t,uV rd ps.toList with
  | some I,some qs=>match fieldsOf P t,Et P t with
   | some fs,none=>(F7 (fun i=>(fs[i]?).map fun f=>(f.1,f.2.1)) (I.zero.map PV.un) qs).map .agg
   | none,some (_,J)=>(F7 (fun i=>some (i*J.size,J.size)) (I.zero.map PV.un) qs).map .agg
   | _,_=>none
  | _,_=>none
 | .call c=>Fg P rd c
 | _=>none
section
abbrev bZZ:=List PV
abbrev bZ':=List UInt8
variable {P:Program} {M:Mem} {B:aP}
theorem aC4 {cs:bZZ} {vs:List Value} (h:ay M B cs vs) (o z:Nat):ay M B ((cs.drop o).take z) ((vs.drop o).take z):=by have hl:=oH h;grind [Ir,vN]
theorem extract_toList (cs:Array Value) (o z:Nat):(cs.extract o (o+z)).toList=(cs.toList.drop o).take z:=by simp_all
theorem aVR (p:PV):p.un.one=p.one:=by cases p<;>rfl
theorem a3P {cs:bZZ} {vs:Array Value} (h:ay M B cs vs.toList) {t:TypeId} {I:TI} {i:TypeInfo} {zv:Value} {d:TypeDesc} (hT:rO P t I i zv d) {o:Nat} {p:PV} (hs:xh cs o I.size I.agg=some p) (w:World) :
 ∃ v,(part t vs o).run P w = .ok v w/\Rep M B p v/\p.own=false:=by
 unfold xh at hs;unfold part;rw[mX,hT.aCB w];split at hs
 .rename_i hg;split at hs
  .cases hs;simp only[hg,BD,wZ,mX,hT.run_sizeOf w];exact ⟨_,rfl,pz.2 ⟨_,rfl,by rw[extract_toList]; exact aC4 h _ _⟩,rfl⟩
  .cases hs
 .cases hc:cs[o]? with
  | none=>simp_all
  | some q =>
   simp only[hc,NF] at hs;split at hs
   .cases hs;obtain ⟨u,hu,hr⟩:=vN h hc;have hu':vs[o]? = some u:=by grind
    have hg':I.agg=false:=by grind
    simp only[hg',hu'];exact ⟨u,rfl,ou.2 hr,qX q⟩
   .cases hs
theorem Bi {p:PV} (h1:p.one=true) {b o:Nat}:Loc M B p b o↔∃ u,M b o=some u/\Rep M B p u :=zX (by cases p<;>first | rfl | (simp[PV.one] at h1)) (fun cs e=>by grind [PV.one])
theorem aV6 {cs:bZZ} {b off:Nat} (h:Cells M B cs b off) {o z:Nat} {p:PV} (hs:xh cs o z g=some p):Loc M B p b (off+o):=by
 unfold xh at hs;split at hs
 .split at hs
  .cases hs;refine yO.2 (Ey fun j q hq => ?_);grind [OC]
  .cases hs
 grind [a9V,Bi,OC]
theorem add_lit (b o k:Nat):(⟨b,o,none⟩:Addr).add k=⟨b,o+k,none⟩:=by grind [Addr.add]
theorem bTE {q:PV} {v:Value} (hq:Rep M B q v) {s:TypeId} {fs:List (Nat×Nat×Bool)} (hf:fieldsOf P s=some fs) {f o z:Nat} (hj:fs[f]? = some (o,z,g)) (hz:z≠0) {p:PV} (hs:Vy q o z g=some p) (w:World):
 ∃ u,(Instr.fieldAt s v f).run P w = .ok u w/\Rep M B p u/\p.own=false:=by
 obtain ⟨Fs,F,I,i,zv,d,hu,hF,ho,hT,hsz,hg⟩:=aHQ hf hj;subst ho; subst hsz; subst hg;have run:∀ b off,(Instr.fieldAt s (.pointer (some ⟨b,off,none⟩)) f).run P w = .ok (.pointer (some ⟨b,off+F.offset,none⟩)) w:=fun b off=>by simp[Instr.fieldAt,fG hu,hF,Instr.sureAddr,fieldPlace,hT.run_sizeOf w,hz,add_lit]
 unfold Vy at hs;split at hs
 .cases hs;obtain ⟨c,hc,rfl⟩:=wO.1 hq;exact ⟨_,run _ _,wO.2 ⟨c,hc,rfl⟩,rfl⟩
 .rename_i cs;cases hv:xh cs F.offset I.size I.agg with
  | none=>simp_all
  | some r =>simp[hv] at hs; subst hs;obtain ⟨b,off,rfl,hl⟩:=Am.1 hq;exact ⟨_,run _ _,Am.2 ⟨b,_,rfl,aV6 (yO.1 hl) hv⟩,rfl⟩
 .cases hs
theorem bJA {a b:Int} {p:PV} (h:P9 op k a b=some p) (hop:op ≠ .shl/\op ≠ .shr) (t:TypeId) (w:World):
 ∃ v,(binOp op t (.int k a) (.int k b)).run P w = .ok v w/\Rep M B p v/\p.own=false:=by
 cases op<;>simp only[P9,reduceCtorEq] at h<;>first
  | (cases h; exact ⟨_,by simp[binOp,Op.intBits]; first | rfl | done,by first | exact dw.2 rfl | exact kE.2 rfl,rfl⟩)
  | (split at h; exact absurd h (by simp); rename_i h0; cases h; exact ⟨_,by simp[binOp,Op.intDiv,h0]; first | rfl | done,by rfl,rfl⟩)
  | (exact absurd rfl hop.1)
  | (exact absurd rfl hop.2)
theorem aU8 {k':IntKind} {a b:Int} {p:PV} (h:QR op k a b=some p) (t:TypeId) (w:World):
 ∃ v,(binOp op t (.int k a) (.int k' b)).run P w = .ok v w/\Rep M B p v/\p.own=false:=by
 unfold QR at h;split at h
 .cases h
 .rename_i hb;cases op<;>simp only[reduceCtorEq] at h
  .cases h; exact ⟨_,by simp[binOp,Op.shift,hb],dw.2 rfl,rfl⟩
  .cases h; exact ⟨_,by simp[binOp,Op.shift,hb],dw.2 rfl,rfl⟩
theorem bT8 {a b:ByteArray} {p:PV} (h:Vx op a b=some p) (t:TypeId) (w:World):
 ∃ v,(binOp op t (.string a) (.string b)).run P w = .ok v w/\Rep M B p v/\p.own=false:=by
 cases op<;>simp only[Vx,reduceCtorEq] at h
 .split at h
  .cases h;have h':¬ (((a.size+b.size:Nat):Int)>IntKind.i64.max):=by
    have:IntKind.i64.max=9223372036854775807:=by decide
    grind [aO]
   refine ⟨_,?_,iq.2 rfl,rfl⟩;simp only[binOp,Op.stringOp,aV h'];rfl
  .cases h
 .cases h; exact ⟨_,rfl,kE.2 rfl,rfl⟩
 .cases h; exact ⟨_,rfl,kE.2 rfl,rfl⟩
theorem Df {t:TypeId} {y:Operand} {a b:Value} (ha:a ≠ .nilIface/\∀ cs,a ≠ .agg cs) (w:World):(eqGuard op t x y a b).run P w = .ok () w:=by
 cases a with
 | nilIface=>simp_all
 | agg cs=>simp_all
 | _=>cases op<;>simp[eqGuard]
theorem a'Y {t:TypeId} (h:P.underlying t=some .bool) (d:Nat) (a b:Bool) (w:World):(Op.equalIn (d+1) t (.bool a) (.bool b)).run P w = .ok (a==b) w:=by rw[Op.equalIn,mX,fG h w]; rfl
theorem aH7 {t e:TypeId} (h:P.underlying t=some (.pointer e)) (d:Nat) (a:Addr) (w:World):(Op.equalIn (d+1) t (.pointer (some a)) (.pointer none)).run P w = .ok false w:=by rw[Op.equalIn,mX,fG h w]; rfl
theorem a_1 {t e:TypeId} (h:P.underlying t=some (.pointer e)) (d:Nat) (w:World):(Op.equalIn (d+1) t (.pointer none) (.pointer none)).run P w = .ok true w:=by rw[Op.equalIn,mX,fG h w]; rfl
theorem a_0 {t:TypeId} {x y:Array TypeId} {z:Bool} (h:P.underlying t=some (.func x y z)) (d:Nat) (f:Fn) (a b:Array Value) (w:World):(Op.equalIn (d+1) t (.func f a b) .nilFunc).run P w = .ok false w:=by rw[Op.equalIn,mX,fG h w]; rfl
theorem a'Z {t:TypeId} {x y:Array TypeId} {z:Bool} (h:P.underlying t=some (.func x y z)) (d:Nat) (w:World):(Op.equalIn (d+1) t .nilFunc .nilFunc).run P w = .ok true w:=by rw[Op.equalIn,mX,fG h w]; rfl
theorem Jn {t:TypeId} {a b:Value} {w:World} (h:∀ d,(Op.equalIn (d+1) t a b).run P w = .ok r w):(Op.equal t a b).run P w = .ok r w:=h 9999
theorem bJB {t:TypeId} (h:a8M P t=true):P.underlying t=some .bool:=by grind [a8M]
theorem Ud {t:TypeId} (h:uP P t=true):P.underlying t=some .string:=by grind [uP]
theorem a8N {t:TypeId} (h:Uc P t=true):∃ e,P.underlying t=some (.pointer e):=by grind [Uc]
theorem aO8 {t:TypeId} (h:PE P t=true):∃ a b c,P.underlying t=some (.func a b c):=by grind [PE]
theorem L9 {is:Bool} {p:PV} (h:FX op is=some p) {t:TypeId} {a b:Value} {w:World} (he:(Op.equal t a b).run P w = .ok is w) 
 (hab:∀ op,op = .eql\/op = .neq->binOp op t a b=(if op = .eql then do pure (.bool (<- Op.equal t a b)) else do pure (.bool (!(<- Op.equal t a b))))) :
 ∃ v,(binOp op t a b).run P w = .ok v w/\Rep M B p v/\p.own=false:=by
 cases op<;>simp only[FX,reduceCtorEq] at h
 .cases h; rw[hab _ (.inl rfl)]; exact ⟨.bool is,by simp[he],kE.2 rfl,rfl⟩
 .cases h; rw[hab _ (.inr rfl)]; exact ⟨.bool (!is),by simp[he],kE.2 rfl,rfl⟩
theorem aH6 {d:Nat} {E:TypeId->PV->PV->Option Bool} (hE:∀ t x y r,E t x y=some r->∀ a b,Rep M B x a->Rep M B y b->∀ w,(Op.equalIn d t a b).run P w = .ok r w) {cs ds:bZZ} {xs ys:Array Value} (hx:ay M B cs xs.toList) (hy:ay M B ds ys.toList) (w:World) :
 ∀ (fs:List Field) (r:Bool),TB P E cs ds fs=some r->(Op.eqFields d xs ys fs).run P w = .ok r w
 | [],r,h=>by simp[TB] at h; subst h; rfl
 | f::fs,r,h=>by
  rw[TB] at h;split at h
  .cases h
  .rename_i hn;split at h
   .rename_i I hI;split at h
    .rename_i p q hp hq;split at h
     .rename_i b r' hb hr;injection h with h; subst h
      obtain ⟨i,z,dd,hT⟩:=GM hI;obtain ⟨u,h1,h2,_⟩:=a3P hx hT hp w;obtain ⟨v,h3,h4,_⟩:=a3P hy hT hq w;have h5:=hE _ _ _ _ hb u v h2 h4 w;have ih:=aH6 hE hx hy w fs r' hr;rw[Op.eqFields,aX hn];simp only[mX,h1,h3,h5,wZ];cases b
      .rfl
      simp_all
     .cases h
    .cases h
   .cases h
theorem aH8:∀ (k d:Nat) (t:TypeId) (x y:PV) (r:Bool),TC P k t x y=some r->∀ a b,Rep M B x a->Rep M B y b->∀ w,(Op.equalIn (d+k) t a b).run P w = .ok r w
 | 0,d,t,x,y,r,h,a,b,ha,hb,w=>by cases h
 | k+1,d,t,x,y,r,h,a,b,ha,hb,w=>by
  unfold TC at h;split at h
  .split at h
   .rw[dw.1 ha,dw.1 hb];grind [run_equalIn_int]
   .cases h
  .rw[kE.1 ha,kE.1 hb];grind [run_equalIn_bool]
  .rw[iq.1 ha,iq.1 hb];grind [run_equalIn_string]
  .rename_i fs cs ds hu;by_cases hst:P.stoodInHeld t=true;simp_all
   .rw[aV hst] at h;obtain ⟨xs,rfl,hx⟩:=pz.1 ha;obtain ⟨ys,rfl,hy⟩:=pz.1 hb;have hf:P.fieldsOf t=fs:=by simp[Program.fieldsOf,hu]
    rw[show d+(k+1)=(d+k)+1 from rfl,run_equalIn_struct w (d+k) t xs ys (by rw[hf]; exact hu) (by simpa using hst),hf];exact aH6 (fun t x y r h a b ha hb w=>aH8 k d t x y r h a b ha hb w) hx hy w fs.toList r h
  .cases h
theorem aYI {t:TypeId} {x y p:PV} (h:DR P op t x y=some p) {a b:Value} (ha:Rep M B x a) (hb:Rep M B y b) (w:World):
 (∀ X Y:Operand,(eqGuard op t X Y a b).run P w = .ok () w)/\∃ v,(binOp op t a b).run P w = .ok v w/\Rep M B p v/\p.own=false:=by
 unfold DR at h;split at h
 .rw[dw.1 ha,dw.1 hb];refine ⟨fun _ _=>Df ⟨by simp,by simp⟩ w,?_⟩;split at h
  .exact aU8 h t w
  .exact aU8 h t w
  .rename_i h1 h2;split at h
   .rename_i e; subst e; exact bJA h ⟨fun e=>h1 e,fun e=>h2 e⟩ t w
   .cases h
 .rw[iq.1 ha,iq.1 hb]; exact ⟨fun _ _=>Df ⟨by simp,by simp⟩ w,bT8 h t w⟩
 .rename_i a' b';rw[kE.1 ha,kE.1 hb];refine ⟨fun _ _=>Df ⟨by simp,by simp⟩ w,?_⟩;split at h
  .rename_i ht;have hu:=bJB ht;have he:(Op.equal t (.bool a') (.bool b')).run P w = .ok (a'==b') w:=Jn fun d=>a'Y hu d a' b' w
   refine L9 ?_ he (fun op ho=>by rcases ho with rfl | rfl<;>rfl);exact h
  .cases h
 .obtain ⟨c,hc,rfl⟩:=wO.1 ha;rw[Ip.1 hb];refine ⟨fun _ _=>Df ⟨by simp,by simp⟩ w,?_⟩;split at h
  .rename_i ht;obtain ⟨e,hu⟩:=a8N ht;refine L9 h (Jn fun d=>aH7 hu d _ w) (fun op ho=>by rcases ho with rfl | rfl<;>rfl)
  .cases h
 .obtain ⟨b',off,rfl,_⟩:=Am.1 ha;rw[Ip.1 hb];refine ⟨fun _ _=>Df ⟨by simp,by simp⟩ w,?_⟩;split at h
  .rename_i ht;obtain ⟨e,hu⟩:=a8N ht;refine L9 h (Jn fun d=>aH7 hu d _ w) (fun op ho=>by rcases ho with rfl | rfl<;>rfl)
  .cases h
 .rw[Ip.1 ha,Ip.1 hb];refine ⟨fun _ _=>Df ⟨by simp,by simp⟩ w,?_⟩;split at h
  .rename_i ht;obtain ⟨e,hu⟩:=a8N ht;refine L9 h (Jn fun d=>a_1 hu d w) (fun op ho=>by rcases ho with rfl | rfl<;>rfl)
  .cases h
 .obtain ⟨f,c,rfl,_,_⟩:=zn.1 ha;rw[(CU.1 hb).1];refine ⟨fun _ _=>Df ⟨by simp,by simp⟩ w,?_⟩;split at h
  .rename_i ht;obtain ⟨e1,e2,e3,hu⟩:=aO8 ht;refine L9 h (Jn fun d=>a_0 hu d _ _ _ w) (fun op ho=>by rcases ho with rfl | rfl<;>rfl)
  .cases h
 .rw[(CU.1 ha).1,(CU.1 hb).1];refine ⟨fun _ _=>Df ⟨by simp,by simp⟩ w,?_⟩;split at h
  .rename_i ht;obtain ⟨e1,e2,e3,hu⟩:=aO8 ht;refine L9 h (Jn fun d=>a'Z hu d w) (fun op ho=>by rcases ho with rfl | rfl<;>rfl)
  .cases h
 .rename_i cs ds;obtain ⟨xs,e1,_⟩:=pz.1 ha;obtain ⟨ys,e2,_⟩:=pz.1 hb;split at h
  .cases h
  .cases he:TC P 12 t (.agg cs) (.agg ds) with
   | none=>rw[he] at h; cases h
   | some r =>rw[he] at h;have hr:(Op.equal t a b).run P w = .ok r w:=aH8 12 9988 t _ _ r he a b ha hb w;refine ⟨fun X Y=>by grind [run_eqGuard_agg],L9 h hr (fun op ho=>by rw[e1]; rcases ho with rfl | rfl<;>rfl)⟩
 .cases h
end
variable {cs es ps L es':bZZ} {l:bZ'}
section
variable {P:Program} {M:Mem} {B:aP}
theorem a_O {ρ:Operand->Value} {o:Oper} {s:Sem Value} {v:Value} {w:World} (h:execOp ρ o=(do pure (.value (<- s)))) (hr:s.run P w = .ok v w):(execOp ρ o).run P w = .ok (.value v) w:=by rw[h]; simp[hr]
theorem bL8 {t ty:TypeId} {x p:PV} (h:a1N P t x=some p) {a:Value} (ha:Rep M B x a) (w:World) :
 ∃ v,(Builtin.len_ #[t] ty #[a]).run P w = .ok v w/\Rep M B p v/\p.own=false:=by
 have hsl:∀ {n:Nat} {A:Option Addr} {c:Nat},(xI P t).map (fun _=>PV.int .i64 n)=some p->∃ v,(Builtin.len_ #[t] ty #[.slice A n c]).run P w = .ok v w/\Rep M B p v/\p.own=false:=by
  intro n A c h;unfold xI at h;split at h
  .rename_i e hu;simp at h; subst h;exact ⟨_,by simp[Builtin.len_,fG hu]; rfl,dw.2 rfl,rfl⟩
  .simp at h
 unfold a1N at h;split at h
 .split at h
  .rename_i ht; cases h;rw[iq.1 ha];exact ⟨_,by simp[Builtin.len_,fG (Ud ht)]; rfl,dw.2 rfl,rfl⟩
  .cases h
 .obtain ⟨A,cap,rfl,_⟩:=jR.1 ha; exact hsl h
 .obtain ⟨c,cap,_,rfl,_⟩:=tZ.1 ha; exact hsl h
 .obtain ⟨A,cap,rfl,_⟩:=Fz.1 ha; exact hsl h
 .cases h
theorem bJC {s:TypeId} (h:PD P s=true):∃ e,P.underlying s=some (.slice e)/\P.underlying e=some (.int .u8):=by grind [PD]
theorem aYR {b:Nat} {w:World} (hmem:∀ (b o:Nat) (v:Value),M b o=some v->w.cell? ⟨b,o,none⟩=some v/\v.oneCell'=true) (hb:sW es=true) {off:Nat} (hl:kP M [] 1 es b off):
 ∀ (j:Nat) v,((es.map YH).map (Value.int .u8))[j]? = some v->w.cell? ⟨b,off+j,none⟩=some v:=by
 intro j v hv;simp only[lL,Option.map_map] at hv;obtain ⟨q,hq,rfl⟩:=JQ.1 hv;have hloc:=EF hl hq;have hbq:isByte q=true:=jF.1 hb q (nZ hq);cases q<;>simp[isByte] at hbq
 subst hbq;obtain ⟨u,hu,FK⟩:=(zX rfl (fun cs e=>by cases e)).1 hloc;have hr:u = .int .u8 _:=dw.1 FK;subst hr;have:=(hmem _ _ _ hu).1;rwa [Nat.mul_one] at this
theorem a'7 {s d:TypeId} {x p:PV} (h:Su P s d x=some p) {a:Value} (ha:Rep M B x a) (w:World) (hmem:∀ (b o:Nat) (v:Value),M b o=some v->w.cell? ⟨b,o,none⟩=some v/\v.oneCell'=true) :
 ∃ v,(convert s d a).run P w = .ok v w/\Rep M B p v/\p.own=false:=by
 unfold Su at h;split at h
 .rename_i ow sz es;split at h
  .rename_i hc;cases h;obtain ⟨e,hs,he⟩:=bJC hc.1;obtain ⟨A,cap,rfl,_,hsz,_,hA⟩:=jR.1 ha;refine ⟨.string (strOf es),?_,iq.2 rfl,rfl⟩;rw[run_convert_bytes_string w s d e A es.length cap hs he (Ud hc.2.1)];by_cases h0:es = []
   .subst h0;cases A with
    | none=>rfl
    | some A=>rfl
   .obtain ⟨b,off,rfl,hl⟩:=hA h0;have h1:sz=1:=by
     obtain ⟨q,qs,rfl⟩:=List.exists_cons_of_ne_nil h0;have hq:=hsz q (by simp);have hbq:isByte q=true:=jF.1 hc.2.2 q (by simp);cases q<;>simp[isByte] at hbq
     exact hq.symm
    have:=run_loadCells_list (P:=P) w ⟨b,off,none⟩ ((es.map YH).map (Value.int .u8)) (fun j v hj=>by rw[add_lit]; grind [aYR]);simp only[bF] at this;exact run_bytesToString w ⟨b,off,none⟩ es.length cap (es.map YH) this
  .cases h
 .rename_i k0 n;rw[dw.1 ha];unfold aO2 at h;split at h
  .rename_i k hk;split at hk
   .rename_i k' hu;cases hk;split at h
    .rename_i ds hs;cases h;refine ⟨.int k (k.wrap n),?_,dw.2 rfl,rfl⟩;unfold convert;rw[mX,fG hs w,wZ,mX,fG hu w];cases ds<;>rfl
    .cases h
   .cases hk
  .cases h
 .rename_i a';rw[iq.1 ha];split at h
  .rename_i hs hd;cases h;refine ⟨.string a',?_,iq.2 rfl,rfl⟩;unfold convert;rw[mX,fG hs w,wZ,mX,fG hd w];rfl
  .cases h
 .cases h
theorem Xt:∀ {l:List (Option PV)} {ps:bZZ},ji l=some ps->l=ps.map some
 | [],ps,h=>by grind [ji]
 | none::_,_,h=>by simp[ji] at h
 | some p::l,ps,h=>by
  rw[ji] at h;cases ha:ji l with
  | none=>grind
  | some qs=>simp[ha] at h; subst h; simp[Xt ha]
theorem Ld {rd:Operand->Option PV} {ρ:Operand->Value} (hrd:∀ x q,rd x=some q->Rep M B q (ρ x)/\q.own=false):∀ {xs:List Operand} {ps:bZZ},ji (xs.map rd)=some ps->ay M B ps (xs.map ρ)/\∀ p,p∈ps->p.own=false
 | [],ps,h=>by simp[ji] at h; subst h; exact ⟨dW.2 rfl,by simp⟩
 | x::xs,ps,h=>by
  have h':=Xt h;cases ps with
  | nil=>simp at h'
  | cons p ps =>
   simp only[sN,List.cons.injEq] at h';obtain ⟨h1,h2⟩:=h';have ih:=Ld hrd (by
    rw[h2];have:∀ ps:bZZ,ji (ps.map some)=some ps:=by
     intro ps; induction ps with
     | nil=>rfl
     | cons a l ih=>simp[ji,ih]
    exact this ps)
   exact ⟨cO.2 ⟨_,_,rfl,(hrd _ _ h1).1,ih.1⟩,fun q hq=>by
    rcases kG.1 hq with rfl | hq
    .exact (hrd _ _ h1).2
    .exact ih.2 q hq⟩
theorem aC5 {p q:PV} {vs:List Value} (h:ay M B [p,q] vs):∃ a b,vs = [a,b]/\Rep M B p a/\Rep M B q b:=by obtain ⟨a,us,rfl,ha,h2⟩:=cO.1 h;obtain ⟨b,wW,rfl,hb,h3⟩:=cO.1 h2;rw[dW] at h3; grind
theorem bMI {ts:Array TypeId} {ty:TypeId} {p:PV} (h:a1X ps=some p) {vs:Array Value} (hv:ay M B ps vs.toList) (w:World):
 ∃ v,(Builtin.min_ ts ty vs).run P w = .ok v w/\Rep M B p v/\p.own=false:=by
 unfold a1X at h;split at h
 .split at h
  .cases h;obtain ⟨a,b,e,ha,hb⟩:=aC5 hv;rw[dw.1 ha,dw.1 hb] at e;refine ⟨_,?_,dw.2 rfl,rfl⟩;unfold Builtin.min_; rw[e];rfl
  .cases h
 .cases h
theorem bM8 {ts:Array TypeId} {ty:TypeId} {p:PV} (h:a1W ps=some p) {vs:Array Value} (hv:ay M B ps vs.toList) (w:World):
 ∃ v,(Builtin.max_ ts ty vs).run P w = .ok v w/\Rep M B p v/\p.own=false:=by
 unfold a1W at h;split at h
 .split at h
  .cases h;obtain ⟨a,b,e,ha,hb⟩:=aC5 hv;rw[dw.1 ha,dw.1 hb] at e;refine ⟨_,?_,dw.2 rfl,rfl⟩;unfold Builtin.max_; rw[e];rfl
  .cases h
 .split at h
  .cases h;obtain ⟨a,us,e,ha,h2⟩:=cO.1 hv;obtain ⟨b,wW,rfl,hb,h2⟩:=cO.1 h2;obtain ⟨c,d,rfl,hc,hd⟩:=aC5 h2;rw[dw.1 ha,dw.1 hb,dw.1 hc,dw.1 hd] at e;refine ⟨_,?_,dw.2 rfl,rfl⟩;unfold Builtin.max_; rw[e];rfl
  .cases h
 .cases h
theorem bVB {op:UnOp} {x p:PV} (h:a3Y op x=some p) {a:Value} (ha:Rep M B x a) (w:World):∃ v,(Op.unary op a).run P w = .ok v w/\Rep M B p v/\p.own=false:=by
 unfold a3Y at h;split at h
 .cases h; rw[dw.1 ha]; exact ⟨_,rfl,dw.2 rfl,rfl⟩
 .cases h; rw[kE.1 ha]; exact ⟨_,rfl,kE.2 rfl,rfl⟩
 .cases h
theorem a_P {x p:PV} {i:Nat} (h:Yn x i=some p) {a:Value} (ha:Rep M B x a) (w:World):∃ v,(Instr.extract a i).run P w = .ok v w/\Rep M B p v/\p.own=false:=by
 unfold Yn at h;split at h
 .rename_i ps;obtain ⟨vs,rfl,hr⟩:=tq.1 ha;cases hp:ps[i]? with
  | none=>grind
  | some q =>
   simp[hp] at h; subst h;obtain ⟨u,hu,hq⟩:=vN hr hp;have hu':vs[i]? = some u:=by grind
   exact ⟨u,by simp[Instr.extract,hu'],ou.2 hq,qX q⟩
 .cases h
def aA9 (d:Nat):Option PV->Option Int
 | none=>some d
 | some (.int _ n)=>some n
 | _=>none
theorem Q3 {d:Nat} {q:Option PV} {n:Int} (h:aA9 d q=some n) {x:Option Value} (hx:(q=none/\x=none)\/∃ p v,q=some p/\x=some v/\Rep M B p v) :
 (q=none/\x=none/\n=d)\/∃ k,x=some (.int k n):=by
 rcases hx with ⟨rfl,rfl⟩ | ⟨p,v,rfl,rfl,hr⟩
 grind [aA9]
 .cases p<;>simp[aA9] at h
  subst h; rw[dw.1 hr]; simp
theorem a5K {isS:Bool} {len cap:Nat} {lo hi:Option Value} {l h:Int} (hl:(lo=none/\l=0)\/∃ k,lo=some (.int k l)) (hh:(hi=none/\h=len)\/∃ k,hi=some (.int k h))
 (h0:0<=l) (h1:l<=h) (h2:h<=len) (hc:len<=cap) (w:World):(Instr.sliceBounds isS len cap lo hi none).run P w = .ok (l.toNat,h.toNat,cap) w:=by
 rcases hl with ⟨rfl,rfl⟩ | ⟨k,rfl⟩<;>rcases hh with ⟨rfl,rfl⟩ | ⟨k',rfl⟩
 rfl
 .simp[Instr.sliceBounds,RF w k' h cap _ (by omega) (by omega)]
 .simp[Instr.sliceBounds,RF w k l len _ (by omega) (by omega)]
 .simp[Instr.sliceBounds,RF w k' h cap _ (by omega) (by omega),RF w k l h.toNat _ (by omega) (by omega)]
theorem aYM {len cap:Nat} {k1 k2 k3:IntKind} {l h:Int} (h0:0<=l) (h1:l<=h) (h2:h<=m) (h3:m<=len) (hc:len<=cap) (w:World):
 (Instr.sliceBounds true len cap (some (.int k1 l)) (some (.int k2 h)) (some (.int k3 m))).run P w = .ok (l.toNat,h.toNat,m.toNat) w:=by
 simp[Instr.sliceBounds,RF w k3 m cap _ (by omega) (by omega),RF w k2 h m.toNat _ (by omega) (by omega),RF w k1 l h.toNat _ (by omega) (by omega)]
theorem bSR {t:TypeId} {x p pa pb pc:PV} (hs:a3I P t x pa pb pc=some p) {a l h m:Value} (ha:Rep M B x a) (hl:Rep M B pa l) (hh:Rep M B pb h) (hm:Rep M B pc m) (w:World) :
 ∃ v,(Instr.sliceAt t a (some l) (some h) (some m)).run P w = .ok v w/\Rep M B p v/\p.own=false:=by
 unfold a3I at hs;split at hs
 .rename_i o sz es k1 l' k2 h' k3 m';obtain ⟨A,cap,rfl,hle,hsz,hz,hA⟩:=jR.1 ha;obtain rfl:=dw.1 hl;obtain rfl:=dw.1 hh;obtain rfl:=dw.1 hm;split at hs
  .rename_i hc;obtain ⟨ht,b1,b2,b3,b4⟩:=hc;cases hs;obtain ⟨I,hI,hIs⟩:=JQ.1 ht;obtain ⟨e,i,z,d,hu,hT⟩:=zH hI;have hu':P.underlying t=some (.slice (P.elem t)):=by simp[Program.elem,hu]
   have KR:P.elem t=e:=by simp_all
   have hrun:(Instr.sliceAt t (.slice A es.length cap) (some (.int k1 l')) (some (.int k2 h')) (some (.int k3 m'))).run P w = .ok (.slice (if m'.toNat=l'.toNat then A else A.map (·.add (l'.toNat*sz))) (h'.toNat-l'.toNat) (m'.toNat-l'.toNat)) w:=by rw[run_sliceAt_slice w t _ _ _ _ hu',run_slice_any w t A es.length cap hu',aYM b1 b2 b3 b4 hle w,wZ,KR,hT.run_sizeOf w];simp[sliced,hIs]
   refine ⟨_,hrun,jR.2 ⟨_,_,by simp only[xw,wY]; rw[Nat.min_eq_left (by omega)],?_,fun e he=>hsz e (Qu (List.mem_of_mem_drop he)),fun h0=>by grind,?_⟩,rfl⟩;grind
   .intro hne;have hlen:((es.take h'.toNat).drop l'.toNat).length≠0:=fun e=>hne (lJ e)
    simp only[xw,wY] at hlen;obtain ⟨b,off,rfl,hloc⟩:=hA (fun e=>by rw[e] at hlen; simp at hlen);rw[aV (by omega)];refine ⟨b,off+l'.toNat*sz,by rw[XI,add_lit],zY fun j p hj => ?_⟩;rw[aE1,mV] at hj;split at hj
    .have:=EF hloc hj;rwa [show off+l'.toNat*sz+j*sz=off+(l'.toNat+j)*sz by rw[oI]; omega]
    .cases hj
  .cases hs
 .cases hs
theorem a3J {t:TypeId} {x p:PV} {lo hi:Option PV} (hs:wS P t x lo hi=some p) {a:Value} (ha:Rep M B x a) {l h:Option Value}
 (hl:(lo=none/\l=none)\/∃ p v,lo=some p/\l=some v/\Rep M B p v) (hh:(hi=none/\h=none)\/∃ p v,hi=some p/\h=some v/\Rep M B p v) (w:World) :
 ∃ v,(Instr.sliceAt t a l h none).run P w = .ok v w/\Rep M B p v/\p.own=false:=by
 unfold wS at hs;simp only at hs;split at hs
 .rename_i s;rw[iq.1 ha];split at hs
  .rename_i l' h' e1 e2;split at hs
   .rename_i hc;obtain ⟨ht,b1,b2,b3⟩:=hc;cases hs;have hu:=Ud ht;have hl':(l=none/\l'=0)\/∃ k,l=some (.int k l'):=by
     rcases Q3 e1 hl with ⟨_,r1,r2⟩ | r
     simp_all;simp_all
    have hh':(h=none/\h'=s.size)\/∃ k,h=some (.int k h'):=by
     rcases Q3 e2 hh with ⟨_,r1,r2⟩ | r
     simp_all;simp_all
    refine ⟨_,?_,iq.2 rfl,rfl⟩;rw[run_sliceAt_string w t _ _ _ _ hu];simp[Instr.slice,fG hu,a5K hl' hh' b1 b2 (by omega) (fK _) w]
   .cases hs
  .cases hs
 .rename_i o sz es;obtain ⟨A,cap,rfl,hle,hsz,hz,hA⟩:=jR.1 ha;split at hs
  .rename_i l' h' e1 e2;split at hs
   .rename_i hc;obtain ⟨ht,b1,b2,b3⟩:=hc;cases hs;obtain ⟨I,hI,hIs⟩:=JQ.1 ht;obtain ⟨e,i,z,d,hu,hT⟩:=zH hI;have hu':P.underlying t=some (.slice (P.elem t)):=by simp[Program.elem,hu]
    have KR:P.elem t=e:=by simp_all
    have hl':(l=none/\l'=0)\/∃ k,l=some (.int k l'):=by
     rcases Q3 e1 hl with ⟨_,r1,r2⟩ | r
     simp_all;simp_all
    have hh':(h=none/\h'=es.length)\/∃ k,h=some (.int k h'):=by
     rcases Q3 e2 hh with ⟨_,r1,r2⟩ | r
     simp_all;simp_all
    have hrun:(Instr.sliceAt t (.slice A es.length cap) l h none).run P w = .ok (.slice (if cap=l'.toNat then A else A.map (·.add (l'.toNat*sz))) (h'.toNat-l'.toNat) (cap-l'.toNat)) w:=by rw[run_sliceAt_slice w t _ _ _ _ hu',run_slice_any w t A es.length cap hu',a5K hl' hh' b1 b2 b3 hle w,wZ,KR,hT.run_sizeOf w];simp[sliced,hIs]
    refine ⟨_,hrun,jR.2 ⟨_,_,by simp only[xw,wY]; rw[Nat.min_eq_left (by omega)],?_,fun e he=>hsz e (Qu (List.mem_of_mem_drop he)),fun h0=>by simp_all,?_⟩,rfl⟩;grind
    .intro hne;have hlen:((es.take h'.toNat).drop l'.toNat).length≠0:=fun e=>hne (lJ e)
     simp only[xw,wY] at hlen;obtain ⟨b,off,rfl,hloc⟩:=hA (fun e=>by rw[e] at hlen; simp at hlen);rw[aV (by omega)];refine ⟨b,off+l'.toNat*sz,by rw[XI,add_lit],zY fun j p hj => ?_⟩;rw[aE1,mV] at hj;split at hj
     .have:=EF hloc hj;rwa [show off+l'.toNat*sz+j*sz=off+(l'.toNat+j)*sz by rw[oI]; omega]
     .cases hj
   .cases hs
  .cases hs
 .rename_i i off n sz;obtain ⟨c,cap,hc',rfl,hle,hfit⟩:=tZ.1 ha;split at hs
  .rename_i l' h' e1 e2;split at hs
   .rename_i hc;obtain ⟨ht,b1,b2,b3,b4⟩:=hc;obtain ⟨I,hI,hIs⟩:=JQ.1 ht;obtain ⟨e,i',z,d,hu,hT⟩:=zH hI;have hu':P.underlying t=some (.slice (P.elem t)):=by simp[Program.elem,hu]
    have KR:P.elem t=e:=by simp_all
    have hl':(l=none/\l'=0)\/∃ k,l=some (.int k l'):=by
     rcases Q3 e1 hl with ⟨_,r1,r2⟩ | r
     simp_all;simp_all
    have hh':(h=none/\h'=n)\/∃ k,h=some (.int k h'):=by
     rcases Q3 e2 hh with ⟨_,r1,r2⟩ | r
     simp_all;simp_all
    have hrun:(Instr.sliceAt t (.slice (some ⟨c.1,off,none⟩) n cap) l h none).run P w = .ok (.slice (if cap=l'.toNat then some ⟨c.1,off,none⟩ else some ⟨c.1,off+l'.toNat*sz,none⟩) (h'.toNat-l'.toNat) (cap-l'.toNat)) w:=by rw[run_sliceAt_slice w t _ _ _ _ hu',run_slice_any w t _ n cap hu',a5K hl' hh' b1 b2 b3 hle w,wZ,KR,hT.run_sizeOf w];simp[sliced,hIs,add_lit]
    split at hs
    .cases hs;rw[aV (by omega)] at hrun;refine ⟨_,hrun,tZ.2 ⟨c,cap-l'.toNat,hc',rfl,by omega,?_⟩,rfl⟩;have:l'.toNat*sz+(cap-l'.toNat)*sz=cap*sz:=by rw[<- oI]; grind
     omega
    .cases hs;refine ⟨_,hrun,jR.2 ⟨_,_,by rw[show h'.toNat-l'.toNat=([]:bZZ).length by simp; omega],by simp,by simp,fun h=>absurd h (by omega),fun h0=>absurd rfl h0⟩,rfl⟩
   .cases hs
  .cases hs
 .cases hs
end
theorem a6O (off:Nat):∀ (l:List Value) (k:Nat) (cs:Array Value),off+k+l.length<=cs.size ->
 ((l.zipIdx k).foldl (fun (cs:Array Value) (cj:Value×Nat)=>cs.setIfInBounds (off+cj.2) cj.1) cs).toList=cs.toList.take (off+k) ++ l ++ cs.toList.drop (off+k+l.length)
 | [],k,cs,_=>by simp
 | v::l,k,cs,h=>by simp only[List.zipIdx_cons,List.foldl_cons];rw[a6O off l (k+1) _ (by simp at h ⊢; omega),aW5];have:=list_seg_step cs.toList (off+k) v l (by omega);rw[show off+(k+1)=off+k+1 by omega,this];simp[Nat.add_assoc]
section
variable {P:Program} {M:Mem} {B:aP}
theorem ER {qs:bZZ} {us vs:List Value} (h1:ay M B ps us) (h2:ay M B qs vs):ay M B (ps ++ qs) (us ++ vs):=by grind [Ir,oH,vN]
theorem aT4 {us:List Value} (h:ay M B ps us) (k:Nat):ay M B (ps.take k) (us.take k):=by have:=aC4 h 0 k; simp_all
theorem bR3 {us:List Value} (h:ay M B ps us) (k:Nat):ay M B (ps.drop k) (us.drop k):=by have:=aC4 h k (ps.length-k);have hl:=oH h;rwa [Qw (by simp),Qw (by simp[hl])] at this
theorem Iu {us:List Value} (h:ay M B ps us):ay M B (ps.map PV.un) us:=by
 refine Ir (by simp[oH h]) fun j p u hp hu => ?_
 cases hq:ps[j]? with
 | none=>simp_all
 | some q =>simp[hq] at hp; subst hp;obtain ⟨u',e,hr⟩:=vN h hq;rw[e] at hu; cases hu; exact ou.2 hr
theorem EL {p:PV} (h:p.one=true) {v:Value} (hr:Rep M B p v):v.cells = #[v]/\v.oneCell'=true:=by
 cases p with
 | int k n=>rw[dw.1 hr]; exact ⟨rfl,rfl⟩
 | bool b=>rw[kE.1 hr]; exact ⟨rfl,rfl⟩
 | str b=>rw[iq.1 hr]; exact ⟨rfl,rfl⟩
 | nilp=>rw[Ip.1 hr]; exact ⟨rfl,rfl⟩
 | raw u=>obtain ⟨rfl,h1⟩:=CU.1 hr; refine ⟨?_,h1⟩; cases v<;>first | rfl | (simp[Value.oneCell'] at h1)
 | ptr i off=>obtain ⟨c,_,rfl⟩:=wO.1 hr; exact ⟨rfl,rfl⟩
 | dA T i =>
  obtain ⟨c,_,h0,h1⟩:=Fv.1 hr;by_cases hT:T=0
  .obtain ⟨_,rfl⟩:=h0 hT; exact ⟨rfl,rfl⟩
  .have h1:=h1 hT;unfold Y9 at h1;split at h1
   .obtain ⟨_,rfl⟩:=h1; exact ⟨rfl,rfl⟩
   .obtain ⟨_,rfl | rfl⟩:=h1<;>exact ⟨rfl,rfl⟩
 | cst e=>obtain ⟨c,_,rfl,_⟩:=Am.1 hr; exact ⟨rfl,rfl⟩
 | sl o sz es=>obtain ⟨A,c,rfl,_⟩:=jR.1 hr; exact ⟨rfl,rfl⟩
 | slh i off n sz=>obtain ⟨A,c,_,rfl,_⟩:=tZ.1 hr; exact ⟨rfl,rfl⟩
 | dC l=>obtain ⟨A,c,rfl,_⟩:=a2X.1 hr; exact ⟨rfl,rfl⟩
 | gX o n sz cs=>obtain ⟨A,c,rfl,_⟩:=Fz.1 hr; exact ⟨rfl,rfl⟩
 | mp l=>obtain ⟨f,rfl,_⟩:=aSZ.1 hr; exact ⟨rfl,rfl⟩
 | func fn f c=>obtain ⟨f,c,rfl,_⟩:=zn.1 hr; exact ⟨rfl,rfl⟩
 | agg cs=>simp[PV.one] at h
 | tuple cs=>simp[PV.one] at h
theorem VD {p:PV} {new:bZZ} (h:p.newCells=some new) {v:Value} (hr:Rep M B p v):ay M B new v.cells.toList/\∀ q,q∈new->q.own=false:=by
 unfold PV.newCells at h;split at h
 .split at h
  .cases h;obtain ⟨vs,rfl,hs⟩:=pz.1 hr;exact ⟨Iu hs,fun q hq=>by grind [qX]⟩
  .cases h
 .split at h
  .rename_i h1;cases h;rw[(EL h1 hr).1];exact ⟨cO.2 ⟨v,[],rfl,ou.2 hr,dW.2 rfl⟩,fun q hq=>by rw[xx.1 hq]; exact qX p⟩
  .cases h
theorem aR5 {p:PV} {new:bZZ} (h:p.newCells=some new) {v:Value} (hr:Rep M B p v):∀ u,u∈v.cells.toList->u.oneCell'=true:=by
 have h1:=(VD h hr).1;have h2:∀ q,q∈new->q.one=true:=by unfold PV.newCells at h;grind [aVR]
 intro u hu;obtain ⟨j,hj⟩:=yu.1 hu;have hl:=oH h1;have hjl:=(iO.1 hj).1;have hd:new[j]? = some (new[j]'(by omega)):=jU (by omega);obtain ⟨u',e,hr'⟩:=vN h1 hd;rw[e] at hj; cases hj;exact (EL (h2 _ (dY _)) hr').2
theorem a6H {place:Nat->Option (Nat×Nat)}:∀ {ps:List (Nat×PV)} {vs:List (Nat×Value)} {cs:bZZ} {us:Array Value} {r:bZZ},F7 place cs ps=some r->ay M B cs us.toList ->
 ps.length=vs.length->(∀ (j:Nat) p v,ps[j]? = some p->vs[j]? = some v->p.1=v.1/\Rep M B p.2 v.2)->∃ r',Instr.fill place us vs=some r'/\ay M B r r'.toList
 | [],[],cs,us,r,h,hc,_,_=>by simp[F7] at h; subst h; exact ⟨us,rfl,hc⟩
 | [],_::_,_,_,_,_,_,hl,_=>by simp at hl
 | _::_,[],_,_,_,_,_,hl,_=>by simp at hl
 | (i,p)::ps,(i',v)::vs,cs,us,r,h,hc,hl,hv=>by
  obtain ⟨e,hr⟩:=hv 0 (i,p) (i',v) rfl rfl;subst e;rw[F7] at h;split at h
  .rename_i o z new hp hn;split at h
   .have hnr:=(VD hn hr).1;have hsz:v.cells.size=z:=by have:=oH hnr; simp at this; omega
    have hus:us.size=cs.length:=by have:=oH hc; simp at this; omega
    have hfold:=a6O o v.cells.toList 0 us (by simp; omega);have ha:(v.cells.zipIdx.foldl (fun cs (c,j)=>cs.setIfInBounds (o+j) c) us)=((v.cells.toList.zipIdx 0).foldl (fun (cs:Array Value) (cj:Value×Nat)=>cs.setIfInBounds (o+cj.2) cj.1) us):=by rw[<- Array.foldl_toList,Array.toList_zipIdx]
    obtain ⟨r',h1,h2⟩:=a6H h (by
     rw[hfold];have:(v.cells.toList.length)=z:=by simpa using hsz
     rw[this];exact ER (ER (aT4 hc o) hnr) (bR3 hc _)) (by simpa using hl) (fun j p v a b=>hv (j+1) p v (by simpa using a) (by simpa using b))
    refine ⟨r',?_,h2⟩;rw[Instr.fill,hp];simp only;rw[aV (by simp; omega),ha];exact h1
   .cases h
  .cases h
theorem aAT {rd:Operand->Option PV} {ρ:Operand->Value} (hrd:∀ x q,rd x=some q->Rep M B q (ρ x)/\q.own=false):∀ {xs:List (Nat×Operand)} {ps:List (Nat×PV)},uV rd xs=some ps ->
 ps.length=(xs.map fun ix=>(ix.1,ρ ix.2)).length/\∀ (j:Nat) p v,ps[j]? = some p->(xs.map fun ix=>(ix.1,ρ ix.2))[j]? = some v->p.1=v.1/\Rep M B p.2 v.2
 | [],ps,h=>by grind [uV]
 | (i,x)::xs,ps,h=>by
  rw[uV] at h;split at h
  .rename_i p qs hp hq;obtain ⟨h1,h2⟩:=aAT hrd hq;grind
  .cases h
theorem aW3 {z:Value} (h:∀ v,v∈z.cells->v.oneCell'=true):ay M B ((z.cells.toList.map nH).map PV.un) z.cells.toList:=by grind [Iu,Ir,Iq]
theorem bPS {t:TypeId} {fs:List (Nat×Nat×Bool)} (h:fieldsOf P t=some fs):∃ Fs,P.underlying t=some (.struct Fs)/\Fs.toList.mapM (fun f=>(P.info? f.type).map fun i=>(f.offset,i.size))=some (fs.map fun f=>(f.1,f.2.1)):=by
 unfold fieldsOf at h;split at h
 .rename_i Fs hu;refine ⟨Fs,hu,?_⟩;generalize Fs.toList=L at h;induction L generalizing fs with
  | nil=>simp_all
  | cons f L ih =>
   rw[List.mapM_cons] at h ⊢;cases hf:ti P f.type with
   | none=>grind
   | some I =>
    cases hm:L.mapM (fun f=>(ti P f.type).map fun i=>(f.offset,i.size,i.agg)) with
    | none=>simp_all
    | some bs =>simp[hf,hm] at h;subst h;obtain ⟨i,z,d,hT⟩:=GM hf;rw[ih hm];simp[hT.info,hT.size]
 .cases h
theorem aYO {t:TypeId} {xs:Array (Nat×Operand)} {rd:Operand->Option PV} {ρ:Operand->Value} (hrd:∀ x q,rd x=some q->Rep M B q (ρ x)/\q.own=false) {p:PV} (h:pop P rd (.build t xs)=some p) (w:World) :
 ∃ v,(Instr.build t (xs.map fun (i,x)=>(i,ρ x))).run P w = .ok v w/\Rep M B p v/\p.own=false:=by
 have hxs:(xs.map fun (i,x)=>(i,ρ x)).toList=xs.toList.map fun ix=>(ix.1,ρ ix.2):=by simp
 rw[pop] at h;split at h
 .rename_i I qs hI hq;obtain ⟨i,z,d,hT⟩:=GM hI;obtain ⟨p1,p2⟩:=aAT hrd hq;have hz:ay M B (I.zero.map PV.un) z.cells.toList:=by rw[hT.Uh]; exact aW3 hT.one
  split at h
  .rename_i fs hf ha;obtain ⟨Fs,hu,hm⟩:=bPS hf;cases UU:F7 (fun i=>(fs[i]?).map fun f=>(f.1,f.2.1)) (I.zero.map PV.un) qs with
   | none=>simp_all
   | some r =>
    simp[UU] at h; subst h;obtain ⟨r',h1,h2⟩:=a6H UU hz p1 p2;refine ⟨.agg r',run_build w t _ r' ?_,pz.2 ⟨r',rfl,h2⟩,rfl⟩;have hpl:(fun (j:Nat)=>((fs.map fun f=>(f.1,f.2.1)).toArray)[j]?)=fun (i:Nat)=>(fs[i]?).map fun f=>(f.1,f.2.1):=by simp
    simp only[Program.built,hT.info,hu,hT.zero,hm];rw[hpl,hxs]; exact h1
  .rename_i n J hf ha;obtain ⟨e,j,z',d',hu,hJ⟩:=Xy ha;cases UU:F7 (fun i=>some (i*J.size,J.size)) (I.zero.map PV.un) qs with
   | none=>simp_all
   | some r =>simp[UU] at h; subst h;obtain ⟨r',h1,h2⟩:=a6H UU hz p1 p2;refine ⟨.agg r',run_build w t _ r' ?_,pz.2 ⟨r',rfl,h2⟩,rfl⟩;simp only[Program.built,hT.info,hu,hT.zero,hJ.info];rw[hxs,<- hJ.size]; exact h1
  .cases h
 .cases h
theorem aZF {c:Call} {ty:TypeId} {rd:Operand->Option PV} {ρ:Operand->Value} (hrd:∀ x q,rd x=some q->Rep M B q (ρ x)/\q.own=false) {p:PV} (h:Fg P rd c=some p) (w:World) :
 ∃ v,(do let d<-resolve ρ c ty; invoke d.target d.args:Sem Next).run P w = .ok (.value v) w/\Rep M B p v/\p.own=false:=by
 obtain ⟨callee,args,argTypes⟩:=c;unfold Fg at h;simp only at h;split at h
 .split at h
  .rename_i x t h1 h2;cases hx:rd x with
   | none=>grind
   | some q =>
    simp[hx] at h;have e1:args = #[x]:=by rw[<- sK]; exact h1
    have e2:argTypes = #[t]:=by rw[<- sK]; exact h2
    subst e1; subst e2;obtain ⟨v,h3,h4⟩:=bL8 (ty:=ty) h (hrd _ _ hx).1 w;exact ⟨v,by simp[resolve,invoke,builtin,h3],h4⟩
  .cases h
 .cases ha:ji (args.toList.map rd) with
  | none=>grind
  | some ps =>simp[ha] at h;obtain ⟨h1,_⟩:=Ld hrd ha;obtain ⟨v,h3,h4⟩:=bMI h (vs:=args.map ρ) (by simpa using h1) w;exact ⟨v,by simp only[resolve,invoke,builtin,mX,JR,wZ]; rw[h3]; rfl,h4⟩
 .cases ha:ji (args.toList.map rd) with
  | none=>grind
  | some ps =>simp[ha] at h;obtain ⟨h1,_⟩:=Ld hrd ha;obtain ⟨v,h3,h4⟩:=bM8 h (vs:=args.map ρ) (by simpa using h1) w;exact ⟨v,by simp only[resolve,invoke,builtin,mX,JR,wZ]; rw[h3]; rfl,h4⟩
 .cases h
theorem aNX {t:TypeId} {A:Option Addr} {n cap:Nat} {k:IntKind} {j:Int} {I:TI} {e:TypeId} {i:TypeInfo} {z:Value} {d:TypeDesc} (hu:P.underlying t=some (.slice e)) (hT:rO P e I i z d) {b off:Nat} (hA:A=some ⟨b,off,none⟩)
 (h0:0<=j) (h1:j<n) (w:World):(Instr.indexAt t (.slice A n cap) (.int k j)).run P w = .ok (.pointer (some ⟨b,off+j.toNat*I.size,none⟩)) w:=by
 subst hA;simp[Instr.indexAt,asIntOf,fG hu,h0,h1,hT.run_sizeOf w,add_lit]
theorem bJ6 {t:TypeId} {i:Operand} {rd:Operand->Option PV} {ρ:Operand->Value} (hrd:∀ x q,rd x=some q->Rep M B q (ρ x)/\q.own=false) {p:PV} (h:pop P rd (.indexAddr t x i)=some p) (w:World):
 ∃ v,(Instr.indexAt t (ρ x) (ρ i)).run P w = .ok v w/\Rep M B p v/\p.own=false:=by
 rw[pop] at h;split at h
 .rename_i o sz es k n hx hi;have hrx:=(hrd _ _ hx).1;rw[dw.1 (hrd _ _ hi).1];split at h
  .rename_i hc;obtain ⟨I,hI,hIs⟩:=JQ.1 hc.1;obtain ⟨e,i',z,d,hu,hT⟩:=zH hI;cases hg:es[n.toNat]? with
   | none=>grind
   | some q =>
    simp[hg] at h; subst h;have hlt:=(iO.1 hg).1;obtain ⟨A,cap,e1,hle,hsz,_,hA⟩:=jR.1 hrx
    .obtain ⟨b,off,rfl,hl⟩:=hA (fun e=>by rw[e] at hlt; simp at hlt);rw[e1];refine ⟨_,aNX hu hT rfl hc.2 (by omega) w,Am.2 ⟨b,_,rfl,?_⟩,rfl⟩;rw[hIs]; exact EF hl hg
  .cases h
 .rename_i j off m sz k n hx hi;rw[dw.1 (hrd _ _ hi).1];split at h
  .rename_i hc;cases h;obtain ⟨I,hI,hIs⟩:=JQ.1 hc.1;obtain ⟨e,i',z,d,hu,hT⟩:=zH hI;obtain ⟨c,cap,hc',e1,_⟩:=tZ.1 (hrd _ _ hx).1;rw[e1];exact ⟨_,aNX hu hT rfl hc.2.1 (by omega) w,wO.2 ⟨c,hc',by rw[hIs]⟩,rfl⟩
  .cases h
 .rename_i j off k n hx hi;rw[dw.1 (hrd _ _ hi).1];split at h
  .rename_i m I hI;split at h
   .rename_i hc;cases h;obtain ⟨e,i',z,d,hu,hT⟩:=Xy hI;obtain ⟨c,hc',e1⟩:=wO.1 (hrd _ _ hx).1;rw[e1];refine ⟨_,?_,wO.2 ⟨c,hc',rfl⟩,rfl⟩;simp[Instr.indexAt,asIntOf,fG hu,hc.1,hc.2,Instr.sureAddr,hT.run_sizeOf w,add_lit]
   .cases h
  .cases h
 .rename_i cs k n hx hi;rw[dw.1 (hrd _ _ hi).1];split at h
  .rename_i m I hI;split at h
   .rename_i hc;obtain ⟨e,i',z,d,hu,hT⟩:=Xy hI;obtain ⟨b,off,e1,hl⟩:=Am.1 (hrd _ _ hx).1;rw[e1];cases hv:xh cs (n.toNat*I.size) I.size I.agg with
    | none=>grind
    | some r =>simp[hv] at h; subst h;refine ⟨_,?_,Am.2 ⟨b,_,rfl,aV6 (yO.1 hl) hv⟩,rfl⟩;simp[Instr.indexAt,asIntOf,fG hu,hc.1,hc.2,Instr.sureAddr,hT.run_sizeOf w,add_lit]
   .cases h
  .cases h
 .cases h
theorem bJ8 {t:TypeId} {i:Operand} {rd:Operand->Option PV} {ρ:Operand->Value} (hrd:∀ x q,rd x=some q->Rep M B q (ρ x)/\q.own=false) {p:PV} (h:pop P rd (.index t x i)=some p) (w:World):
 ∃ v,(Instr.index t (ρ x) (ρ i)).run P w = .ok v w/\Rep M B p v/\p.own=false:=by
 rw[pop] at h;split at h
 .rename_i s k n hx hi;rw[dw.1 (hrd _ _ hi).1,iq.1 (hrd _ _ hx).1];split at h
  .rename_i hc;cases hb:s[n.toNat]? with
   | none=>grind
   | some b =>simp[hb] at h; subst h;refine ⟨.int .u8 b.toNat,?_,dw.2 rfl,rfl⟩;simp[Instr.index,asIntOf,fG (Ud hc.1),hc.2,hb]
  .cases h
 .rename_i cs k n hx hi;rw[dw.1 (hrd _ _ hi).1];split at h
  .rename_i m I hI;split at h
   .rename_i hc;obtain ⟨e,i',z,d,hu,hT⟩:=Xy hI;obtain ⟨vs,e1,hv⟩:=pz.1 (hrd _ _ hx).1;rw[e1];obtain ⟨v,h1,h2⟩:=a3P hv hT h w;refine ⟨v,?_,h2⟩;simp[Instr.index,asIntOf,fG hu,hc.1,hc.2,hT.run_sizeOf w,h1]
   .cases h
  .cases h
 .cases h
theorem bPU {rd:Operand->Option PV} {ρ:Operand->Value} (hrd:∀ x q,rd x=some q->Rep M B q (ρ x)/\q.own=false) {o:Oper} {p:PV} (h:pop P rd o.op=some p) (w:World) (hmem:∀ (b o:Nat) (v:Value),M b o=some v->w.cell? ⟨b,o,none⟩=some v/\v.oneCell'=true) :
 ∃ v,(execOp ρ o).run P w = .ok (.value v) w/\Rep M B p v/\p.own=false:=by
 obtain ⟨dst,op,type,pos,after,guard⟩:=o;simp only at h;have fin:∀ {s:Sem Value},(∃ v,s.run P w = .ok v w/\Rep M B p v/\p.own=false)->execOp ρ ⟨dst,op,type,pos,after,guard⟩=(do pure (.value (<- s)))->∃ v,(execOp ρ ⟨dst,op,type,pos,after,guard⟩).run P w = .ok (.value v) w/\Rep M B p v/\p.own=false :=fun ⟨v,h1,h2⟩ he=>⟨v,a_O he h1,h2⟩
 cases op with
 | move x=>exact ⟨ρ x,rfl,hrd _ _ h⟩
 | assign x=>exact ⟨ρ x,rfl,hrd _ _ h⟩
 | pick c a b =>
  rw[pop] at h;split at h
  .rename_i cc hc;have e:=kE.1 (hrd _ _ hc).1;cases cc with
   | true=>exact ⟨ρ a,by simp[execOp,e,asBool],hrd _ _ (by grind)⟩
   | false=>exact ⟨ρ b,by simp[execOp,e,asBool],hrd _ _ (by grind)⟩
  .cases h
 | fieldAddr s x f =>
  rw[pop] at h;split at h
  .rename_i fs q hf hq;cases hj:fs[f]? with
   | none=>grind
   | some ozg =>
    obtain ⟨o,z,g⟩:=ozg;simp only[hj,NF] at h;split at h
    .cases h
    .rename_i hz;exact fin (bTE (hrd _ _ hq).1 hf hj hz h w) rfl
  .cases h
 | field s x f =>
  rw[pop] at h;split at h
  .rename_i fs cs hf hq;cases hj:fs[f]? with
   | none=>grind
   | some ozg =>obtain ⟨o,z,g⟩:=ozg;simp only[hj,NF] at h;obtain ⟨Fs,F,I,i,zv,d,hu,hF,ho,hT,hsz,hg⟩:=aHQ hf hj;subst ho; subst hsz; subst hg;obtain ⟨vs,e,hv⟩:=pz.1 (hrd _ _ hq).1;obtain ⟨v,h1,h2⟩:=a3P hv hT h w;refine fin ⟨v,?_,h2⟩ rfl;rw[e];simp[Instr.field,fG hu,hF,asAgg,h1]
  .cases h
 | indexAddr t x i=>exact fin (bJ6 hrd h w) rfl
 | index t x i=>exact fin (bJ8 hrd h w) rfl
 | slice t x lo hi mx =>
  cases mx with
  | some m =>
   cases lo with
   | none=>simp[pop] at h
   | some l =>
    cases hi with
    | none=>simp[pop] at h
    | some b =>
     rw[pop] at h;split at h
     .rename_i q pa pb pc hx ha hb hc;exact fin (bSR h (hrd _ _ hx).1 (hrd _ _ ha).1 (hrd _ _ hb).1 (hrd _ _ hc).1 w) rfl
     .cases h
  | none =>
   rw[pop] at h;cases hx:rd x with
   | none=>grind
   | some q =>
    cases lo with
    | none =>
     cases hi with
     | none=>simp[hx] at h; exact fin (a3J h (hrd _ _ hx).1 (.inl ⟨rfl,rfl⟩) (.inl ⟨rfl,rfl⟩) w) rfl
     | some b =>
      cases hb:rd b with
      | none=>simp_all
      | some pb=>simp[hx,hb] at h; exact fin (a3J h (hrd _ _ hx).1 (.inl ⟨rfl,rfl⟩) (.inr ⟨_,_,rfl,rfl,(hrd _ _ hb).1⟩) w) rfl
    | some a =>
     cases ha:rd a with
     | none=>cases hi<;>simp[hx,ha] at h
     | some pa =>
      cases hi with
      | none=>simp[hx,ha] at h; exact fin (a3J h (hrd _ _ hx).1 (.inr ⟨_,_,rfl,rfl,(hrd _ _ ha).1⟩) (.inl ⟨rfl,rfl⟩) w) rfl
      | some b =>
       cases hb:rd b with
       | none=>simp_all
       | some pb=>simp[hx,ha,hb] at h; exact fin (a3J h (hrd _ _ hx).1 (.inr ⟨_,_,rfl,rfl,(hrd _ _ ha).1⟩) (.inr ⟨_,_,rfl,rfl,(hrd _ _ hb).1⟩) w) rfl
 | binOp op t x y yt =>
  rw[pop] at h;split at h
  .rename_i a b ha hb;obtain ⟨h1,v,h2,h3⟩:=aYI h (hrd _ _ ha).1 (hrd _ _ hb).1 w;refine fin (s:=do eqGuard op t x y (ρ x) (ρ y); binOp op t (ρ x) (ρ y)) ⟨v,?_,h3⟩ rfl;rw[mX,h1 x y,wZ,h2]
  .cases h
 | unOp op t x =>
  rw[pop] at h;cases hx:rd x with
  | none=>grind
  | some q=>simp[hx] at h; exact fin (bVB h (hrd _ _ hx).1 w) rfl
 | convert s d x =>
  rw[pop] at h;cases hx:rd x with
  | none=>grind
  | some q=>simp[hx] at h; exact fin (a'7 h (hrd _ _ hx).1 w hmem) rfl
 | makeFunc fn first caps =>
  rw[pop] at h;split at h
  .rename_i f c hf hc;cases h;exact fin (s:=Instr.makeFunc fn (first.map ρ) (caps.map ρ)) ⟨_,rfl,zn.2 ⟨_,_,rfl,by simpa using (Ld hrd hf).1,by simpa using (Ld hrd hc).1⟩,rfl⟩ rfl
  .cases h
 | extract x i =>
  rw[pop] at h;cases hx:rd x with
  | none=>grind
  | some q=>simp[hx] at h; exact fin (a_P h (hrd _ _ hx).1 w) rfl
 | nilCheck x =>
  rw[pop] at h;split at h
  .rename_i i o hx;cases h;obtain ⟨c,_,e⟩:=wO.1 (hrd _ _ hx).1;exact ⟨ρ x,by simp[execOp,e],(hrd _ _ hx)⟩
  .rename_i q hx;cases h;obtain ⟨b,off,e,_⟩:=Am.1 (hrd _ _ hx).1;exact ⟨ρ x,by simp[execOp,e],(hrd _ _ hx)⟩
  .rename_i f a b hx;cases h;obtain ⟨f',c',e,_,_⟩:=zn.1 (hrd _ _ hx).1;exact ⟨ρ x,by simp[execOp,e],(hrd _ _ hx)⟩
  .cases h
 | build t ps=>exact fin (aYO hrd h w) rfl
 | call c =>obtain ⟨v,h1,h2⟩:=aZF (ty:=type) hrd (by simpa[pop] using h) w;exact ⟨v,h1,h2⟩
 | _=>simp[pop] at h
end
structure AE where
 P:Program
 n:Nat
 vars:List Nat
 mv:List Nat
 mu:List Nat
 sz:List (Nat×List Nat) := []
 jt:List (Nat×List Nat) := []
 lt:List (Nat×List Nat) := []
 pt:List (Nat×List Nat) := []
 fz:List Nat := []
 ft:List (Nat×List Nat) := []
 sy:List Nat := []
 ln:List Nat := []
def ASt.ev (Z:ASt):Operand->Option PV
 | .tmp t=>bZ t Z.s
 | .const v=>a2D v
 | .func f=>some (.func (.func f) [] [])
 | .global _=>none
def ASt.rd (Z:ASt) (x:Operand):Option PV:=(Z.ev x).map PV.un
def ASt.rdT (zs:List Nat) (Z:ASt) (x:Operand):Option PV:=(Z.rd x).map (PV.zo zs)
def elT (P:Program) (t:TypeId):List Nat:=match xI P t with | some e=>OA P 8 e | none => []
def ASt.clr (Z:ASt):Operand->ASt
 | .tmp t=>match bZ t Z.s with
  | some p => { Z with s:=iM t p.un Z.s }
  | none=>Z
 | _=>Z
def ASt.put (E:AE) (dst:Option Nat) (p:PV) (Z:ASt):Option ASt :=
 match dst with
 | none=>some Z
 | some d=>if d<E.n then some { Z with s:=iM d p Z.s } else none
def dF (l:List Nat):Option Nat->Bool
 | some d=>l.contains d
 | none=>false
def oP (mv:Bool) (I:TI) (q:PV) (Z:ASt):Option (PV×ASt) :=
 match q with
 | .cst e=>if e.isAgg=I.agg/\e.size=I.size then some (e.un,Z) else none
 | .ptr i off=>match Z.h[i]? with
  | some (some cs) =>
   if I.agg then (if off+I.size<=cs.length then some (.agg (((cs.drop off).take I.size).map PV.un),Z) else none)
   else match cs[off]? with
    | some p=>if mv then some (p,{ Z with h:=Z.h.set i (some (cs.set off p.un)) }) else some (p.un,Z)
    | none=>none
  | _=>none
 | _=>none
def yZ (I:TI) (a x:PV) (Z:ASt):Option ASt :=
 match a with
 | .ptr i off=>match Z.h[i]? with
  | some (some cs)=>match x with
   | .agg ds=>if ds.length=I.size/\off+I.size<=cs.length/\ds.all PV.one then some { Z with h:=Z.h.set i (some (cs.take off ++ ds.map PV.un ++ cs.drop (off+I.size))) } else none
   | p=>if p.one/\I.size=1/\off<cs.length then some { Z with h:=Z.h.set i (some (cs.set off p)) } else none
  | _=>none
 | _=>none
def PV.okE:PV->Bool
 | .agg ds=>ds.all PV.one&&PV.flats ds
 | p=>p.one&&p.flat
theorem bNE {p:PV} (h:p.okE=true):p.flat=true:=by
 cases p with
 | agg ds=>simp only[PV.okE,bI] at h; exact h.2
 | _=>first | (simp only[PV.okE,bI] at h; exact h.2) | (simp[PV.okE] at h)
def DZ (sz:Nat):Nat->List (Nat×PV)->Option (bZZ)
 | _,[]=>some []
 | k,(i,p)::ps=>if i=k/\p.size=sz/\p.okE then (DZ sz (k+1) ps).map (p.un :: ·) else none
def eu:bZZ->bZZ
 | [] => []
 | .agg ds::ps=>ds.map PV.un ++ eu ps
 | p::ps=>p.un::eu ps
def OW (q:PV):Option PV:=match q.newCells with
 | some cs=>if q.flat=true then some (match q with | .agg _ => .agg cs | _=>q) else none
 | none=>none
def Jh (b:Bool) (t:Nat) (i:Nat) (cs:bZZ):bZZ:=match b,cs with
 | true,[.nilp,.sl true 0 []]=>(match Nat.beq t 0||Nat.beq t DD with | true=>cs | false => [.dA t i,.dC []])
 | _,cs=>cs
theorem aYL (b:Bool) (t:TypeId) (i:Nat) (cs:bZZ):(Jh b t i cs).length=cs.length:=by unfold Jh; grind
theorem aYK {t:TypeId} {i:Nat} {j:Nat} {p:PV} (h:(Jh b t i cs)[j]? = some p):cs[j]? = some p\/(j=0/\p = .dA t i/\cs[0]? = some .nilp/\cs.length=2/\(t≠0/\Nat.beq t DD=false))\/(j=1/\p = .dC []/\cs[1]? = some (.sl true 0 [])):=by
 unfold Jh at h;split at h
 .split at h
  simp_all
  .rename_i ht;rw[aDX] at ht;match j with
   | 0=>simp at h; exact .inr (.inl ⟨rfl,h.symm,rfl,rfl,fun e=>by simp_all,ht.2⟩)
   | 1=>simp_all
   | j+2=>simp at h
 simp_all
def vV (I:TI):PV:=match I.agg with
 | true => .agg (I.zero.map PV.un)
 | false=>match I.zero with | [p]=>p.un | _ => .nilp
def wX (n:Nat) (I:TI):bZZ:=match I.zero with
 | [p]=>List.replicate n p
 | zs=>(List.replicate n zs).flatten
theorem bWI (n:Nat) (I:TI):wX n I=(List.replicate n I.zero).flatten:=by
 unfold wX;split;simp_all
 .rfl
def J5 (b:ByteArray):bZZ:=b.data.toList.map fun x => .int .u8 x.toNat
theorem bTA (b:ByteArray):(J5 b).length=b.size:=by rw[J5,bF]; rfl
theorem bT9 (b:ByteArray):J5 b=nO b.data.toList:=rfl
theorem aG8 (a b:bZ'):nO (a ++ b)=nO a ++ nO b:=qZ
theorem YI (a:bZ'):(nO a).length=a.length:=bF _
def aRR (l:List Nat):PV->Bool
 | .cst _=>true
 | .ptr i _=>dF l (some (1000000+i))
 | _=>false
def kW:Operand->Option Nat
 | .tmp t=>some t
 | _=>none
def QX (mu ln:List Nat) (d:Option Nat) (q:Option PV):Bool:=match dF mu d with
 | true=>(match q with | some (.ptr i _) => !dF ln (some (1000000+i)) | _=>false)
 | false=>true
def VN:bZZ->Option Int
 | [.int .u8 c]=>some c
 | _=>none
theorem bNJ (h:VN es=some c):es = [.int .u8 c]:=by unfold VN at h; grind
theorem bNI (h0:0<=c) (h1:c<256):nO [UInt8.ofNat c.toNat] = [.int .u8 c]:=by have:(UInt8.ofNat c.toNat).toNat=c.toNat:=UInt8.toNat_ofNat_of_lt' (by simp_all);grind [nO]
def F5 (Z:ASt) (sz:Nat):PV->Option (Nat×bZZ)
 | .sl _ sz' es=>(match Nat.beq sz' sz||Nat.beq sz' 0 with | true=>some (es.length,eu es) | false=>none)
 | .slh j off m sz'=>(match Z.h[j]? with
  | some (some cs)=>if sz'=sz/\off+m*sz<=cs.length then some (m,((cs.drop off).take (m*sz)).map PV.un) else none
  | _=>none)
 | _=>none
def aOX (P:Program) (k:TypeId):Option (Option IntKind):=match P.underlying k with
 | some .string=>some none
 | some (.int kd)=>some (some kd)
 | _=>none
def zeroOf:Value->PV
 | .agg cs => .agg ((cs.toList.map nH).map PV.un)
 | v=>(nH v).un
def X6:Value->Bool
 | .agg cs=>cs.toList.all (·.oneCell')
 | v=>v.oneCell'
def Bq (P:Program) (t:TypeId):Option (Option IntKind×PV):=match P.underlying t with
 | some (.map k e)=>(match aOX P k,(P.info? e).bind (·.zero) with
  | some s,some z=>(match X6 z with | true=>some (s,zeroOf z) | false=>none)
  | _,_=>none)
 | _=>none
def eqK (s:Option IntKind) (a b:PV):Option Bool:=match s,a,b with
 | some kd,.int k x,.int k' y=>(match decide (k=kd)&&decide (k'=kd) with | true=>some (x==y) | false=>none)
 | none,.str x,.str y=>some (x.data.toList==y.data.toList)
 | _,_,_=>none
def xQ (s:Option IntKind):bZZ->PV->Option (Option PV)
 | k::v::L,q=>(match eqK s q k with
  | some true=>some (some v)
  | some false=>xQ s L q
  | none=>none)
 | [],_=>some none
 | [_],_=>none
def rZ (s:Option IntKind):bZZ->PV->Bool
 | k::_::L,q=>(match eqK s q k with | some _=>true | none=>false)&&rZ s L q
 | [],_=>true
 | [_],_=>false
def tK (s:Option IntKind):bZZ->PV->Bool
 | k::_::L,q=>(match eqK s q k with | some true=>true | _=>tK s L q)
 | _,_=>false
def nU (s:Option IntKind):bZZ->PV->PV->bZZ
 | k::v::L,q,x=>(match eqK s q k with | some true=>q::x::L | _=>k::v::nU s L q x)
 | L,_,_=>L
def oU:PV->PV->Bool
 | .str a,.str b=>DT a.data.toList b.data.toList
 | _,_=>false
def oZ:bZZ->PV->PV->bZZ
 | k::v::L,q,x=>(match oU q k with | true=>q::x::k::v::L | false=>k::v::oZ L q x)
 | _,q,x => [q,x]
def jo (s:Option IntKind) (L:bZZ) (q x:PV):bZZ:=match tK s L q with
 | true=>nU s L q x
 | false=>oZ L q x
def oW (b:Bool) (L:bZZ):PV:=match b with | true => .mp L | false => .func (.yield Gt) L []
def Ad:bZZ->Option (Bool×bZZ)
 | [.func (.yield n) L []]=>(match Nat.beq n Gt with | true=>some (false,L) | false=>none)
 | [.mp L]=>some (true,L)
 | _=>none
theorem aQO (h:Ad cs=some (b,L)):cs = [oW b L]:=by
 unfold Ad at h;split at h
 .split at h
  .rename_i hn; cases h; rw[oJ hn]; rfl
  .cases h
 .cases h; rfl
 .cases h
def zQ (s:ByteArray) (p:Int):PV := .func (.yield XZ) [.str s,.int .i64 p] []
def PK:bZZ->Option (ByteArray×Int)
 | [.func (.yield n) [.str s,.int .i64 p] []]=>(match Nat.beq n XZ with | true=>some (s,p) | false=>none)
 | _=>none
theorem aOB {s:ByteArray} {p:Int} (h:PK cs=some (s,p)):cs = [zQ s p]:=by
 unfold PK at h;split at h
 .split at h
  .rename_i hn; cases h; rw[oJ hn]; rfl
  .cases h
 .cases h
def PL (s:ByteArray) (p:Int):Int:=p+((Utf8.decode s p.toNat).2:Int)
def a0W (s:ByteArray) (p:Int):Int:=((Utf8.decode s p.toNat).1:Int)
def V8 (b:Bool) (B:aP):aP:=match b with | true => [] | false=>B
theorem a2W {M:Mem} {B:aP} {v:Value}:Rep M B (oW b L) v↔∃ f,v = .func (.yield Gt) f #[]/\ay M (V8 b B) L f.toList:=by
 cases b with
 | true=>exact aSZ
 | false =>
  refine zn.trans ⟨?_,?_⟩
  .rintro ⟨f,c,rfl,h1,h2⟩;rw[dW] at h2;have:c = #[]:=by rw[<- sK]; exact h2
   subst this;exact ⟨f,rfl,h1⟩
  .rintro ⟨f,rfl,h1⟩;exact ⟨f,#[],rfl,h1,dW.2 rfl⟩
theorem Pi (b:Bool) (L:bZZ):(oW b L).own=false:=by cases b<;>rfl
def yJ (s:Option IntKind) (q:PV):Bool:=match s,q with
 | some kd,.int k _=>decide (k=kd)
 | none,.str _=>true
 | _,_=>false
def Bj (ok:Bool) (z:PV):Option PV->PV
 | some p=>(match ok with | true => .tuple [p.un,.bool true] | false=>p.un)
 | none=>(match ok with | true => .tuple [z,.bool false] | false=>z)
def bJ7 (mu:List Nat) (d:Option Nat):Bool:=dF mu (d.map (5000000 + ·))
def aC8 (l:List Nat) (n:Nat):Bool:=l.all fun k=>match Nat.ble 1000000 k with | true=>Nat.blt (k-1000000) n | false=>true
def a3M (mu ln:List Nat) (d:Option Nat) (q:Option PV):Bool:=match dF mu (d.map (6000000 + ·)) with
 | true=>(match q with | some (.dA _ i) => !dF ln (some (1000000+i)) | _=>false)
 | false=>true
def bY (E:AE) (o:Oper) (Z:ASt):Option (PV×ASt) :=
 match o.op with
 | .move x=>if dF E.mv o.dst then (Z.ev x).map fun p=>(p,Z.clr x) else (Z.rd x).map fun p=>(p,Z)
 | .assign x=>(Z.ev x).map fun p=>(p,Z.clr x)
 | .alloc t=>match dF E.ln o.dst && !aC8 E.ln Z.h.length with
  | true=>none
  | false=>(ti E.P t).map fun I=>(.ptr Z.h.length 0,{ Z with h:=Z.h ++ [some (Jh (dF E.mu o.dst) t Z.h.length I.zero)] })
 | .box _ x=>if dF E.fz o.dst then ((Z.rd x).bind OW).map fun e=>(.cst e,Z) else ((Z.rd x).bind PV.newCells).map fun cs=>(.ptr Z.h.length 0,{ Z with h:=Z.h ++ [some cs] })
 | .load t a=>match ti E.P t,Z.rd a with
  | some I,some q=>(match dF E.ln o.dst with | true=>(match aRR E.ln q with | true=>oP false I q Z | false=>none) | false=>oP (dF E.mv o.dst) I q Z)
  | _,_=>none
 | .store t a x=>match QX E.mu E.ln (kW a) (Z.rd a) with
  | false=>none
  | true=>match ti E.P t,Z.rd a,Z.ev x,o.dst with
   | some I,some q,some p,none=>(yZ I q p (Z.clr x)).map fun Z'=>(.tuple [],Z')
   | _,_,_,_=>none
 | .buildSlice t len ps=>match jl E.P t,uV (Z.rdT (elT E.P t)) ps.toList with
  | some I,some qs=>match DZ I.size 0 qs with
   | some es=>if es.length=len/\0<I.size/\len*I.size<=16777216 then
    (if dF E.mu o.dst then some (.slh Z.h.length 0 len I.size,{ Z with h:=Z.h ++ [some (eu es)] }) else (match bJ7 E.mu o.dst with
     | true=>(match (eu es).all PV.lit with | true=>some (.gX true len I.size (eu es),Z) | false=>none)
     | false=>some (.sl true I.size es,Z))) else none
   | none=>none
  | _,_=>none
 | .makeSlice t l c=>match jl E.P t,Z.rd l,Z.rd c with
  | some I,some (.int _ n),some (.int _ n')=>if n=n'/\0<=n/\n<=1073741824/\0<I.size/\I.bytes<=1024 then
   (if dF E.mu o.dst then some (.slh Z.h.length 0 n.toNat I.size,{ Z with h:=Z.h ++ [some (wX n.toNat I)] }) else if (vV I).size=I.size/\(vV I).okE=true then some (.sl true I.size (List.replicate n.toNat (vV I)),Z) else none) else none
  | _,_,_=>none
 | .makeMap t r=>match dF E.ln o.dst && !aC8 E.ln Z.h.length with
  | true=>none
  | false=>(match Bq E.P t,r with
   | some _,none=>some (.dA 0 Z.h.length,{ Z with h:=Z.h ++ [some [oW (dF E.mu o.dst) []]] })
   | _,_=>none)
 | .lookup t m k ok=>match Bq E.P t,Z.rd m,Z.rd k with
  | some (s,z),some (.dA 0 i),some q=>(match Z.h[i]? with
   | some (some cs)=>(match Ad cs with
    | some (_,L)=>(match yJ s q,xQ s L q with
     | true,some r=>some (Bj ok z r,Z)
     | _,_=>none)
    | none=>none)
   | _=>none)
  | _,_,_=>none
 | .mapUpdate t m k v=>match Bq E.P t,Z.rd m,Z.rd k,Z.rd v,o.dst with
  | some (s,_),some (.dA 0 i),some q,some x,none=>(match Z.h[i]? with
   | some (some cs)=>(match Ad cs with
    | some (b,L)=>(match yJ s q&&(rZ s L q&&(!b||x.flat)) with
     | true=>some (.tuple [],{ Z with h:=Z.h.set i (some [oW b (jo s L q x)]) })
     | false=>none)
    | none=>none)
   | _=>none)
  | _,_,_,_,_=>none
 | .insert t m k v=>match a3M E.mu E.ln (kW m) (Z.rd m) with
  | false=>none
  | true=>match Bq E.P t,Z.rd m,Z.rd k,Z.rd v,o.dst with
   | some (s,_),some (.dA 0 i),some q,some x,none=>(match Z.h[i]? with
    | some (some cs)=>(match Ad cs with
     | some (b,L)=>(match yJ s q&&(rZ s L q&&(!b||x.flat)) with
      | true=>some (.tuple [],{ Z with h:=Z.h.set i (some [oW b (jo s L q x)]) })
      | false=>none)
     | none=>none)
    | _=>none)
   | _,_,_,_,_=>none
 | .range t x=>match uP E.P t,Z.rd x with
  | true,some (.str s)=>some (.dA DD Z.h.length,{ Z with h:=Z.h ++ [some [zQ s 0]] })
  | _,_=>none
 | .next x b=>match b,Z.rd x with
  | true,some (.dA T i)=>(match Z.h[i]? with
   | some (some cs)=>(match PK cs with
    | some (s,p)=>(match Nat.beq T DD&&decide (0<=p) with
     | true=>(match decide (p<(s.size:Int)) with
      | true=>some (.tuple [.bool true,.int .i64 p,.int .i32 (a0W s p)],{ Z with h:=Z.h.set i (some [zQ s (PL s p)]) })
      | false=>some (.tuple [.bool false],Z))
     | false=>none)
    | none=>none)
   | _=>none)
  | _,_=>none
 | .call c=>match c.callee with
  | .builtin .copy=>(match c.args.toList,c.argTypes.toList with
   | [x,y],[t,_]=>(match jl E.P t,Z.rd x,Z.rd y with
    | some I,some (.slh i off n sz),some q=>(match Z.h[i]?,F5 Z sz q with
     | some (some cs),some (m,cells)=>if I.size=sz/\0<sz/\off+n*sz<=cs.length then some (.int .i64 ((Nat.min m n:Nat):Int),{ Z with h:=Z.h.set i (some (cs.take off ++ cells.take (Nat.min m n*sz) ++ cs.drop (off+Nat.min m n*sz))) }) else none
     | _,_=>none)
    | _,_,_=>none)
   | _,_=>none)
  | .builtin .clear=>(match c.args.toList,c.argTypes.toList,o.dst with
   | [x],[t],none=>(match jl E.P t,Z.rd x with
    | some I,some (.slh i off n sz)=>(match Z.h[i]? with
     | some (some cs)=>if I.size=sz/\off+n*sz<=cs.length then some (.tuple [],{ Z with h:=Z.h.set i (some (cs.take off ++ (wX n I).map PV.un ++ cs.drop (off+n*sz))) }) else none
     | _=>none)
    | some _,some (.sl _ _ [])=>some (.tuple [],Z)
    | _,_=>none)
   | _,_,_=>none)
  | .builtin .append=>(match c.args.toList,c.argTypes.toList with
   | [s,x],[t,u]=>(match jl E.P t,Z.ev s,Z.rd x with
    | some I,some (.sl ow sz es),some (.sl _ sz' es')=>if (ow=true\/sz=0)/\t=u/\0<I.size/\I.bytes<=1024/\(sz=I.size\/sz=0)/\(sz'=I.size\/sz'=0) then some (.sl true I.size (es ++ es'),Z.clr s) else none
    | some I,some (.sl ow sz es),some (.str b)=>if (ow=true\/sz=0)/\PD E.P t=true/\uP E.P u=true/\I.size=1/\I.bytes<=1024/\(sz=I.size\/sz=0) then some (.sl true I.size (es ++ J5 b),Z.clr s) else none
    | some I,some (.gX true k sz cs),some (.sl _ sz' es')=>if t=u/\0<I.size/\I.bytes<=1024/\sz=I.size/\(sz'=I.size\/sz'=0)/\(eu es').all PV.lit=true then some (.gX true (k+es'.length) I.size (cs ++ eu es'),Z.clr s) else none
    | some I,some (.dC l),some (.str b)=>if xI E.P t=some Jj/\uP E.P u=true/\I.size=1/\I.bytes<=1024 then some (.dC (l ++ b.data.toList),Z.clr s) else none
    | some I,some (.dC l),some (.sl _ sz' es')=>(match VN es' with
     | some c=>if xI E.P t=some Jj/\t=u/\I.size=1/\I.bytes<=1024/\sz'=1 then some (.dC (l ++ [UInt8.ofNat c.toNat]),Z.clr s) else none
     | none=>none)
    | _,_,_=>none)
   | _,_=>none)
  | _=>(Fg E.P Z.rd c).map fun p=>(p,Z)
 | op=>(pop E.P Z.rd op).map fun p=>(p,Z)
def jg (E:AE) (o:Oper) (Z:ASt):Prop :=
 match o.op with
 | .call c=>match c.callee with
  | .builtin .append=>(match c.args.toList with
   | [s,x]=>(match Z.ev s,Z.rd x with
    | some (.sl _ _ es),some (.sl _ _ es')=>es.length+es'.length<=aO
    | some (.sl _ _ es),some (.str b)=>es.length+b.size<=aO
    | some (.gX _ k _ _),some (.sl _ _ es')=>k+es'.length<=aO
    | some (.dC l),some (.str b)=>l.length+b.size<=aO
    | some (.dC l),some (.sl _ _ es')=>(match VN es' with | some c=>l.length+1<=aO/\0<=c/\c<256 | none=>True)
    | _,_=>True)
   | _=>True)
  | _=>True
 | _=>True
section
variable {n:Nat} {out:Nat->Nat} {M:Mem} {B:aP} {Z:ASt} {a:Act} {w:World} {E:AE}
theorem Inv.ev (hI:Inv n M B out Z a.tmps w) {p:PV} (h:Z.ev x=some p):Rep M B p (a.eval x)/\Tl M w p (a.eval x):=by
 cases x with
 | tmp t=>exact (hI.slots t p h).2
 | const v=>obtain ⟨h1,_,h3⟩:=aRQ h; exact ⟨h1,h3 w⟩
 | func f=>cases h; exact ⟨zn.2 ⟨_,_,rfl,dW.2 rfl,dW.2 rfl⟩,fJ rfl⟩
 | global g=>cases h
theorem Inv.rd (hI:Inv n M B out Z a.tmps w) (x:Operand) (q:PV) (h:Z.rd x=some q):Rep M B q (a.eval x)/\q.own=false:=by
 unfold ASt.rd at h;cases he:Z.ev x with
 | none=>grind
 | some p=>simp[he] at h; subst h; exact ⟨ou.2 (hI.ev he).1,qX p⟩
theorem Inv.rdT (hI:Inv n M B out Z a.tmps w) (zs:List Nat) (x:Operand) (q:PV) (h:Z.rdT zs x=some q):Rep M B q (a.eval x)/\q.own=false:=by
 unfold ASt.rdT at h;cases he:Z.rd x with
 | none=>grind
 | some p=>obtain ⟨h1,h2⟩:=hI.rd x p he; grind [Vf,aT9]
theorem Inv.YS (hI:Inv n M B out Z a.tmps w) {p:PV} (h:Z.ev x=some p):Inv n M B out (Z.clr x) a.tmps w/\(∀ b,fp B (Z.clr x) a.tmps w b+bT p (a.eval x) b=fp B Z a.tmps w b)/\(Z.clr x).h=Z.h:=by
 cases x with
 | tmp t =>have h':bZ t Z.s=some p:=h;have:=hI.clr h';simp only[ASt.clr,h'];exact ⟨this.1,this.2,trivial⟩
 | const v=>exact ⟨hI,fun b=>by rw[show a.eval (.const v)=v from rfl,(aRQ (M:=M) (B:=B) h).2.1]; rfl,rfl⟩
 | func f=>cases h; exact ⟨hI,fun b=>by rfl,rfl⟩
 | global g=>cases h
structure Pre (n:Nat) (out:Nat->Nat) (M:Mem) (B:aP) (Z:ASt) (t:Array Value) (w:World) (M':Mem) (B':aP) (Z':ASt) (w':World) (p:PV) (v:Value):Prop where
 inv:Inv n M' B' out Z' t w'
 le:dH M M' B B'
 fr:Fr (fp B Z t w) M w M' w'
 own:∀ b,b<w.heap.size->fp B' Z' t w' b+bT p v b<=fp B Z t w b
 rep:Rep M' B' p v
 tl:Tl M' w' p v
 cnt:∀ b,fp B' Z' t w' b+bT p v b+out b<=1
 new:∀ b,w'.heap.size<=b->bT p v b=0
theorem Pre.put {M':Mem} {B':aP} {Z1 Z':ASt} {w':World} {p:PV} {v:Value} (h:Pre E.n out M B Z a.tmps w M' B' Z1 w' p v) {dst:Option Nat} (hp:ASt.put E dst p Z1=some Z') :
 Good E.n out M B Z a.tmps w M' B' Z' (a.put dst v).tmps w':=by
 cases dst with
 | none =>cases hp;exact ⟨h.inv,h.le,h.fr,fun b hb=>by have:=h.own b hb; show fp B' Z1 a.tmps w' b<=_; omega⟩
 | some d =>
  simp only[ASt.put] at hp;split at hp
  .rename_i hd;cases hp;obtain ⟨h1,h2⟩:=h.inv.bQG hd h.rep h.tl h.cnt h.new;exact ⟨h1,h.le,h.fr,fun b hb=>ng (h2 b) (h.own b hb)⟩
  .cases hp
theorem Pre.plain (hI:Inv n M B out Z a.tmps w) {p:PV} {v:Value} (hr:Rep M B p v) (ho:∀ b,bT p v b=0) (hT:Tl M w p v):Pre n out M B Z a.tmps w M B Z w p v :=⟨hI,dH.refl _ _,Fr.refl _ _ _,fun b _=>by rw[ho]; omega,hr,hT,fun b=>by rw[ho]; exact hI.cnt b,fun b _=>ho b⟩
theorem Pre.Ah {M':Mem} {B':aP} {Z':ASt} {w':World} (h:Good n out M B Z a.tmps w M' B' Z' a.tmps w') {p:PV} {v:Value} (hr:Rep M' B' p v) (ho:p.own=false):Pre n out M B Z a.tmps w M' B' Z' w' p v :=⟨h.inv,h.le,h.fr,fun b hb=>by rw[dP ho]; exact h.own b hb,hr,fJ ho,fun b=>by rw[dP ho]; exact h.inv.cnt b,fun b _=>dP ho v b⟩
theorem Pre.moved (hI:Inv n M B out Z a.tmps w) {p:PV} (h:Z.ev x=some p):Pre n out M B Z a.tmps w M B (Z.clr x) w p (a.eval x):=by obtain ⟨h1,h2,h3⟩:=hI.YS h;obtain ⟨r1,r2⟩:=hI.ev h;exact ⟨h1,dH.refl _ _,Fr.refl _ _ _,fun b _=>by rw[h2]; omega,r1,r2,fun b=>by rw[h2]; exact hI.cnt b,fun b hb=>by have:=h2 b; have:=hI.new b hb; omega⟩
theorem aXO {P:Program} {t:TypeId} {I:TI} (h:ti P t=some I) (w:World):∃ vs:Array Value,(Instr.alloc t true (.tuple #[])).run P w = .ok (.pointer (some ⟨w.heap.size,0,none⟩)) (w.alloc (.cells vs t))/\vs.size=I.size/\I.zero=vs.toList.map nH/\∀ v,v∈vs->v.oneCell'=true:=by obtain ⟨i,z,d,hT⟩:=GM h;refine ⟨z.cells,?_,by rw[hT.JD,hT.size],hT.Uh,hT.one⟩;simp only[Instr.alloc,mX,hT.bRR w,newRow];rfl
theorem YO:∀ {ps:bZZ} {b o:Nat},Cells M B ps b o->∃ vs:List Value,ay M B ps vs/\∀ (j:Nat) v,vs[j]? = some v->M b (o+j)=some v
 | [],_,_,_=>⟨[],dW.2 rfl,by simp⟩
 | p::ps,b,o,h=>by
  obtain ⟨⟨u,hu,hr⟩,h2⟩:=a5P.1 h;obtain ⟨vs,h3,h4⟩:=YO h2;refine ⟨u::vs,cO.2 ⟨u,vs,rfl,hr,h3⟩,fun j v hv => ?_⟩;cases j with
  | zero=>simp at hv; subst hv; exact hu
  | succ j=>have:=h4 j v (by simpa using hv); rwa [show o+(j+1)=o+1+j by omega]
theorem a1R {P:Program} {t:TypeId} {I:TI} (h:ti P t=some I) {b off:Nat} {w:World} :
 (I.agg=true->∀ vs:List Value,vs.length=I.size->(∀ (j:Nat) v,vs[j]? = some v->w.cell? ⟨b,off+j,none⟩=some v)->(Instr.loadAt t (.pointer (some ⟨b,off,none⟩))).run P w = .ok (.agg vs.toArray) w) /\
 (I.agg=false->∀ v,w.cell? ⟨b,off,none⟩=some v->(Instr.loadAt t (.pointer (some ⟨b,off,none⟩))).run P w = .ok v w):=by
 obtain ⟨i,z,d,hT⟩:=GM h;constructor
 .intro hg vs hl hv;have:=run_loadCells_list (P:=P) w ⟨b,off,none⟩ vs (fun j v hj=>by rw[add_lit]; simp_all);rw[hl] at this;simp[Instr.loadAt,Instr.sureAddr,loadVar,hT.aCB w,hg,hT.run_sizeOf w,this]
 .intro hg v hv;simp[Instr.loadAt,Instr.sureAddr,loadVar,hT.aCB w,hg,hv]
theorem a9U (hI:Inv n M B out Z a.tmps w) {P:Program} {t:TypeId} {I:TI} (h:ti P t=some I) {q:PV} (hq:Z.rd x=some q) {mv:Bool} {p:PV} {Z1:ASt} (hl:oP mv I q Z=some (p,Z1)):
 ∃ v,(Instr.loadAt t (a.eval x)).run P w = .ok v w/\Pre n out M B Z a.tmps w M B Z1 w p v:=by
 have hr:=(hI.rd x q hq).1;unfold oP at hl;split at hl
 .rename_i e;split at hl
  .rename_i hc;cases hl;obtain ⟨b,off,e1,hloc⟩:=Am.1 hr;have hloc:=hloc.mono (dH.zero M B);rw[e1];cases hg:I.agg with
   | true =>
    rw[hg] at hc;cases e<;>simp[PV.isAgg] at hc
    obtain ⟨vs,h1,h2⟩:=YO (yO.1 hloc);have hlen:=oH h1;refine ⟨_,(a1R h).1 hg vs (by grind [PV.size]) (fun j v hv=>(hI.mem _ _ _ (h2 j v hv)).1),Pre.plain hI (pz.2 ⟨_,rfl,by omega⟩) (fun b=>dP rfl _ _) (fJ rfl)⟩
   | false =>
    rw[hg] at hc;have h1:e.isAgg=false:=hc.1;have h2:∀ cs,e ≠ .tuple cs:=fun cs e'=>by subst e'; exact a1S.1 hloc
    obtain ⟨u,hu,FK⟩:=(zX h1 h2).1 hloc;exact ⟨u,(a1R h).2 hg u (hI.mem _ _ _ hu).1,Pre.plain hI (ou.2 FK) (fun b=>QA _ _ _) (fJ (qX _))⟩
  .cases hl
 .rename_i i off;obtain ⟨c,⟨hc,hcm⟩,e1⟩:=wO.1 hr;rw[e1];split at hl
  .rename_i cs hcs;obtain ⟨vs,ty,r1,o2,o3,o4,o5⟩:=hI.heap.at hcs hc;obtain ⟨ty,rfl,o1⟩:=EU r1 (by rw[o2.2]; exact hcm);have hcell:∀ (j:Nat) v,vs[j]? = some v->w.cell? ⟨c.1,j,none⟩=some v:=fun j v hv=>by simp[World.cell?,o1,hv]
   split at hl
   .rename_i hg;split at hl
    .cases hl;have P7:ay M B (((cs.drop off).take I.size).map PV.un) ((vs.toList.drop off).take I.size):=by grind [Iu,Ir]
     refine ⟨_,(a1R h).1 hg ((vs.toList.drop off).take I.size) (by simp; omega) (fun j v hv => ?_),Pre.plain hI (pz.2 ⟨_,rfl,by omega⟩) (fun b=>dP rfl _ _) (fJ rfl)⟩;rw[mV] at hv;simp_all
    .cases hl
   .have hg':I.agg=false:=by grind
    cases hp:cs[off]? with
    | none=>simp_all
    | some p0 =>
     simp only[hp] at hl;obtain ⟨v,hv,hrv,hTv,hone⟩:=o4 off p0 hp;have hrun:=(a1R h).2 hg' v (hcell _ _ hv);cases mv with
     | false =>obtain ⟨rfl,rfl⟩:=hl;exact ⟨v,hrun,Pre.plain hI (ou.2 hrv) (fun b=>QA _ _ _) (fJ (qX _))⟩
     | true =>
      simp at hl;obtain ⟨rfl,rfl⟩:=hl;have hlt:=(iO.1 hp).1;have hset:w.setCell ⟨c.1,off,none⟩ v=w:=by
       have:=setCell_eq_setRow w c.1 off vs ty (0,0) v o1;have e2:vs.setIfInBounds off v=vs:=by grind
       grind [setRow_self]
      have hcu:∀ b,bT p0.un v b=0:=fun b=>QA _ _ _
      obtain ⟨s1,s2,s3,_,_⟩:=hI.setCell hcs hc hcm hlt (ou.2 hrv) (fJ (qX _)) hone (fun b=>by rw[hcu]; exact hI.cnt b) (fun b _=>hcu b);rw[hset] at s1 s2 s3;have hfp:∀ b,fp B { Z with h:=Z.h.set i (some (cs.set off p0.un)) } a.tmps w b+bT p0 v b<=fp B Z a.tmps w b:=fun b=>by
       have key:∀ (cs:bZZ) (us:List Value) (j:Nat),cs[j]? = some p0->us[j]? = some v->dn (cs.set j p0.un) us b+bT p0 v b=dn cs us b:=by
        intro cs;induction cs with
        | nil=>simp
        | cons q qs ih =>
         intro us j h1 h2;cases us with
         | nil=>simp at h2
         | cons u us =>
          cases j with
          | zero=>grind [dn]
          | succ j=>grind [dn]
       have Uj:∀ (h:aG) (B:aP) (i:Nat),h[i]? = some (some cs)->B[i]? = some c->aT w (h.set i (some (cs.set off p0.un))) B b+bT p0 v b=aT w h B b:=by
        intro h;induction h with
        | nil=>simp
        | cons x h ih =>
         intro B i h1 h2;cases B with
         | nil=>simp at h2
         | cons d B =>
          cases i with
          | zero =>grind [gy,aT]
          | succ i =>have:=ih B i h1 h2;cases x<;>simp only[List.set_cons_succ,aT]<;>omega
       have:=Uj Z.h B i hcs hc;simp only[fp]; omega
      exact ⟨v,hrun,s1,dH.refl _ _,Fr.refl _ _ _,fun b _=>hfp b,hrv,hTv,fun b=>by have:=hfp b; have:=hI.cnt b; omega,fun b hb=>by have:=hfp b; have:=hI.new b hb; omega⟩
  .cases hl
 .cases hl
end
section
variable {n:Nat} {out:Nat->Nat} {M:Mem} {B:aP} {Z:ASt} {a:Act} {w:World} {t:Array Value}
theorem a3N {P:Program} {i:Nat} {c:Nat×Nat×TypeId} (hc:B[i]? = some c) (hcm:c.2.2≠0) {off:Nat}:∀ (ds:bZZ) (us:List Value) (k:Nat) (cs:bZZ) (Z:ASt) (w:World),Inv n M B out Z t w->Z.h[i]? = some (some cs) ->
 ay M B ds us->(∀ d,d∈ds->d.own=false)->(∀ u,u∈us->u.oneCell'=true)->off+k+ds.length<=cs.length ->
 ∃ w',(storeCells ⟨c.1,off,none⟩ us k).run P w = .ok () w'/\Good n out M B Z t w M B { Z with h:=Z.h.set i (some (cs.take (off+k) ++ ds ++ cs.drop (off+k+ds.length))) } t w'
 | [],us,k,cs,Z,w,hI,hi,hr,_,_,_=>by
  rw[dW] at hr; subst hr;refine ⟨w,rfl,?_⟩;have:Z.h.set i (some (cs.take (off+k) ++ [] ++ cs.drop (off+k+([]:bZZ).length)))=Z.h:=by simp only[yl,dZ,NE,Qv];apply ND;grind
  rw[this]; exact Good.refl hI
 | d::ds,us,k,cs,Z,w,hI,hi,hr,hown,hone,hfit=>by
  obtain ⟨u,us,rfl,h1,h2⟩:=cO.1 hr;have ho:=hown d (by simp);have hu1:=hone u (by simp);simp only[bM] at hfit;obtain ⟨s1,s2,s3,s4,s5⟩:=hI.setCell hi hc hcm (by omega:off+k<cs.length) h1 (fJ ho) hu1 (fun b=>by rw[dP ho]; exact hI.cnt b) (fun b _=>dP ho _ _);have hst:(store ((⟨c.1,off,none⟩:Addr).add k) u).run P w = .ok () (w.setCell ⟨c.1,off+k,none⟩ u):=by rw[add_lit,run_store P w _ u _ hu1];grind
  have hi':({ Z with h:=Z.h.set i (some (cs.set (off+k) d)) }:ASt).h[i]? = some (some (cs.set (off+k) d)):=zx (iO.1 hi).1;obtain ⟨w',hw,hG⟩:=a3N (P:=P) (off:=off) hc hcm ds us (k+1) (cs.set (off+k) d) _ _ s1 hi' h2 (fun e he=>hown e (by simp[he])) (fun v hv=>hone v (by simp[hv])) (by rw[JJ]; omega);refine ⟨w',by grind [storeCells,Sem.run_bind,Result.andThen_ok],?_⟩;have hG1:Good n out M B Z t w M B { Z with h:=Z.h.set i (some (cs.set (off+k) d)) } t (w.setCell ⟨c.1,off+k,none⟩ u) :=⟨s1,dH.refl _ _,s3,fun b _=>by have:=s2 b; rw[dP ho] at this; exact this⟩;have:=hG1.trans hG;have e:(cs.set (off+k) d).take (off+(k+1)) ++ ds ++ (cs.set (off+k) d).drop (off+(k+1)+ds.length)=cs.take (off+k) ++ (d::ds) ++ cs.drop (off+k+(d::ds).length):=by
   have e1:(cs.set (off+k) d).take (off+(k+1))=cs.take (off+k) ++ [d]:=by apply ND;grind
   have e2:(cs.set (off+k) d).drop (off+(k+1)+ds.length)=cs.drop (off+k+(d::ds).length):=by rw[List.drop_set_of_lt (by omega)];simp; omega
   rw[e1,e2]; simp
  rw[List.set_set,e] at this;exact this
theorem aT3 {ds:bZZ} {us:List Value} (h:ay M B ds us) (ho:∀ d,d∈ds->d.one=true):∀ u,u∈us->u.oneCell'=true:=by intro u hu;obtain ⟨j,hj⟩:=yu.1 hu;have hl:=oH h;have hjl:=(iO.1 hj).1;have hd:ds[j]? = some ds[j]:=jU (by omega);obtain ⟨u',e,hr⟩:=vN h hd;rw[e] at hj; cases hj;exact (EL (ho _ (dY _)) hr).2
theorem bT7 (hI:Inv n M B out Z a.tmps w) {P:Program} {ty:TypeId} {I:TI} (h:ti P ty=some I) {y:Operand} {q p:PV} (hq:Z.rd x=some q) (hp:Z.ev y=some p) {Z1:ASt} (hs:yZ I q p (Z.clr y)=some Z1):
 ∃ w' M' B',(Instr.storeAt ty (a.eval x) (a.eval y)).run P w = .ok () w'/\Pre n out M B Z a.tmps w M' B' Z1 w' (.tuple []) undef:=by
 have hr:=(hI.rd x q hq).1;obtain ⟨hpr,hpT⟩:=hI.ev hp;obtain ⟨i',z,d,hT⟩:=GM h;obtain ⟨c1,c2,c3⟩:=hI.YS hp;have aNM:Rep M B (.tuple []) undef:=tq.2 ⟨#[],rfl,dW.2 rfl⟩;unfold yZ at hs;split at hs
 .rename_i i off;obtain ⟨c,⟨hc,hcm⟩,e1⟩:=wO.1 hr;rw[e1];split at hs
  .rename_i cs hcs;split at hs
   .rename_i ds;split at hs
    .rename_i hlen;cases hs;obtain ⟨vs,e2,hv⟩:=pz.1 hpr;have hvs:vs.size=I.size:=by have:=oH hv; simp_all
     have hone:∀ d,d∈ds->d.one=true:=fun d hd=>jF.1 hlen.2.2 d hd
     .obtain ⟨w',hw,hG⟩:=a3N hc hcm (off:=off) (ds.map PV.un) vs.toList 0 cs _ _ c1 hcs (Iu hv) (fun d hd=>by grind [qX]) (aT3 hv hone) (by simp; omega);refine ⟨w',M,B,?_,?_⟩
      .rw[e2];have hsz:(Value.agg vs).cells.size=I.size:=hvs;simp only[Instr.storeAt,Instr.sureAddr,mX,JR,wZ,storeVar,hT.run_sizeOf w];rw[aV (by rw[hsz]; simp)];exact hw
      .have hfp:∀ b,fp B (Z.clr y) a.tmps w b=fp B Z a.tmps w b:=fun b=>by have:=c2 b; exact this
       have e3:({ Z.clr y with h:=(Z.clr y).h.set i (some (cs.take (off+0) ++ ds.map PV.un ++ cs.drop (off+0+(ds.map PV.un).length))) }:ASt) = { Z.clr y with h:=(Z.clr y).h.set i (some (cs.take off ++ ds.map PV.un ++ cs.drop (off+I.size))) }:=by simp_all
       rw[e3] at hG;exact ⟨hG.inv,hG.le,hG.fr.mono fun b _ h0=>by rw[hfp]; exact h0,fun b hb=>by have:=hG.own b hb; rw[hfp] at this; simpa[bT,PV.own] using this,aNM,fJ rfl,fun b=>by have:=hG.inv.cnt b; simpa[bT,PV.own] using this,fun b _=>by rfl⟩
    .cases hs
   .split at hs
    .rename_i p bXO hcond;cases hs;obtain ⟨h1,h2,h3⟩:=hcond;obtain ⟨k1,k2⟩:=EL h1 hpr;obtain ⟨s1,s2,s3,s4,s5⟩:=c1.setCell hcs hc hcm h3 hpr hpT k2 (fun b=>by rw[c2]; exact hI.cnt b) (fun b hb=>by have:=c2 b; have:=hI.new b hb; omega);refine ⟨_,M,B,?_,s1,dH.refl _ _,s3.mono fun b _ h0=>by have:=c2 b; omega,fun b _=>by have:=s2 b; have:=c2 b; simp only[bT,PV.own]; simp; omega,aNM,fJ rfl,fun b=>by have:=s1.cnt b; simpa[bT,PV.own] using this,fun b _=>by rfl⟩;have hst:(store ((⟨c.1,off,none⟩:Addr).add 0) (a.eval y)).run P w = .ok () (w.setCell ⟨c.1,off,none⟩ (a.eval y)):=by rw[add_lit,run_store P w _ _ _ k2];grind
     simp only[Instr.storeAt,Instr.sureAddr,mX,JR,wZ,storeVar,hT.run_sizeOf w];grind [Sem.run_bind,Sem.run_pure,Result.andThen_ok,storeCells]
    .cases hs
  .cases hs
 .cases hs
end
section
variable {n:Nat} {out:Nat->Nat} {M M':Mem} {B:aP} {Z:ASt} {a:Act} {w:World} {t:Array Value}
theorem aHR (sz:Nat):∀ (vs:List (Nat×Value)) (k:Nat) (done rest:List Value),(∀ (j:Nat) v,vs[j]? = some v->v.1=k+j/\v.2.cells.size=sz)->done.length=k*sz->rest.length=vs.length*sz ->
 Instr.fill (fun i=>some (i*sz,sz)) (done ++ rest).toArray vs=some (done ++ vs.flatMap fun v=>v.2.cells.toList).toArray
 | [],k,done,rest,_,_,hr=>by have:rest = []:=lJ (by grind);grind [Instr.fill]
 | v::vs,k,done,rest,h,hd,hr=>by
  obtain ⟨e1,e2⟩:=h 0 v rfl;obtain ⟨i,v⟩:=v;subst e1;have hfold:=a6O (i*sz) v.cells.toList 0 (done ++ rest).toArray (by simp[hd,e2]; rw[hr]; simp[oI]);have ha:(v.cells.zipIdx.foldl (fun cs (c,j)=>cs.setIfInBounds (i*sz+j) c) (done ++ rest).toArray)=((v.cells.toList.zipIdx 0).foldl (fun (cs:Array Value) (cj:Value×Nat)=>cs.setIfInBounds (i*sz+cj.2) cj.1) (done ++ rest).toArray):=by rw[<- Array.foldl_toList,Array.toList_zipIdx]
  have hl:v.cells.toList.length=sz:=by simpa using e2
  simp only[NE,hl,<- hd] at hfold;rw[List.take_left,<- Qr,List.drop_left] at hfold;rw[Instr.fill];simp only;rw[aV (by simp[e2,hd,hr,oI]),ha];have harr:(v.cells.toList.zipIdx 0).foldl (fun (cs:Array Value) (cj:Value×Nat)=>cs.setIfInBounds (i*sz+cj.2) cj.1) (done ++ rest).toArray=((done ++ v.cells.toList) ++ rest.drop sz).toArray:=by rw[<- sK,<- hd,hfold]
  rw[harr,aHR sz vs (i+1) (done ++ v.cells.toList) (rest.drop sz) (fun j x hx=>by obtain ⟨a1,a2⟩:=h (j+1) x (by simpa using hx);exact ⟨by omega,a2⟩) (by simp[hd,hl,oI]) (by simp[hr,oI])];simp
theorem bLO {p:PV} {b o b' o':Nat} (h:Loc M B p b o) (hle:∀ (b o:Nat) (v:Value),M b o=some v->M' b o=some v) (hc:∀ j,j<p.size->∀ v,M b (o+j)=some v->M' b' (o'+j)=some v):Loc M' B p b' o':=by
 have hm:dH M M' B B:=⟨hle,fun _ _ h=>h⟩;by_cases ha:p.isAgg=true
 .cases p<;>simp[PV.isAgg] at ha
  refine yO.2 (Ey fun j q hq => ?_);obtain ⟨u,hu,hr⟩:=OC (yO.1 h) hq;exact ⟨u,hc j (iO.1 hq).1 u hu,hr.mono hm⟩
 .have ha':p.isAgg=false:=by grind
  have ht:∀ cs,p ≠ .tuple cs:=fun cs e=>by subst e; exact a1S.1 h
  obtain ⟨u,hu,hr⟩:=(zX ha' ht).1 h;have hsz:p.size=1:=by cases p<;>first | rfl | (simp[PV.isAgg] at ha')
  refine (zX ha' ht).2 ⟨u,?_,hr.mono hm⟩;have:=hc 0 (by omega) u (by omega);omega
theorem bLQ {sz b o b' o':Nat} (h:kP M B sz ps b o) (hs:∀ p,p∈ps->p.size=sz) (hle:∀ (b o:Nat) (v:Value),M b o=some v->M' b o=some v) (hc:∀ j,j<ps.length*sz->∀ v,M b (o+j)=some v->M' b' (o'+j)=some v):kP M' B sz ps b' o' :=
 zY fun j p hp=>bLO (EF h hp) hle fun i hi v hv=>by
  have hj:=(iO.1 hp).1;have hsz:=hs p (nZ hp);have:j*sz+i<ps.length*sz:=by have:(j+1)*sz<=ps.length*sz:=vY _ hj;rw[oI] at this; omega
  have:=hc (j*sz+i) this v (by rwa [show o+(j*sz+i)=o+j*sz+i by omega]);rwa [show o'+(j*sz+i)=o'+j*sz+i by omega] at this
theorem bLP {p:PV} {b o:Nat} (h:Loc M B p b o):∃ vs:List Value,vs.length=p.size/\∀ (j:Nat) v,vs[j]? = some v->M b (o+j)=some v:=by
 by_cases ha:p.isAgg=true
 .cases p<;>simp[PV.isAgg] at ha
  obtain ⟨vs,h1,h2⟩:=YO (yO.1 h);exact ⟨vs,(oH h1).symm,h2⟩
 .have ha':p.isAgg=false:=by grind
  have ht:∀ cs,p ≠ .tuple cs:=fun cs e=>by subst e; exact a1S.1 h
  obtain ⟨u,hu,hr⟩:=(zX ha' ht).1 h;have hsz:p.size=1:=by cases p<;>first | rfl | (simp[PV.isAgg] at ha')
  refine ⟨[u],by simp[hsz],fun j v hv => ?_⟩;grind
theorem aQE:∀ {ps:bZZ} {sz b o:Nat},kP M B sz ps b o->(∀ p,p∈ps->p.size=sz)->∃ vs:List Value,vs.length=ps.length*sz/\∀ (j:Nat) v,vs[j]? = some v->M b (o+j)=some v
 | [],_,_,_,_,_=>⟨[],by simp,by simp⟩
 | p::ps,sz,b,o,h,hs=>by
  obtain ⟨h1,h2⟩:=Pg.1 h;obtain ⟨us,u1,u2⟩:=bLP h1;obtain ⟨vs,v1,v2⟩:=aQE h2 fun q hq=>hs q (by simp[hq])
  have hp:=hs p (by simp);refine ⟨us ++ vs,by simp[oI]; omega,fun j v hv => ?_⟩;rcases zy j us.length with hj | hj
  .exact u2 j v (by rwa [vW hj] at hv)
  .have:=v2 (j-us.length) v (by rwa [Gm hj] at hv);rwa [show o+sz+(j-us.length)=o+j by omega] at this
theorem aH3 {sz:Nat}:∀ {qs:List (Nat×PV)} {k:Nat} {es:bZZ},DZ sz k qs=some es->es.length=qs.length/\∀ (j:Nat) q,qs[j]? = some q->q.1=k+j/\q.2.size=sz/\q.2.okE=true/\es[j]? = some q.2.un
 | [],k,es,h=>by grind [DZ]
 | (i,p)::qs,k,es,h=>by
  rw[DZ] at h;split at h
  .rename_i hc;cases he:DZ sz (k+1) qs with
   | none=>grind
   | some es' =>
    simp[he] at h; subst h;obtain ⟨h1,h2⟩:=aH3 he;refine ⟨by simp[h1],fun j q hq => ?_⟩;cases j with
    | zero=>simp at hq; subst hq; exact ⟨hc.1,hc.2.1,hc.2.2,rfl⟩
    | succ j =>obtain ⟨a1,a2,a3,a4⟩:=h2 j q (by simpa using hq);exact ⟨by omega,a2,a3,by simpa using a4⟩
  .cases h
theorem a_Z {vs:List (Nat×Value)} {sz:Nat} (hs:∀ (j:Nat) v,vs[j]? = some v->v.2.cells.size=sz):∀ {j:Nat} {v:Nat×Value},vs[j]? = some v->∀ i,i<sz->(vs.flatMap fun v=>v.2.cells.toList)[j*sz+i]? = v.2.cells.toList[i]? := by
 induction vs with
 | nil=>simp
 | cons u us ih =>
  intro j v h i hi;have hu:u.2.cells.toList.length=sz:=by simpa using hs 0 u rfl
  rw[Qs];cases j with
  | zero=>grind
  | succ j =>rw[Gm (by rw[oI]; omega),hu,show (j+1)*sz+i-sz=j*sz+i by rw[oI]; omega];exact ih (fun j v h=>hs (j+1) v (by grind)) (by grind) i hi
theorem a_' {vs:List (Nat×Value)} {sz:Nat} (hs:∀ (j:Nat) v,vs[j]? = some v->v.2.cells.size=sz):(vs.flatMap fun v=>v.2.cells.toList).length=vs.length*sz:=by
 induction vs with
 | nil=>simp
 | cons u us ih =>
  rw[Qs,aU,ih (fun j v h=>hs (j+1) v (by grind))];have hu:u.2.cells.toList.length=sz:=by simpa using hs 0 u rfl
  grind
theorem bLH {P:Program} {ty:TypeId} {I:TI} (hI':jl P ty=some I) {len:Nat} {parts:Array (Nat×Value)} (hl:parts.size=len) (hs:∀ (j:Nat) v,parts.toList[j]? = some v->v.1=j/\v.2.cells.size=I.size) (hpos:0<I.size) (hsm:len*I.size<=16777216) (w:World) :
 ∃ e,(Instr.buildSlice ty len parts).run P w = .ok (.slice (some ⟨w.heap.size,0,none⟩) len len) (w.alloc (.cells (parts.toList.flatMap fun v=>v.2.cells.toList).toArray e)):=by
 obtain ⟨e,i,z,d,hu,hT⟩:=zH hI';refine ⟨e,?_⟩;have hsz:=hT.size;by_cases h0:len=0
 .have hp:parts = #[]:=by simp_all
  subst hp;simp[Instr.buildSlice,fG hu,hT.run_sizeOf w,Instr.fill,newRow];grind
 .refine run_buildSlice w ty e len parts _ i z hu hT.info hT.zero (by rw[<- hsz]; omega) (by grind [Nat.mul_ne_zero]) ?_;have:=aHR i.size parts.toList 0 [] ((List.range (len*i.size)).map (z.cells[· % z.cells.size]!)) (fun j v hv=>by grind) (by simp) (by grind);have e:(Array.range (len*i.size)).map (z.cells[· % z.cells.size]!)=([] ++ (List.range (len*i.size)).map (z.cells[· % z.cells.size]!)).toArray:=by grind
  rw[e,this]; rfl
theorem aYN {rd:Operand->Option PV} {ρ:Operand->Value} (hrd:∀ x q,rd x=some q->Rep M B q (ρ x)/\q.own=false) {ps:Array (Nat×Operand)} {qs:List (Nat×PV)} (hq:uV rd ps.toList=some qs) {sz:Nat} (he:DZ sz 0 qs=some es):
 (∀ (j:Nat) v,(ps.map fun (i,x)=>(i,ρ x)).toList[j]? = some v->v.1=j/\v.2.cells.size=sz/\∃ q:Nat×PV,qs[j]? = some q/\es[j]? = some q.2.un/\q.2.size=sz/\Rep M B q.2 v.2/\q.2.okE=true)/\(ps.map fun (i,x)=>(i,ρ x)).size=es.length:=by
 obtain ⟨p1,p2⟩:=aAT hrd hq;obtain ⟨e1,e2⟩:=aH3 he;have hps:(ps.map fun (i,x)=>(i,ρ x)).toList=ps.toList.map fun ix=>(ix.1,ρ ix.2):=by simp
 refine ⟨fun j v hv => ?_,by rw[e1,p1]; simp⟩;rw[hps] at hv;have hj:=(iO.1 hv).1;have hq':qs[j]? = some (qs[j]'(by rw[p1]; exact hj)):=jU _;obtain ⟨a1,a2⟩:=p2 j _ v hq' hv;obtain ⟨b1,b2,b3,b4⟩:=e2 j _ hq';refine ⟨by omega,?_,_,hq',b4,b2,a2,b3⟩;generalize qs[j]'(by rw[p1]; exact hj)=q at *;cases hq2:q.2 with
 | agg cs =>rw[hq2] at a2 b2;obtain ⟨vs,hv2,hr⟩:=pz.1 a2;have:=oH hr;rw[hv2];simp[PV.size] at b2;simp at this;show vs.size=sz;omega
 | tuple cs=>rw[hq2] at b3; simp[PV.okE,PV.one] at b3
 | _ =>rw[(EL (by rw[hq2]; rfl) a2).1,<- b2,hq2]; rfl
theorem bQV {p:PV} {v:Value} (h:Rep M B p v) (hg:p.okE=true):∀ u,u∈v.cells.toList->u.oneCell'=true:=by
 have key:p.one=true->∀ u,u∈v.cells.toList->u.oneCell'=true:=fun ho u hu=>by
  rw[(EL ho h).1] at hu;have:u=v:=by grind
  subst this; exact (EL ho h).2
 cases p with
 | agg cs =>obtain ⟨vs,rfl,hr⟩:=pz.1 h;simp only[PV.okE,bI] at hg;exact aT3 hr (jF.1 hg.1)
 | tuple cs=>grind [PV.okE]
 | _=>exact key rfl
end
section
variable {n:Nat} {out:Nat->Nat} {M:Mem} {B:aP} {Z:ASt} {a:Act} {w:World} {E:AE}
theorem Q9 {p:PV} {b0 off m c:Nat} {b:Nat}:bT p (.slice (some ⟨b0,off,none⟩) m c) b<=if b0=b then 1 else 0:=by grind [bT]
theorem Pre.newRow (hI:Inv n M B out Z a.tmps w) {vs:Array Value} {ty:TypeId} {sz k:Nat} {cap:Nat} (hpos:0<sz) (h1:∀ v,v∈vs->v.oneCell'=true) (hk:k=es.length*sz) (hcap:es.length<=cap) (hcap2:cap*sz<=vs.size) 
 (hs:∀ e,e∈es->e.size=sz) (hl:kP (laid M w.heap.size (vs.toList.take k)) [] sz es w.heap.size 0) :
 Pre n out M B Z a.tmps w (laid M w.heap.size (vs.toList.take k)) B Z (w.alloc (.cells vs ty)) (.sl true sz es) (.slice (some ⟨w.heap.size,0,none⟩) es.length cap):=by
 obtain ⟨hG,hfp⟩:=hI.lay vs ty k h1;have h0:=fun b (hb:w.heap.size<=b)=>hI.new b hb
 refine ⟨hG.inv,hG.le,hG.fr,fun b hb => ?_,jR.2 ⟨_,cap,rfl,hcap,hs,fun h=>absurd h (by omega),fun _=>⟨_,_,rfl,hl⟩⟩,?_,fun b => ?_,fun b hb => ?_⟩;grind [Q9]
 .refine Qc (fun l h=>by cases h) ?_;intro sz' es' x n' cap' e ev;grind [heap_alloc_new,yM,yN]
 .have:=Q9 (p := .sl true sz es) (b0:=w.heap.size) (off:=0) (m:=es.length) (c:=cap) (b:=b);have:=hI.cnt b;grind
 .have:=Q9 (p := .sl true sz es) (b0:=w.heap.size) (off:=0) (m:=es.length) (c:=cap) (b:=b);simp at hb;rw[aV (by omega)] at this; omega
theorem aQ9 {M:Mem} {B:aP} {p:PV} {u:Value} (h:p.lit=true) (hr:Rep M B p u):Rep LH [] p u:=by
 cases p with
 | int k n=>exact dw.2 (dw.1 hr)
 | bool b=>exact kE.2 (kE.1 hr)
 | str s=>exact iq.2 (iq.1 hr)
 | _=>simp[PV.lit] at h
theorem aQ6 {M:Mem} {B:aP} {p:PV} {u:Value} (h:p.lit=true) (hr:Rep LH [] p u):Rep M B p u:=by
 cases p with
 | int k n=>exact dw.2 (dw.1 hr)
 | bool b=>exact kE.2 (kE.1 hr)
 | str s=>exact iq.2 (iq.1 hr)
 | _=>simp[PV.lit] at h
theorem a9W {M:Mem} {sz b:Nat}:∀ {es:bZZ} {o:Nat},kP M [] sz es b o->(∀ e,e∈es->e.size=sz)->∀ {j:Nat} {p:PV},(eu es)[j]? = some p->∃ u,M b (o+j)=some u/\Rep M [] p u
 | [],_,_,_,j,p,h=>by simp[eu] at h
 | e::es,o,hl,hs,j,p,h=>by
  obtain ⟨h1,h2⟩:=Pg.1 hl;have ih:=fun {j:Nat} {p:PV}=>a9W h2 (fun e he=>hs e (by simp[he])) (j:=j) (p:=p)
  have hz:=hs e (by simp);cases e with
  | agg ds =>
   rw[eu] at h;simp only[PV.size] at hz;rcases zy j ds.length with hj | hj
   .rw[vW (by grind)] at h;cases hd:ds[j]? with
    | none=>grind
    | some q =>simp[hd] at h; subst h;obtain ⟨u,hu,hr⟩:=OC (yO.1 h1) hd;exact ⟨u,hu,ou.2 hr⟩
   grind
  | tuple ds=>exact (a1S.1 h1).elim
  | _ =>
   rw[eu] at h
   .simp only[PV.size] at hz;cases j with
    | zero =>simp at h; subst h;obtain ⟨u,hu,hr⟩:=(Bi rfl).1 h1;exact ⟨u,hu,ou.2 hr⟩
    | succ j =>obtain ⟨u,hu,hr⟩:=ih h;exact ⟨u,by rw[<- hu]; congr 1; omega,hr⟩
   .simp
theorem Yr {sz:Nat}:∀ {es:bZZ},(∀ e,e∈es->e.size=sz)->(eu es).length=es.length*sz
 | [],_=>by simp[eu]
 | e::es,hs=>by
  have ih:=Yr (es:=es) fun e he=>hs e (by simp[he])
  have hz:=hs e (by simp);rw[bM,JP];cases e with
  | agg ds=>grind [PV.size,eu]
  | _=>simp only[PV.size] at hz; rw[eu,bM,ih,hz]; simp
theorem Pre.aR8 (hI:Inv n M B out Z a.tmps w) {vs:Array Value} {ty:TypeId} {sz k:Nat} {cap:Nat} (hpos:0<sz) (h1:∀ v,v∈vs->v.oneCell'=true) (hk:cs.length=k*sz) (hcap:k<=cap) (hcap2:cap*sz<=vs.size) 
 (hc:∀ (j:Nat) p,cs[j]? = some p->p.lit=true/\∃ u,vs[j]? = some u/\Rep LH [] p u/\u.oneCell'=true) :
 Pre n out M B Z a.tmps w (laid M w.heap.size (vs.toList.take 0)) B Z (w.alloc (.cells vs ty)) (.gX true k sz cs) (.slice (some ⟨w.heap.size,0,none⟩) k cap):=by
 obtain ⟨hG,hfp⟩:=hI.lay vs ty 0 h1;have h0:=fun b (hb:w.heap.size<=b)=>hI.new b hb
 refine ⟨hG.inv,hG.le,hG.fr,fun b hb => ?_,Fz.2 ⟨_,cap,rfl,hcap⟩,?_,fun b => ?_,fun b hb => ?_⟩;grind [Q9]
 .refine aD1 ?_;intro k' sz' cs' x m' cap' e ev;grind [heap_alloc_new,yM,yN]
 .have:=Q9 (p := .gX true k sz cs) (b0:=w.heap.size) (off:=0) (m:=k) (c:=cap) (b:=b);have:=hI.cnt b;grind
 .have:=Q9 (p := .gX true k sz cs) (b0:=w.heap.size) (off:=0) (m:=k) (c:=cap) (b:=b);simp at hb;rw[aV (by omega)] at this; omega
theorem flat_get:∀ {es:bZZ} {p:PV},p∈eu es->p.own=false
 | [],p,h=>by simp[eu] at h
 | e::es,p,h=>by
  cases e with
  | agg ds =>
   rcases vX.1 h with h | h
   .obtain ⟨x,_,rfl⟩:=uG.1 h; exact qX x
   .exact flat_get h
  | _ =>
   rw[eu] at h
   .rcases kG.1 h with rfl | h
    .exact qX _
    .exact flat_get h
   .simp
theorem a6N:∀ {es:bZZ} {vs:List (Nat×Value)},es.length=vs.length->(∀ (j:Nat) e v,es[j]? = some e->vs[j]? = some v->Rep M B e v.2/\e.okE=true)->ay M B (eu es) (vs.flatMap fun v=>v.2.cells.toList)
 | [],[],_,_=>dW.2 rfl
 | [],_::_,h,_=>by simp at h
 | _::_,[],h,_=>by simp at h
 | e::es,v::vs,hl,h=>by
  obtain ⟨h1,h2⟩:=h 0 e v rfl rfl;have ih:=a6N (by simpa using hl) fun j e v a b=>h (j+1) e v (by simpa using a) (by simpa using b)
  rw[Qs];cases e with
  | agg ds =>obtain ⟨us,e1,hr⟩:=pz.1 h1;rw[e1];exact ER (Iu hr) ih
  | tuple ds=>simp[PV.okE,PV.one] at h2
  | _ =>
   rw[eu]
   .rw[(EL rfl h1).1];exact cO.2 ⟨_,_,rfl,ou.2 h1,ih⟩
   .simp
theorem bVA (p:PV):p.un.okE=p.okE:=by cases p<;>rfl
theorem bLI (hI:Inv n M B out Z a.tmps w) {zs:List Nat} {P:Program} {ty:TypeId} {I:TI} (hT:jl P ty=some I) {ps:Array (Nat×Operand)} {qs:List (Nat×PV)} (hq:uV (Z.rdT zs) ps.toList=some qs) (he:DZ I.size 0 qs=some es) {len:Nat} (hlen:es.length=len) (hpos:0<I.size) (hsm:len*I.size<=16777216):
 (∃ v w' M' B',(Instr.buildSlice ty len (ps.map fun (i,x)=>(i,a.eval x))).run P w = .ok v w'/\Pre n out M B Z a.tmps w M' B' Z w' (.sl true I.size es) v) /\
 (∃ v w' M' B',(Instr.buildSlice ty len (ps.map fun (i,x)=>(i,a.eval x))).run P w = .ok v w'/\Pre n out M B Z a.tmps w M' B' { Z with h:=Z.h ++ [some (eu es)] } w' (.slh Z.h.length 0 len I.size) v) /\
 ((eu es).all PV.lit=true->∃ v w' M' B',(Instr.buildSlice ty len (ps.map fun (i,x)=>(i,a.eval x))).run P w = .ok v w'/\Pre n out M B Z a.tmps w M' B' Z w' (.gX true len I.size (eu es)) v):=by
 subst hlen;obtain ⟨hp,hsz⟩:=aYN (M:=M) (B:=B) (hI.rdT zs) hq he;obtain ⟨e,hrun⟩:=bLH hT hsz (fun j v hv=>by grind) hpos hsm w;generalize hps:(ps.map fun (i,x)=>(i,a.eval x))=parts at *;have hfl:=a_' (vs:=parts.toList) (sz:=I.size) fun j v hv=>(hp j v hv).2.1
 have hpl:parts.toList.length=es.length:=by omega
 rw[hpl] at hfl;have hes:∀ (j:Nat) e v,es[j]? = some e->parts.toList[j]? = some v->Rep M B e v.2/\e.okE=true/\e.size=I.size:=fun j e v h1 h2=>by obtain ⟨_,_,q,_,h3,h4,h5,h6⟩:=hp j v h2;rw[h1] at h3; cases h3;exact ⟨ou.2 h5,by rw[bVA]; exact h6,by rw[aDM]; exact h4⟩
 have hone:∀ v,v∈(parts.toList.flatMap fun v=>v.2.cells.toList)->v.oneCell'=true:=by intro u hu;obtain ⟨v,hv,hu⟩:=List.mem_flatMap.1 hu;obtain ⟨j,hj⟩:=yu.1 hv;grind [bQV]
 refine ⟨?_,?_,?_⟩
 .refine ⟨_,_,_,_,hrun,Pre.newRow hI (k:=es.length*I.size) hpos (by grind) rfl (fK _) (by simp[hfl]) (fun e he => ?_) (zY fun j p hj => ?_)⟩
  .obtain ⟨j,hj⟩:=yu.1 he;have hlt:=(iO.1 hj).1;exact (hes j e _ hj (jU (by omega))).2.2
  .have hlt:=(iO.1 hj).1;have hv:parts.toList[j]? = some (parts.toList[j]'(by omega)):=jU (by omega);generalize parts.toList[j]'(by omega)=v at hv;obtain ⟨r1,r2,r3⟩:=hes j p v hj hv;have r1:=r1.flat [] (bNE r2);have hm:=(Ut hI ((parts.toList.flatMap fun v=>v.2.cells.toList).toArray.toList.take (es.length*I.size))).none;have hcell:∀ i,i<I.size->∀ u,v.2.cells.toList[i]? = some u->laid M w.heap.size ((parts.toList.flatMap fun v=>v.2.cells.toList).toArray.toList.take (es.length*I.size)) w.heap.size (0+j*I.size+i)=some u:=fun i hi u hu=>by rw[yM (yN hI),aX rfl,mV,aX (by have:(j+1)*I.size<=es.length*I.size:=vY _ hlt;rw[oI] at this; omega)];grind [a_Z]
   cases p with
   | agg ds =>obtain ⟨us,e1,hr⟩:=pz.1 r1;refine yO.2 (Ey fun i q hq => ?_);obtain ⟨u,hu,FK⟩:=vN hr hq;have hi:=(iO.1 hq).1;simp[PV.size] at r3;exact ⟨u,hcell i (by omega) u (by rw[e1]; exact hu),FK.mono hm⟩
   | tuple ds=>simp[PV.okE,PV.one] at r2
   | _ =>refine (Bi rfl).2 ⟨v.2,?_,r1.mono hm⟩;have:=hcell 0 (by simp[PV.size] at r3; omega) v.2 (by rw[(EL rfl r1).1]; rfl);simpa using this
 .have hfr:ay M B (eu es) (parts.toList.flatMap fun v=>v.2.cells.toList):=a6N hpl.symm fun j e v h1 h2=>⟨(hes j e v h1 h2).1,(hes j e v h1 h2).2.1⟩
  have hG:=hI.newObj (parts.toList.flatMap fun v=>v.2.cells.toList).toArray e (eu es) (by have:=oH hfr; simp_all) (fun j p hj=>by grind [vN,flat_get,fJ,dP]);refine ⟨_,_,_,_,hrun,Pre.Ah hG (tZ.2 ⟨(w.heap.size,(parts.toList.flatMap fun v=>v.2.cells.toList).toArray.size,e+1),es.length,⟨by rw[hI.heap.1]; simp,by simp⟩,rfl,fK _,by simp[hfl]⟩) rfl⟩
 .intro a8H;have hfr:ay M B (eu es) (parts.toList.flatMap fun v=>v.2.cells.toList):=a6N hpl.symm fun j e v h1 h2=>⟨(hes j e v h1 h2).1,(hes j e v h1 h2).2.1⟩
  refine ⟨_,_,_,_,hrun,Pre.aR8 hI (k:=es.length) hpos (by grind) (by have:=oH hfr; omega) (fK _) (by simp[hfl]) fun j p hj => ?_⟩;grind [vN,aQ9]
end
section
variable {n:Nat} {out:Nat->Nat} {M:Mem} {B:aP} {Z:ASt} {a:Act} {w:World}
theorem aFT {P:Program} {t ty e:TypeId} {i:TypeInfo} {z:Value} (ht:P.underlying t=some (.slice e)) (hi:P.info? e=some i) (hz:i.zero=some z) {base A':Option Addr} {sLen sCap m c:Nat} {olds news:List Value}
 (hfo:(Builtin.firstCells i.size sLen (.slice base sLen sCap)).run P w.drew = .ok olds.toArray w.drew) (hfn:(Builtin.firstCells i.size m (.slice A' m c)).run P w.drew = .ok news.toArray w.drew)
 (hg:sCap<sLen+m) (h63:sLen+m<=aO) (hb:i.bytes<=1024) :
 (Builtin.append_ #[t,t] ty #[.slice base sLen sCap,.slice A' m c]).run P w =
  .ok (.slice (some ⟨w.heap.size,0,none⟩) (sLen+m) (grownCap w (sLen+m) sCap e)) (w.drew.alloc (.cells (olds.toArray ++ news.toArray ++ Builtin.zeroCells z.cells (grownCap w (sLen+m) sCap e-(sLen+m))) e)):=by
 unfold aO at h63;have hn:¬ (sLen+m<=sCap):=by omega
 have h63':¬ (9223372036854775807<((sLen:Int)+(m:Int))):=by omega
 have hb2:(sLen+m)*i.bytes<=140737488355328:=ng (Nat.mul_le_mul h63 hb) (by decide);have h48':¬ (281474976710656<Builtin.nextslicecap (sLen+m) sCap*i.bytes):=by have:=growslice_fits hg hb2; omega
 simp[Builtin.append_,fG ht,sizeOf,typeInfo,zeroValue,hi,hz,Builtin.lenOf,hn,h63',h48',Question.forced,hfo,hfn,newRow,grownCap];grind
theorem aFV {P:Program} {t ty e:TypeId} {i:TypeInfo} (ht:P.underlying t=some (.slice e)) (hi:P.info? e=some i) {g off:Nat} {A':Option Addr} {sLen sCap m c:Nat} {news:List Value}
 (hfn:(Builtin.firstCells i.size m (.slice A' m c)).run P w = .ok news.toArray w) {cur:Array Value} {ty':TypeId} (hh:w.heap[g]? = some (.cells cur ty' (0,0))) (hroom:sLen+m<=sCap) (h1:∀ u,u∈news->u.oneCell'=true) (hfit:off+sLen*i.size+news.length<=cur.size) :
 (Builtin.append_ #[t,t] ty #[.slice (some ⟨g,off,none⟩) sLen sCap,.slice A' m c]).run P w =
  .ok (.slice (some ⟨g,off,none⟩) (sLen+m) sCap) (w.setRow g (cur.toList.take (off+sLen*i.size) ++ news ++ cur.toList.drop (off+sLen*i.size+news.length)).toArray):=by
 have hst:=run_storeCells_at P g (off+sLen*i.size) ty' news 0 cur w hh (by omega) h1;simp only[NE] at hst;simp[Builtin.append_,fG ht,sizeOf,typeInfo,hi,Builtin.lenOf,hroom,hfn,add_lit,hst]
theorem aFU {P:Program} {t ty e:TypeId} {i:TypeInfo} (ht:P.underlying t=some (.slice e)) (hi:P.info? e=some i) {A':Option Addr} {c:Nat} {news:List Value}
 (hfn:(Builtin.firstCells i.size 0 (.slice A' 0 c)).run P w = .ok news.toArray w) :
 (Builtin.append_ #[t,t] ty #[.slice none 0 0,.slice A' 0 c]).run P w = .ok (.slice none 0 0) w:=by
 simp[Builtin.append_,fG ht,sizeOf,typeInfo,hi,Builtin.lenOf,hfn]
theorem Yu {t:Array Value} {b:Nat}:fp B Z t w.drew b=fp B Z t w b:=by simp only[fp]; rw[Fe (w':=w.drew) (w:=w) b (fun _ _ _ _ _=>rfl)]
theorem a6J {P:Program} {sz:Nat} {A:Option Addr} {cap:Nat} (hs:∀ e,e∈es->e.size=sz) (hle:es.length<=cap) (hA:es ≠ []->∃ b off,A=some ⟨b,off,none⟩/\kP M [] sz es b off) (hmem:∀ (b o:Nat) (v:Value),M b o=some v->w.cell? ⟨b,o,none⟩=some v/\v.oneCell'=true):
 ∃ vs:List Value,vs.length=es.length*sz/\(∀ w',(∀ (b o:Nat) (v:Value),M b o=some v->w'.cell? ⟨b,o,none⟩=some v)->(Builtin.firstCells sz es.length (.slice A es.length cap)).run P w' = .ok vs.toArray w')/\(∀ u,u∈vs->u.oneCell'=true) /\
  ∀ (M':Mem) (b' o':Nat),(∀ (b o:Nat) (v:Value),M b o=some v->M' b o=some v)->(∀ (j:Nat) v,vs[j]? = some v->M' b' (o'+j)=some v)->kP M' [] sz es b' o':=by
 cases A with
 | none =>
  have:es = []:=by simp_all
  subst this;exact ⟨[],by simp,fun w' _=>by rfl,by simp,fun _ _ _ _ _=>a1T⟩
 | some x =>
  by_cases hcc:es = []
  .subst hcc;exact ⟨[],by simp,fun w' _=>XK (P:=P) w' sz 0 x 0 cap [] (by simp) (fun j v hv=>by simp at hv),by simp,fun _ _ _ _ _=>a1T⟩
  obtain ⟨b,off,hx,hl⟩:=hA hcc;cases hx;obtain ⟨vs,h1,h2⟩:=aQE hl hs;refine ⟨vs,h1,fun w' hw=>XK (P:=P) w' sz es.length ⟨b,off,none⟩ es.length cap vs h1 (fun j v hv=>by rw[add_lit]; simp_all),fun u hu => ?_,fun M' b' o' hM hc=>bLQ hl hs hM fun j hj v hv => ?_⟩
  .obtain ⟨j,hj⟩:=yu.1 hu;grind
  simp_all
theorem Ve {M:Mem} {B:aP} {o o':Bool} {sz:Nat} {v:Value}:Rep M B (.sl o sz es) v↔Rep M B (.sl o' sz es) v:=by rw[jR,jR]
theorem aUF {sz:Nat} {v:Value} (how:ow=true\/sz=0) (hr:Rep M B (.sl ow sz es) v) (hTl:Tl M w (.sl ow sz es) v):∀ A cap,v = .slice A es.length cap->(A=none->cap=0)/\(sz=0->A=none)/\∀ a,A=some a->(PV.sl ow sz es).own=true/\∃ cs ty,w.heap[a.block]? = some (.cells cs ty (0,0))/\a.off+cap*sz<=cs.size/\(∀ o,a.off+es.length*sz<=o->M a.block o=none)/\a.spot=none/\a.off=0:=fun A cap e1=>by
 obtain ⟨A',cap',e2,_,_,hzz,_⟩:=jR.1 hr;rw[e1] at e2; injection e2 with e3 _ e4; subst e3; subst e4
 by_cases h0:sz=0;simp_all
 .have:=how.resolve_right h0;subst this;obtain ⟨h1,h2,h3⟩:=hTl.s sz es _ _ _ rfl e1;exact ⟨h1,h2,fun a ha=>⟨rfl,h3 a ha⟩⟩
def Xg (w w':World) (e:TypeId) (size:Nat) (v0 v:Value):Prop:=∀ A n cap,v = .slice (some A) n cap->∃ cs ty,w'.heap[A.block]? = some (.cells cs ty (0,0))/\((ty=e/\cs.size=cap*size/\cap<=maxLen)\/∃ A0 n0 cs0,v0 = .slice (some A0) n0 cap/\w.heap[A0.block]? = some (.cells cs0 ty (0,0))/\cs.size=cs0.size)
theorem aFW (hI:Inv n M B out Z a.tmps w) {P:Program} {t u ty e:TypeId} {I:TI} {i:TypeInfo} {z:Value} {d:TypeDesc} (jC:rO P e I i z d) {s:Operand} {X:Value} {sz:Nat} {es':bZZ} {p0:PV} (hs:Z.ev s=some p0) (hr:Rep M B (.sl true sz es) (a.eval s)) 
 (hrow:∀ A cap,a.eval s = .slice A es.length cap->(A=none->cap=0)/\(sz=0->A=none)/\∀ a,A=some a->p0.own=true/\∃ cs ty,w.heap[a.block]? = some (.cells cs ty (0,0))/\a.off+cap*sz<=cs.size/\(∀ o,a.off+es.length*sz<=o->M a.block o=none)/\a.spot=none/\a.off=0)
 (hpos:0<I.size) (hby:I.bytes<=1024) (hsz0:sz=I.size\/sz=0) (hs2:∀ p,p∈es'->p.size=I.size) (hlim:es.length+es'.length<=aO)
 {news:List Value} (n1:news.length=es'.length*I.size) (n3:∀ u,u∈news->u.oneCell'=true)
 (n4:∀ (M':Mem) (b' o':Nat),(∀ (b o:Nat) (v:Value),M b o=some v->M' b o=some v)->(∀ (j:Nat) v,news[j]? = some v->M' b' (o'+j)=some v)->kP M' [] I.size es' b' o')
 (bRD:es' = []->(Builtin.append_ #[t,u] ty #[.slice none 0 0,X]).run P w = .ok (.slice none 0 0) w)
 (bRI:∀ {g off sLen sCap:Nat} {cur:Array Value} {ty':TypeId},w.heap[g]? = some (.cells cur ty' (0,0))->sLen+es'.length<=sCap->off+sLen*i.size+news.length<=cur.size ->
  (Builtin.append_ #[t,u] ty #[.slice (some ⟨g,off,none⟩) sLen sCap,X]).run P w = .ok (.slice (some ⟨g,off,none⟩) (sLen+es'.length) sCap) (w.setRow g (cur.toList.take (off+sLen*i.size) ++ news ++ cur.toList.drop (off+sLen*i.size+news.length)).toArray))
 (bRA:∀ {base:Option Addr} {sLen sCap:Nat} {olds:List Value},(Builtin.firstCells i.size sLen (.slice base sLen sCap)).run P w.drew = .ok olds.toArray w.drew->sCap<sLen+es'.length->sLen+es'.length<=aO ->
  (Builtin.append_ #[t,u] ty #[.slice base sLen sCap,X]).run P w = .ok (.slice (some ⟨w.heap.size,0,none⟩) (sLen+es'.length) (grownCap w (sLen+es'.length) sCap e)) (w.drew.alloc (.cells (olds.toArray ++ news.toArray ++ Builtin.zeroCells z.cells (grownCap w (sLen+es'.length) sCap e-(sLen+es'.length))) e))) :
 ∃ v w' M' B',(Builtin.append_ #[t,u] ty #[a.eval s,X]).run P w = .ok v w'/\Pre n out M B Z a.tmps w M' B' (Z.clr s) w' (.sl true I.size (es ++ es')) v/\Xg w w' e i.size (a.eval s) v:=by
 have hsi:=jC.size;have hbi:=jC.bytes;obtain ⟨c1,c2,c3⟩:=hI.YS hs;obtain ⟨A,cap,e1,hle,hss,hzz,hA⟩:=jR.1 hr;obtain ⟨hn,hz,hTl⟩:=hrow A cap e1;have hsz:sz=I.size\/es = []:=hsz0.imp id fun h=>(hzz h).1
 have hs1:∀ p,p∈es->p.size=I.size:=fun p hp=>by grind
 have hA1:es ≠ []->∃ b off,A=some ⟨b,off,none⟩/\kP M [] I.size es b off:=fun hc=>by simp_all
 obtain ⟨olds,o1,o2,o3,o4⟩:=a6J (P:=P) hs1 hle hA1 hI.mem;have aNL:∀ p,p∈es ++ es'->p.size=I.size:=fun p hp=>by grind
 rw[e1];by_cases hroom:es.length+es'.length<=cap
 .cases A with
  | none =>
   have hc0:=hn rfl;have h1:es = []:=lJ (by omega);have h2:es' = []:=lJ (by omega);subst h1; subst h2; subst hc0;refine ⟨.slice none 0 0,w,M,B,bRD rfl,⟨c1,dH.refl _ _,Fr.refl _ _ _,fun b _ => ?_,jR.2 ⟨none,0,rfl,fK _,by simp,fun _=>⟨rfl,rfl,rfl⟩,by simp⟩,Qc (fun l h=>by cases h) fun _ _ _ _ _ _ e=>by grind,fun b => ?_,fun b _=>by simp[bT]⟩,fun A n cap e=>by cases e⟩
   .have:=c2 b; simp[bT] at *; omega
   .have:=c2 b; have:=hI.cnt b; simp[bT] at *; omega
  | some ad =>
   obtain ⟨g,off,rfl,hloc⟩:∃ b off,ad=⟨b,off,none⟩/\kP M [] I.size es b off:=by
    by_cases hc:es = []
    .obtain ⟨_,_,_,_,_,_,hsp⟩:=hTl ad rfl;have hsp:=hsp.1;exact ⟨ad.block,ad.off,by cases ad; simp_all,by rw[hc]; exact a1T⟩
    simp_all
   obtain ⟨hpo,cur,ty',t1,t2,t3,_,aNJ⟩:=hTl _ rfl;simp only at t1 t2 t3 aNJ;have hown:∀ b,bT p0 (a.eval s) b=if g=b then 1 else 0:=fun b=>by rw[e1]; simp[bT,hpo]
   have hg1:fp B Z a.tmps w g=1/\out g=0/\fp B (Z.clr s) a.tmps w g=0:=by have:=hI.cnt g; have:=c2 g; rw[hown,aX rfl] at this; omega
   have hfree:∀ o,off+es.length*I.size<=o->M g o=none:=fun o ho=>t3 o (by simp_all)
   have hszI:sz=I.size:=hsz0.resolve_right fun h=>by have:=hz h; cases this
   rw[hszI] at t2;have hfit:off+es.length*I.size+news.length<=cur.size:=by rw[n1];have:(es.length+es'.length)*I.size<=cap*I.size:=vY _ hroom;rw[oI] at this; omega
   have hrun:=bRI (g:=g) (off:=off) (sLen:=es.length) (sCap:=cap) t1 hroom (by rw[<- hsi]; exact hfit);rw[<- hsi] at hrun;generalize hk:off+es.length*I.size=k at *;have hlt:g<w.heap.size:=(yj.1 t1).1;generalize KQ:(cur.toList.take k ++ news ++ cur.toList.drop (k+news.length)).toArray=cur' at *;have hsz2:cur'.size=cur.size:=by rw[<- KQ]; simp; omega
   have hnew:∀ j,j<news.length->cur'[k+j]? = news[j]? := fun j hj=>by
    rw[<- KQ];rw[aE2];have hl:(cur.toList.take k).length=k:=by simp; omega
    rw[nJ,Gm (by omega),hl,aE8,vW hj]
   have hold:∀ o,o<k->cur'[o]? = cur[o]? := fun o ho=>by
    rw[<- KQ];rw[aE2];have hl:(cur.toList.take k).length=k:=by simp; omega
    rw[nJ,vW (by omega),mV,aX ho]; simp
   have hM:∀ (b o:Nat) (v:Value),M b o=some v->(if b=g/\k<=o/\o<k+news.length then news[o-k]? else M b o)=some v:=fun b o v h=>by
    by_cases hc:b=g/\k<=o/\o<k+news.length;simp_all
    .rw[aV hc]; exact h
   have hheap:(w.setRow g cur').heap[g]? = some (.cells cur' ty' (0,0)):=setRow_heap w g cur _ ty' (0,0) t1;have hoth:∀ b,b≠g->(w.setRow g cur').heap[b]? = w.heap[b]? := fun b hb=>setRow_other w g b _ hb
   obtain ⟨M2,hM2⟩:∃ M2:Mem,∀ b o,M2 b o=if b=g/\k<=o/\o<k+news.length then news[o-k]? else M b o:=⟨yQ _ _,EI fun b o v h=>hM b o v (M.g _ _ _ h)⟩
   have hle2:dH M M2 B B:=⟨fun b o v h=>by rw[hM2]; grind,fun _ _ h=>h⟩;obtain ⟨f1,f2⟩:=c1.ext (w':=w.setRow g cur') hle2 (fun b o v h=>by
    by_cases hb:b=g
    .subst hb;have hcell:(w.setRow b cur').cell? ⟨b,o,none⟩=cur'[o]? := by simp[World.cell?,hheap]
     rw[hcell];by_cases hc:k<=o/\o<k+news.length
     .rw[hM2,aX ⟨rfl,hc⟩] at h;have:=hnew (o-k) (by omega);rw[show k+(o-k)=o by omega] at this;grind
     .rw[hM2,aV (fun x=>hc x.2)] at h;have hm:=hI.mem b o v h;have:o<k:=by grind
      have h3:w.cell? ⟨b,o,none⟩=cur[o]? := by simp[World.cell?,t1]
      grind
    .rw[hM2,aV (fun x=>hb x.1)] at h;have hm:=hI.mem b o v h;grind [World.cell?_of_block]) (fun b hb=>by
    have hbg:b≠g:=fun e=>by grind
    grind) (by simp[World.setRow])
   have hcnt2:∀ b,bT (.sl true I.size (es ++ es')) (.slice (some ⟨g,off,none⟩) (es.length+es'.length) cap) b=if g=b then 1 else 0:=fun b=>by rfl
   refine ⟨_,_,_,_,hrun,⟨f1,hle2,⟨rfl,rfl,rfl,by simp[World.setRow],fun b hb h0 => ?_⟩,fun b hb => ?_,jR.2 ⟨_,cap,by rw[aU],by rw[aU]; exact hroom,aNL,fun h=>absurd h (by omega),fun _ => ?_⟩,?_,fun b => ?_,fun b hb => ?_⟩,fun A2 n2' cap2 e2=>by grind⟩
   .have hbg:b≠g:=fun e=>by grind
    grind
   grind
   .refine ⟨g,off,rfl,aQC (hloc.mono hle2.none) ?_⟩;rw[hk];refine n4 _ _ _ hle2.mem fun j v hv => ?_
    have hj:=(iO.1 hv).1;rw[hM2,aX ⟨rfl,by omega,by omega⟩,aE8]; exact hv
   .refine Qc (fun l h=>by cases h) ?_;intro sz2 es2 x2 n2' cap2 e3 e4;cases e3; cases e4;refine ⟨by simp,fun h=>absurd h (by omega),fun x hx => ?_⟩;cases hx;refine ⟨cur',ty',hheap,by rw[hsz2]; exact t2,fun o ho => ?_,rfl,aNJ⟩;simp only at ho;have hkk:off+(es ++ es').length*I.size=k+news.length:=by rw[aU,oI,n1]; omega
    grind
   .rw[f2,hcnt2]; have:=c2 b; rw[hown] at this; have:=hI.cnt b; omega
   .rw[hcnt2,aV];grind
 .have hrun:=bRA (base:=A) (sLen:=es.length) (sCap:=cap) (olds:=olds) (by rw[<- hsi]; exact o2 w.drew fun b o v h=>(hI.mem b o v h).1) (by omega) hlim;obtain ⟨d1,d2⟩:=c1.drew;have hge:=grownCap_ge w (es.length+es'.length) cap e;have hlen:(es ++ es').length*I.size=olds.length+news.length:=by rw[o1,n1,aU,oI]
  have htake:((olds.toArray ++ news.toArray ++ Builtin.zeroCells z.cells (grownCap w (es.length+es'.length) cap e-(es.length+es'.length))).toList.take ((es ++ es').length*I.size))=olds ++ news:=by rw[hlen];grind [List.take_left]
  have hone:∀ v,v∈(olds.toArray ++ news.toArray ++ Builtin.zeroCells z.cells (grownCap w (es.length+es'.length) cap e-(es.length+es'.length)))->v.oneCell'=true:=fun v hv=>by
   rcases Array.mem_append.1 hv with hv | hv
   grind
   .unfold Builtin.zeroCells at hv;obtain ⟨j,hj,rfl⟩:=Array.mem_map.1 hv;by_cases h0:z.cells.size=0
    .rw[h0] at hj; simp at hj
    .have:j % z.cells.size<z.cells.size:=Nat.mod_lt _ (by omega);rw[getElem!_pos z.cells _ this];exact jC.one _ (Array.getElem_mem _)
  have hmem:=d1.mem;have hpre:=Pre.newRow (a:=a) d1 (ty:=e) (sz:=I.size) (k:=(es ++ es').length*I.size) (es:=es ++ es') (cap:=grownCap w (es.length+es'.length) cap e) hpos hone rfl (by rw[aU]; exact hge) (by
   simp only[Array.size_append,List.size_toArray,size_zeroCells,jC.JD,<- hsi,o1,n1];rw[<- oI,<- oI];exact vY _ (by omega)) aNL (by
   rw[htake];have hle:=Ut d1 (olds ++ news);refine aQC (o4 _ _ _ hle.mem fun j v hv => ?_) (n4 _ _ _ hle.mem fun j v hv => ?_)
   .show laid M w.drew.heap.size (olds ++ news) w.drew.heap.size (0+j)=some v;rw[yM (yN d1),aX rfl,qK,vW (iO.1 hv).1]; exact hv
   .show laid M w.drew.heap.size (olds ++ news) w.drew.heap.size (0+es.length*I.size+j)=some v;rw[yM (yN d1),aX rfl,qK,<- o1,Gm (Nat.le_add_right _ _),aE8]; exact hv)
  rw[aU] at hpre;refine ⟨_,_,_,_,hrun,⟨hpre.inv,hpre.le,?_,fun b hb => ?_,hpre.rep,hpre.tl,hpre.cnt,hpre.new⟩,fun A2 n2' cap2 e2=>by
   cases e2;refine ⟨_,e,Qz w.drew _,.inl ⟨rfl,?_,grownCap_le_maxLen w _ cap e (by unfold aO at hlim; unfold maxLen; omega)⟩⟩;simp only[Array.size_append,List.size_toArray,size_zeroCells,jC.JD,o1,n1,hsi];rw[<- oI,<- oI];congr 1
   omega⟩
  .refine (Fr.trans (f:=fp B Z a.tmps w) (g:=fp B (Z.clr s) a.tmps w.drew) (M':=M) (w':=w.drew) ⟨rfl,rfl,rfl,fK _,fun _ _ _=>⟨rfl,fun _=>rfl⟩⟩ hpre.fr fun b hb h0 => ?_);have:=c2 b;rw[Yu];omega
  .have h1:=hpre.own b hb;have h2:=c2 b;rw[Yu] at h1;exact ng h1 (by omega)
def a4V (M:Mem) (w:World) (p0:PV) (sz:Nat) (es:bZZ) (v:Value):Prop:=∀ A cap,v = .slice A es.length cap->(A=none->cap=0)/\(sz=0->A=none)/\∀ a,A=some a->p0.own=true/\∃ cs ty,w.heap[a.block]? = some (.cells cs ty (0,0))/\a.off+cap*sz<=cs.size/\(∀ o,a.off+es.length*sz<=o->M a.block o=none)/\a.spot=none/\a.off=0
theorem aQK {p:α->World->Prop} {q:α->World->Mem->aP->Prop} {r r':α->World->Prop} (hm:∀ v w',r v w'->r' v w') (h:∃ v w' M' B',p v w'/\q v w' M' B'/\r v w'):∃ v w' M' B',p v w'/\q v w' M' B'/\r' v w':=let ⟨v,w',M',B',h1,h2,h3⟩:=h; ⟨v,w',M',B',h1,h2,hm v w' h3⟩
theorem aH1 {p:α->World->Prop} {q:α->World->Mem->aP->Prop} {r:α->World->Prop} (h:∃ v w' M' B',p v w'/\q v w' M' B'/\r v w'):∃ v w' M' B',p v w'/\q v w' M' B':=let ⟨v,w',M',B',h1,h2,_⟩:=h; ⟨v,w',M',B',h1,h2⟩
theorem aFX (hI:Inv n M B out Z a.tmps w) {P:Program} {t ty:TypeId} {I:TI} (hT:jl P t=some I) {s:Operand} {sz sz':Nat} {o:Bool} {p0:PV} (hs:Z.ev s=some p0) (hrs:Rep M B (.sl true sz es) (a.eval s)) (hrow:a4V M w p0 sz es (a.eval s)) (hx:Z.rd x=some (.sl o sz' es')) 
 (hpos:0<I.size) (hby:I.bytes<=1024) (hsz0:sz=I.size\/sz=0) (UV:sz'=I.size\/sz'=0) (hlim:es.length+es'.length<=aO) :
 ∃ v w' M' B',(Builtin.append_ #[t,t] ty #[a.eval s,a.eval x]).run P w = .ok v w'/\Pre n out M B Z a.tmps w M' B' (Z.clr s) w' (.sl true I.size (es ++ es')) v/\∃ e,P.underlying t=some (.slice e)/\Xg w w' e I.size (a.eval s) v:=by
 obtain ⟨e,i,z,d,hu,jC⟩:=zH hT;have hsi:=jC.size;have hbi:=jC.bytes;have hr':=(hI.rd x _ hx).1;obtain ⟨A',cap',e2,a8G,bJ1,hz',hA'⟩:=jR.1 hr';have hsz':sz'=I.size\/es' = []:=UV.imp id fun h=>(hz' h).1
 have hs2:∀ p,p∈es'->p.size=I.size:=fun p hp=>by grind
 have hA2:es' ≠ []->∃ b off,A'=some ⟨b,off,none⟩/\kP M [] I.size es' b off:=fun hc=>by simp_all
 obtain ⟨news,n1,n2,n3,n4⟩:=a6J (P:=P) hs2 a8G hA2 hI.mem;rw[e2];refine aQK (fun v w' h=>⟨e,hu,hsi▸h⟩) (aFW (ty:=ty) (u:=t) hI jC hs hrs hrow hpos hby hsz0 hs2 hlim n1 n3 n4 (X := .slice A' es'.length cap') (fun h0 => ?_) (fun hh hroom hfit => ?_) (fun hfo hg h63 => ?_))
 .subst h0;exact aFU hu jC.info (by rw[<- hsi]; exact n2 w fun b o v h=>(hI.mem b o v h).1)
 .exact aFV hu jC.info (by rw[<- hsi]; exact n2 w fun b o v h=>(hI.mem b o v h).1) hh hroom n3 hfit
 .exact aFT hu jC.info jC.zero hfo (by rw[<- hsi]; exact n2 w.drew fun b o v h=>(hI.mem b o v h).1) hg h63 (by rw[<- hbi]; exact hby)
theorem aXY (hI:Inv n M B out Z a.tmps w) {P:Program} {t ty:TypeId} {I:TI} (hT:jl P t=some I) {s:Operand} {sz sz':Nat} {o:Bool} (how:ow=true\/sz=0) (hs:Z.ev s=some (.sl ow sz es)) (hx:Z.rd x=some (.sl o sz' es')) 
 (hpos:0<I.size) (hby:I.bytes<=1024) (hsz0:sz=I.size\/sz=0) (UV:sz'=I.size\/sz'=0) (hlim:es.length+es'.length<=aO) :
 ∃ v w' M' B',(Builtin.append_ #[t,t] ty #[a.eval s,a.eval x]).run P w = .ok v w'/\Pre n out M B Z a.tmps w M' B' (Z.clr s) w' (.sl true I.size (es ++ es')) v:=by
 obtain ⟨hrs,hTl⟩:=hI.ev hs;exact aH1 (aFX hI hT hs (Ve.1 hrs) (aUF how hrs hTl) hx hpos hby hsz0 UV hlim)
theorem aXT {P:Program} {t u ty e:TypeId} {i:TypeInfo} {z:Value} (ht:P.underlying t=some (.slice e)) (hu:P.underlying u=some .string) (hi:P.info? e=some i) (hz:i.zero=some z) {base:Option Addr} {sLen sCap:Nat} {olds:List Value} {s:ByteArray}
 (hfo:(Builtin.firstCells i.size sLen (.slice base sLen sCap)).run P w.drew = .ok olds.toArray w.drew) (hg:sCap<sLen+s.size) (h63:sLen+s.size<=aO) (hb:i.bytes<=1024) :
 (Builtin.append_ #[t,u] ty #[.slice base sLen sCap,.string s]).run P w =
  .ok (.slice (some ⟨w.heap.size,0,none⟩) (sLen+s.size) (grownCap w (sLen+s.size) sCap e)) (w.drew.alloc (.cells (olds.toArray ++ (Lib.strCells s).toArray ++ Builtin.zeroCells z.cells (grownCap w (sLen+s.size) sCap e-(sLen+s.size))) e)):=by
 unfold aO at h63;have hn:¬ (sLen+s.size<=sCap):=by omega
 have h63':¬ (9223372036854775807<((sLen:Int)+(s.size:Int))):=by omega
 have hb2:(sLen+s.size)*i.bytes<=140737488355328:=ng (Nat.mul_le_mul h63 hb) (by decide);have h48':¬ (281474976710656<Builtin.nextslicecap (sLen+s.size) sCap*i.bytes):=by have:=growslice_fits hg hb2; omega
 have hfn:=aW6 (P:=P) w.drew i.size s;simp[Builtin.append_,fG ht,fG hu,sizeOf,typeInfo,zeroValue,hi,hz,Builtin.lenOf,hn,h63',h48',Question.forced,hfo,hfn,newRow,grownCap];grind
theorem aXU {P:Program} {t u ty e:TypeId} {i:TypeInfo} (ht:P.underlying t=some (.slice e)) (hu:P.underlying u=some .string) (hi:P.info? e=some i) {s:ByteArray} (h0:s.size=0) :
 (Builtin.append_ #[t,u] ty #[.slice none 0 0,.string s]).run P w = .ok (.slice none 0 0) w:=by
 have hfn:=aW6 (P:=P) w i.size s;rw[h0,show Lib.strCells s = [] from lJ (by rw[Lib.strCells_length]; exact h0)] at hfn;simp[Builtin.append_,fG ht,fG hu,sizeOf,typeInfo,hi,Builtin.lenOf,h0,hfn]
theorem aFY (hI:Inv n M B out Z a.tmps w) {P:Program} {t u ty:TypeId} {I:TI} (hT:jl P t=some I) (hst:uP P u=true) {s:Operand} {sz:Nat} {b:ByteArray} {p0:PV} (hs:Z.ev s=some p0) (hrs:Rep M B (.sl true sz es) (a.eval s)) (hrow:a4V M w p0 sz es (a.eval s)) (hx:Z.rd x=some (.str b)) 
 (hsz1:I.size=1) (hby:I.bytes<=1024) (hsz0:sz=I.size\/sz=0) (hlim:es.length+b.size<=aO) :
 ∃ v w' M' B',(Builtin.append_ #[t,u] ty #[a.eval s,a.eval x]).run P w = .ok v w'/\Pre n out M B Z a.tmps w M' B' (Z.clr s) w' (.sl true I.size (es ++ J5 b)) v/\∃ e,P.underlying t=some (.slice e)/\Xg w w' e I.size (a.eval s) v:=by
 obtain ⟨e,i,z,d,hu,jC⟩:=zH hT;have hsi:=jC.size;have hbi:=jC.bytes;have hus:=Ud hst;rw[iq.1 (hI.rd x _ hx).1];have hpl:=bTA b;refine aQK (fun v w' h=>⟨e,hu,hsi▸h⟩) (aFW (ty:=ty) (u:=u) (t:=t) (X := .string b) hI jC hs hrs hrow (es':=J5 b) (by omega) hby hsz0 (fun p hp => ?_) (by rw[hpl]; exact hlim) (news:=Lib.strCells b) (by rw[Lib.strCells_length,hpl,hsz1,Nat.mul_one]) (Lib.strCells_oneCell b) (fun M' b' o' hM hc => ?_) (fun h0 => ?_) (fun {g off sLen sCap cur ty'} hh hroom hfit => ?_) (fun hfo hg h63 => ?_))
 .obtain ⟨x,_,rfl⟩:=uG.1 hp;rw[hsz1]; rfl
 .rw[hsz1];refine zY fun j p hj => ?_
  unfold J5 at hj;rw[lL] at hj;cases hv:b.data.toList[j]? with
  | none=>simp_all
  | some v =>simp[hv] at hj; subst hj;refine (Bi rfl).2 ⟨_,?_,dw.2 rfl⟩;rw[Nat.mul_one];grind [Lib.strCells]
 .exact aXU hu hus jC.info (by rw[<- hpl,h0]; rfl)
 .rw[hpl] at hroom ⊢;have hst2:=run_storeCells_at P g (off+sLen*i.size) ty' (Lib.strCells b) 0 cur w hh (by omega) (Lib.strCells_oneCell b);simp only[NE] at hst2;have hfn:=aW6 (P:=P) w i.size b;simp[Builtin.append_,fG hu,fG hus,sizeOf,typeInfo,jC.info,Builtin.lenOf,hroom,hfn,add_lit,hst2]
 .rw[hpl] at hg h63 ⊢;exact aXT hu hus jC.info jC.zero hfo hg h63 (by rw[<- hbi]; exact hby)
theorem aXZ (hI:Inv n M B out Z a.tmps w) {P:Program} {t u ty:TypeId} {I:TI} (hT:jl P t=some I) (hbt:PD P t=true) (hst:uP P u=true) {s:Operand} {sz:Nat} {b:ByteArray} (how:ow=true\/sz=0) (hs:Z.ev s=some (.sl ow sz es)) (hx:Z.rd x=some (.str b)) 
 (hsz1:I.size=1) (hby:I.bytes<=1024) (hsz0:sz=I.size\/sz=0) (hlim:es.length+b.size<=aO) :
 ∃ v w' M' B',(Builtin.append_ #[t,u] ty #[a.eval s,a.eval x]).run P w = .ok v w'/\Pre n out M B Z a.tmps w M' B' (Z.clr s) w' (.sl true I.size (es ++ J5 b)) v:=by
 obtain ⟨hrs,hTl⟩:=hI.ev hs;exact aH1 (aFY hI hT hst hs (Ve.1 hrs) (aUF how hrs hTl) hx hsz1 hby hsz0 hlim)
theorem aUE {v:Value} (hTl:TlT M w (.dC l) v):a4V M w (.dC l) 1 (nO l) v:=fun A cap e=>by obtain ⟨h1,h2⟩:=hTl l A _ cap rfl e;refine ⟨h1,fun h=>absurd h (by omega),fun x hx=>⟨rfl,?_⟩⟩;grind [YI]
theorem Pre.dC {M':Mem} {B':aP} {Z':ASt} {w':World} {v v0:Value} {l':bZ'} {ts:Array Value} (he:es=nO l') (h:Pre n out M B Z ts w M' B' Z' w' (.sl true 1 (nO l ++ es)) v) (h1:Xg w w' Jj 1 v0 v) (h0:TlT M w (.dC l) v0) :
 Pre n out M B Z ts w M' B' Z' w' (.dC (l ++ l')) v:=by
 subst he;have ho:∀ b,bT (.dC (l ++ l')) v b=bT (.sl true 1 (nO l ++ nO l')) v b:=fun b=>by rfl
 refine ⟨h.inv,h.le,h.fr,fun b hb=>by rw[ho]; exact h.own b hb,?_,⟨(fun _ _ _ _ _ e=>by cases e),fun l2 A m cap e ev => ?_,fun _ _ _ _ _ _ e _=>by cases e⟩,fun b=>by rw[ho]; exact h.cnt b,fun b hb=>by rw[ho]; exact h.new b hb⟩
 .refine Vg.1 ?_;rw[aG8];exact Ve.1 h.rep
 .cases e;obtain ⟨t1,_,t3⟩:=h.tl.s 1 _ A m cap rfl ev;refine ⟨t1,fun x hx => ?_⟩;obtain ⟨cs,ty,g1,g2,g3,g4,g5⟩:=t3 x hx;subst hx;obtain ⟨cs',ty',k1,k2⟩:=h1 x m cap ev;rw[g1] at k1;injection k1 with k1; injection k1 with k1 k3 _; subst k1; subst k3
  have hf:∀ o,(l ++ l').length<=o->M' x.block o=none:=fun o ho=>g3 o (by rw[<- aG8,YI,g5]; omega)
  rcases k2 with ⟨rfl,q1,q2⟩ | ⟨A0,n0,cs0,q1,q2,q3⟩
  simp_all
  .obtain ⟨_,z2⟩:=h0 l (some A0) n0 cap rfl q1;grind
theorem aH2 {P:Program} {t e:TypeId} (h:xI P t=some e):P.underlying t=some (.slice e):=by grind [xI]
theorem aXW (hI:Inv n M B out Z a.tmps w) {P:Program} {t u ty:TypeId} {I:TI} (hT:jl P t=some I) (hbt:xI P t=some Jj) (hst:uP P u=true) {s:Operand} {b:ByteArray} (hs:Z.ev s=some (.dC l)) (hx:Z.rd x=some (.str b)) 
 (hsz1:I.size=1) (hby:I.bytes<=1024) (hlim:l.length+b.size<=aO) :
 ∃ v w' M' B',(Builtin.append_ #[t,u] ty #[a.eval s,a.eval x]).run P w = .ok v w'/\Pre n out M B Z a.tmps w M' B' (Z.clr s) w' (.dC (l ++ b.data.toList)) v:=by
 obtain ⟨hrs,hTl⟩:=hI.ev hs;obtain ⟨v,w',M',B',h1,h2,e,h3,h4⟩:=aFY (ty:=ty) hI hT hst hs (Ve.1 (Vg.2 hrs)) (aUE hTl.t) hx hsz1 hby (.inl hsz1.symm) (by rw[YI]; exact hlim);rw[aH2 hbt] at h3; cases h3;rw[hsz1] at h2 h4;exact ⟨v,w',M',B',h1,h2.dC (bT9 b) h4 hTl.t⟩
theorem aXV (hI:Inv n M B out Z a.tmps w) {P:Program} {t ty:TypeId} {I:TI} (hT:jl P t=some I) (hbt:xI P t=some Jj) {s:Operand} {o:Bool} (hs:Z.ev s=some (.dC l)) (hx:Z.rd x=some (.sl o 1 [.int .u8 c])) 
 (hsz1:I.size=1) (hby:I.bytes<=1024) (hlim:l.length+1<=aO) (h0:0<=c) (h256:c<256) :
 ∃ v w' M' B',(Builtin.append_ #[t,t] ty #[a.eval s,a.eval x]).run P w = .ok v w'/\Pre n out M B Z a.tmps w M' B' (Z.clr s) w' (.dC (l ++ [UInt8.ofNat c.toNat])) v:=by
 obtain ⟨hrs,hTl⟩:=hI.ev hs;obtain ⟨v,w',M',B',h1,h2,e,h3,h4⟩:=aFX (ty:=ty) hI hT hs (Ve.1 (Vg.2 hrs)) (aUE hTl.t) hx (by omega) hby (.inl hsz1.symm) (.inl hsz1.symm) (by rw[YI]; exact hlim);rw[aH2 hbt] at h3; cases h3;rw[hsz1] at h2 h4;exact ⟨v,w',M',B',h1,h2.dC (bNI h0 h256).symm h4 hTl.t⟩
theorem aXX (hI:Inv n M B out Z a.tmps w) {P:Program} {t ty:TypeId} {I:TI} (hT:jl P t=some I) {s:Operand} {k sz':Nat} {o:Bool} (hs:Z.ev s=some (.gX true k I.size cs)) (hx:Z.rd x=some (.sl o sz' es')) 
 (hpos:0<I.size) (hby:I.bytes<=1024) (UV:sz'=I.size\/sz'=0) (a8H:(eu es').all PV.lit=true) (hlim:k+es'.length<=aO) :
 ∃ v w' M' B',(Builtin.append_ #[t,t] ty #[a.eval s,a.eval x]).run P w = .ok v w'/\Pre n out M B Z a.tmps w M' B' (Z.clr s) w' (.gX true (k+es'.length) I.size (cs ++ eu es')) v:=by
 obtain ⟨e,i,z,d,hu,jC⟩:=zH hT;have hsi:=jC.size;have hbi:=jC.bytes;have hr':=(hI.rd x _ hx).1;obtain ⟨A',cap',e2,a8G,bJ1,hz',hA'⟩:=jR.1 hr';have hsz':sz'=I.size\/es' = []:=UV.imp id fun h=>(hz' h).1
 have hs2:∀ p,p∈es'->p.size=I.size:=fun p hp=>by grind
 have hA2:es' ≠ []->∃ b off,A'=some ⟨b,off,none⟩/\kP M [] I.size es' b off:=fun hc=>by simp_all
 obtain ⟨news,n1,n2,n3,n4⟩:=a6J (P:=P) hs2 a8G hA2 hI.mem;have hnl:(eu es').length=news.length:=by rw[Yr hs2,n1]
 have hnew:∀ (j:Nat) p,(eu es')[j]? = some p->p.lit=true/\∃ u,news[j]? = some u/\Rep LH [] p u/\u.oneCell'=true:=fun j p hj=>by
  have hl:=n4 (laid M w.heap.size news) w.heap.size 0 (Ut hI news).mem fun j v hv=>by rw[yM (yN hI),aX rfl,qK]; exact hv
  grind [a9W,yM,yN,aQ9]
 obtain ⟨hrs,hTl⟩:=hI.ev hs;obtain ⟨A,cap,e1,hle⟩:=Fz.1 hrs;obtain ⟨⟨hcl,_⟩,hn,hrow⟩:=hTl.p _ _ _ _ _ _ rfl e1;obtain ⟨c1,c2,c3⟩:=hI.YS hs;rw[e1,e2];have hall:(cs ++ eu es').length=(k+es'.length)*I.size:=by rw[aU,hcl,Yr hs2,oI]
 by_cases hroom:k+es'.length<=cap
 .cases A with
  | none =>
   have hc0:=hn rfl;have h1:k=0:=by omega
   have h2:es' = []:=lJ (by omega);subst h1; subst h2; subst hc0;have h3:cs = []:=lJ (by omega);subst h3;refine ⟨.slice none 0 0,w,M,B,aFU hu jC.info (by rw[<- hsi]; exact n2 w fun b o v h=>(hI.mem b o v h).1),⟨c1,dH.refl _ _,Fr.refl _ _ _,fun b _ => ?_,Fz.2 ⟨none,0,rfl,fK _⟩,aD1 fun k' sz' cs' A m cap e ev => ?_,fun b => ?_,fun b _=>by simp[bT]⟩⟩;simp_all;grind
   .have:=c2 b; have:=hI.cnt b; simp_all
  | some ad =>
   obtain ⟨cur,ty',t1,t2,t3,t4,t5,t6⟩:=hrow ad rfl;obtain ⟨g,off,spot⟩:=ad;simp only at t1 t4 t5 t6;subst t5; subst t6;have hown:∀ b,bT (.gX true k I.size cs) (a.eval s) b=if g=b then 1 else 0:=fun b=>by rw[e1]; rfl
   have hg1:fp B Z a.tmps w g=1/\out g=0/\fp B (Z.clr s) a.tmps w g=0:=by have:=hI.cnt g; have:=c2 g; rw[hown,aX rfl] at this; omega
   have hfit:0+k*I.size+news.length<=cur.size:=by rw[n1];have:(k+es'.length)*I.size<=cap*I.size:=vY _ hroom;rw[oI] at this; omega
   have hrun:=aFV (P:=P) (ty:=ty) (g:=g) (off:=0) (sLen:=k) (sCap:=cap) (m:=es'.length) (A':=A') (c:=cap') hu jC.info (by rw[<- hsi]; exact n2 w fun b o v h=>(hI.mem b o v h).1) t1 hroom n3 (by rw[<- hsi]; exact hfit);rw[<- hsi,qK] at hrun;rw[qK] at hfit;generalize KQ:(cur.toList.take (k*I.size) ++ news ++ cur.toList.drop (k*I.size+news.length)).toArray=cur' at *;have hsz2:cur'.size=cur.size:=by rw[<- KQ]; simp; omega
   have hnw:∀ j,j<news.length->cur'[k*I.size+j]? = news[j]? := fun j hj=>by rw[<- KQ,aE2];grind
   have hold:∀ o,o<k*I.size->cur'[o]? = cur[o]? := fun o ho=>by rw[<- KQ,aE2];grind
   have hheap:(w.setRow g cur').heap[g]? = some (.cells cur' ty' (0,0)):=setRow_heap w g cur _ ty' (0,0) t1;have hoth:∀ b,b≠g->(w.setRow g cur').heap[b]? = w.heap[b]? := fun b hb=>setRow_other w g b _ hb
   obtain ⟨f1,f2⟩:=c1.ext (M':=M) (w':=w.setRow g cur') (dH.refl _ _) (fun b o v h=>by
    have hb:b≠g:=fun e=>by simp_all
    have hm:=hI.mem b o v h;grind [World.cell?_of_block]) (fun b hb=>by
    have hbg:b≠g:=fun e=>by grind
    simp_all) (by simp_all)
   have hcnt2:∀ b,bT (.gX true (k+es'.length) I.size (cs ++ eu es')) (.slice (some ⟨g,0,none⟩) (k+es'.length) cap) b=if g=b then 1 else 0:=fun b=>by rfl
   have hlt:g<w.heap.size:=(yj.1 t1).1;refine ⟨_,_,M,B,hrun,⟨f1,dH.refl _ _,⟨rfl,rfl,rfl,by simp_all,fun b hb h0=>⟨hoth b fun e=>by grind,fun _=>rfl⟩⟩,fun b hb => ?_,Fz.2 ⟨_,cap,rfl,hroom⟩,aD1 fun k' sz2 cs' A2 m cap2 e3 e4 => ?_,fun b => ?_,fun b hb => ?_⟩⟩;simp_all;grind
   .rw[f2,hcnt2]; have:=c2 b; rw[hown] at this; have:=hI.cnt b; omega
   grind
 ·
  obtain ⟨olds,o1,o2,o3⟩:∃ olds:List Value,olds.length=k*I.size/\(Builtin.firstCells I.size k (.slice A k cap)).run P w.drew = .ok olds.toArray w.drew/\(∀ (j:Nat) p,cs[j]? = some p->p.lit=true/\∃ u,olds[j]? = some u/\Rep LH [] p u/\u.oneCell'=true)/\∀ u,u∈olds->u.oneCell'=true:=by
   cases A with
   | none =>
    have hc0:=hn rfl;have h1:k=0:=by omega
    subst h1;have h3:cs = []:=lJ (by omega);subst h3;exact ⟨[],by simp,by rfl,fun j p h=>by simp at h,by simp⟩
   | some ad =>
    obtain ⟨cur,ty',t1,t2,t3,t4,t5,t6⟩:=hrow ad rfl;obtain ⟨g,off,spot⟩:=ad;simp only at t1 t4 t5 t6;subst t5; subst t6;have hkc:k*I.size<=cur.size:=ng (vY _ hle) t2;have hget:∀ (j:Nat) v,(cur.toList.take (k*I.size))[j]? = some v->j<k*I.size/\cur[j]? = some v:=fun j v hv=>by rw[mV] at hv;simp_all
    refine ⟨cur.toList.take (k*I.size),by simp; omega,XK (P:=P) w.drew I.size k ⟨g,0,none⟩ k cap _ (by simp; omega) (fun j v hv => ?_),fun j p hj => ?_,fun u hu => ?_⟩
    .rw[add_lit,qK];have:=(hget j v hv).2;show w.cell? ⟨g,j,none⟩=some v;grind [World.cell?]
    grind
    .obtain ⟨j,hj⟩:=yu.1 hu;obtain ⟨h1,h2⟩:=hget j u hj;obtain ⟨q1,u',q2,q3,q4⟩:=t3 j _ (jU (by omega:j<cs.length));rw[h2] at q2; simp_all
  obtain ⟨o3,o4⟩:=o3;have hrun:=aFT (P:=P) (ty:=ty) (base:=A) (A':=A') (sLen:=k) (sCap:=cap) (m:=es'.length) (c:=cap') (olds:=olds) (news:=news) hu jC.info jC.zero (by rw[<- hsi]; exact o2) (by rw[<- hsi]; exact n2 w.drew fun b o v h=>(hI.mem b o v h).1) (by omega) hlim (by rw[<- hbi]; exact hby);obtain ⟨d1,d2⟩:=c1.drew;have hge:=grownCap_ge w (k+es'.length) cap e;have hone:∀ v,v∈(olds.toArray ++ news.toArray ++ Builtin.zeroCells z.cells (grownCap w (k+es'.length) cap e-(k+es'.length)))->v.oneCell'=true:=fun v hv=>by
   rcases Array.mem_append.1 hv with hv | hv
   grind
   .unfold Builtin.zeroCells at hv;obtain ⟨j,hj,rfl⟩:=Array.mem_map.1 hv;by_cases h0:z.cells.size=0;simp_all
    .have:j % z.cells.size<z.cells.size:=Nat.mod_lt _ (by omega);rw[getElem!_pos z.cells _ this];exact jC.one _ (Array.getElem_mem _)
  have hpre:=Pre.aR8 (a:=a) d1 (ty:=e) (sz:=I.size) (k:=k+es'.length) (cs:=cs ++ eu es') (cap:=grownCap w (k+es'.length) cap e) hpos hone hall hge (by
   simp only[Array.size_append,List.size_toArray,size_zeroCells,jC.JD,<- hsi,o1,n1];rw[<- oI,<- oI];simp_all) (fun j p hj=>by
   grind)
  refine ⟨_,_,_,_,hrun,⟨hpre.inv,hpre.le,?_,fun b hb => ?_,hpre.rep,hpre.tl,hpre.cnt,hpre.new⟩⟩
  .refine (Fr.trans (f:=fp B Z a.tmps w) (g:=fp B (Z.clr s) a.tmps w.drew) (M':=M) (w':=w.drew) ⟨rfl,rfl,rfl,fK _,fun _ _ _=>⟨rfl,fun _=>rfl⟩⟩ hpre.fr fun b hb h0 => ?_);have:=c2 b;rw[Yu];omega
  .have h1:=hpre.own b hb;have h2:=c2 b;rw[Yu] at h1;exact ng h1 (by omega)
end
section
variable {n:Nat} {out:Nat->Nat} {M:Mem} {B:aP} {Z:ASt} {a:Act} {w:World}
theorem a6M {l:List α}:∀ {n j:Nat},j<n*l.length->((List.replicate n l).flatten)[j]? = l[j % l.length]?
 | 0,j,h=>by simp at h
 | n+1,j,h=>by
  rw[List.replicate_succ,List.flatten_cons];rcases zy j l.length with h' | h'
  .rw[vW h',Nat.mod_eq_of_lt h']
  .rw[Gm h',Nat.mod_eq_sub_mod h'];exact a6M (by rw[JP] at h; omega)
theorem aI4 {l:List α} {n:Nat}:((List.replicate n l).flatten).length=n*l.length:=by simp
theorem a5Q (c:Array Value) (n k:Nat) (hk:k=n*c.size):(madeCells c k).toList=(List.replicate n c.toList).flatten:=by subst hk;apply ND;grind [a6M,madeCells,aI4]
theorem aDU {P:Program} {e:TypeId} {I:TI} {i:TypeInfo} {z:Value} {d:TypeDesc} (hT:rO P e I i z d) (m:Nat):wX m I=((List.replicate m z.cells.toList).flatten).map nH:=by rw[bWI,hT.Uh,List.map_flatten,List.map_replicate]
theorem aDT {P:Program} {e:TypeId} {I:TI} {i:TypeInfo} {z:Value} {d:TypeDesc} (hT:rO P e I i z d) (m:Nat):(wX m I).length=m*I.size:=by rw[aDU hT,bF,aI4,hT.size,<- hT.JD]; simp
theorem Yt {l:List α} {n:Nat} {x:α} (h:x∈(List.replicate n l).flatten):x∈l:=by obtain ⟨l',h1,h2⟩:=List.mem_flatten.1 h;rw[(List.mem_replicate.1 h1).2] at h2; exact h2
theorem bM3 {P:Program} {t e:TypeId} {I:TI} {i:TypeInfo} {z:Value} {d:TypeDesc} (hu:P.underlying t=some (.slice e)) (hT:rO P e I i z d) (k k':IntKind) (h0:0<=m) (h1:m<=1073741824) (hb:I.bytes<=1024):
 (Instr.makeSlice t (.int k m) (.int k' m)).run P w = .ok (.slice (some ⟨w.heap.size,0,none⟩) m.toNat m.toNat) (w.alloc (.cells (madeCells z.cells (m.toNat*i.size)) e)):=by
 have hb2:(i.bytes:Int)*m<=281474976710656:=by
  have h2:(i.bytes:Int)<=1024:=by have:=hT.bytes; omega
  calc (i.bytes:Int)*m<=1024*1073741824:=Int.mul_le_mul h2 h1 h0 (by decide)
   _<=281474976710656:=by decide
 exact run_make w t e i z hu hT.info hT.zero k k' m m h0 (JH _) hb2 (by omega)
theorem bM2 (hI:Inv n M B out Z a.tmps w) {P:Program} {e:TypeId} {I:TI} {i:TypeInfo} {z:Value} {d:TypeDesc} (hT:rO P e I i z d) (m:Nat) :
 Good n out M B Z a.tmps w M (B ++ [(w.heap.size,(madeCells z.cells (m*i.size)).size,e+1)]) { Z with h:=Z.h ++ [some (wX m I)] } a.tmps (w.alloc (.cells (madeCells z.cells (m*i.size)) e)):=by
 have hc:=a5Q z.cells m (m*i.size) (by rw[hT.JD]);refine hI.newObj _ e _ (by rw[aDT hT,size_madeCells,hT.size]; omega) (fun j p hj => ?_);rw[aDU hT,<- hc,lL] at hj;cases hv:(madeCells z.cells (m*i.size)).toList[j]? with
 | none=>simp_all
 | some v =>
  simp[hv] at hj; subst hj;have hv':(madeCells z.cells (m*i.size))[j]? = some v:=by grind
  have hone:v.oneCell'=true:=hT.one v (by have:=nZ hv;rw[hc] at this;simpa using Yt this);grind [Iq,aD3,aAL]
theorem aZR {l:List α} {n j k:Nat} (hj:j<n) (hk:k<l.length):((List.replicate n l).flatten)[j*l.length+k]? = l[k]? := by rw[a6M (by have:(j+1)*l.length<=n*l.length:=vY _ hj;rw[JP] at this; omega),Nat.add_comm,Nat.add_mul_mod_self_right,Nat.mod_eq_of_lt hk]
theorem bM4 (hI:Inv n M B out Z a.tmps w) {P:Program} {e:TypeId} {I:TI} {i:TypeInfo} {z:Value} {d:TypeDesc} (hT:rO P e I i z d) (hpos:0<I.size) (hz:(vV I).size=I.size) (hok:(vV I).okE=true) (m:Nat) :
 ∃ M',Pre n out M B Z a.tmps w M' B Z (w.alloc (.cells (madeCells z.cells (m*i.size)) e)) (.sl true I.size (List.replicate m (vV I))) (.slice (some ⟨w.heap.size,0,none⟩) m m):=by
 have hc:=a5Q z.cells m (m*i.size) (by rw[hT.JD]);have hsz:z.cells.toList.length=I.size:=by rw[hT.size,<- hT.JD]; simp
 have hone:∀ v,v∈madeCells z.cells (m*i.size)->v.oneCell'=true:=fun v hv=>hT.one v (by
  have:v∈(madeCells z.cells (m*i.size)).toList:=by grind
  rw[hc] at this;simpa using Yt this)
 have hlen:(madeCells z.cells (m*i.size)).size=m*I.size:=by rw[size_madeCells,hT.size]
 have hpre:=Pre.newRow (a:=a) hI (vs:=madeCells z.cells (m*i.size)) (ty:=e) (sz:=I.size) (k:=m*I.size) (es:=List.replicate m (vV I)) (cap:=m) hpos hone (by simp) (by simp) (by rw[hlen]; omega) (fun x hx=>by rw[(List.mem_replicate.1 hx).2]; exact hz) (by
  refine zY fun j p hj => ?_
  obtain ⟨hjm,rfl⟩:j<m/\p=vV I:=by have h1:=nZ hj;have h2:=(iO.1 hj).1;simp_all
  have hcell:∀ k v,z.cells.toList[k]? = some v->laid M w.heap.size ((madeCells z.cells (m*i.size)).toList.take (m*I.size)) w.heap.size (0+j*I.size+k)=some v:=fun k v hv=>by
   have hk:=(iO.1 hv).1;have hlt:j*I.size+k<m*I.size:=by have:(j+1)*I.size<=m*I.size:=vY _ hjm;rw[JP] at this; omega
   rw[yM (yN hI),aX rfl,mV,aX (by omega),hc,qK,<- hsz,aZR hjm hk]; exact hv
  cases hag:I.agg with
  | true =>
   have e1:vV I = .agg (I.zero.map PV.un):=by simp[vV,hag]
   rw[e1];refine yO.2 (Ey fun k q hq => ?_);rw[hT.Uh,lL,lL] at hq;cases hv:z.cells.toList[k]? with
   | none=>simp_all
   | some v =>simp[hv] at hq; subst hq;exact ⟨v,hcell k v hv,ou.2 (Iq (hT.one v (by grind)))⟩
  | false =>
   have e1:vV I=match I.zero with | [p]=>p.un | _ => .nilp:=by simp[vV,hag]
   rw[hT.Uh] at e1;cases hzl:z.cells.toList with
   | nil=>rw[hzl] at hsz; grind
   | cons v r =>
    cases r with
    | nil =>
     rw[hzl] at e1;simp only[sN,List.map_nil] at e1;have hv:z.cells.toList[0]? = some v:=by rw[hzl]; rfl
     have ho:v.oneCell'=true:=hT.one v (by grind);have hrep:Rep (laid M w.heap.size ((madeCells z.cells (m*i.size)).toList.take (m*I.size))) [] (vV I) v:=by rw[e1]; exact ou.2 (Iq ho)
     have hno:(vV I).one=true:=by rw[e1,aVR];unfold nH; split<;>first | rfl | (split<;>rfl)
     grind [Bi]
    | cons v2 r2 =>rw[hzl] at e1;grind [PV.size])
 grind
theorem aZV (hI:Inv n M B out Z a.tmps w) {P:Program} {t ty e:TypeId} {I:TI} {i:TypeInfo} {z:Value} {d:TypeDesc} (hu:P.underlying t=some (.slice e)) (hT:rO P e I i z d) {j off m:Nat} {v:Value} (hv:Rep M B (.slh j off m I.size) v) (hcs:Z.h[j]? = some (some cs)) (hlen:off+m*I.size<=cs.length):
 ∃ w',(Builtin.clear_ #[t] ty #[v]).run P w = .ok (.tuple #[]) w'/\Good n out M B Z a.tmps w M B { Z with h:=Z.h.set j (some (cs.take off ++ (wX m I).map PV.un ++ cs.drop (off+m*I.size))) } a.tmps w':=by
 obtain ⟨c,cap,⟨hc,hcm⟩,rfl,_,_⟩:=tZ.1 hv;have hzl:=a5Q z.cells m (m*z.cells.size) rfl;have hlist:(Builtin.zeroCells z.cells m).toList=(List.replicate m z.cells.toList).flatten:=by rw[<- hzl]; rfl
 have hr:ay M B ((wX m I).map PV.un) ((List.replicate m z.cells.toList).flatten):=by rw[aDU hT];refine Iu (Ir (by simp) fun k p u hp hu => ?_);rw[lL,hu] at hp;simp at hp; subst hp;exact Iq (hT.one u (by simpa using Yt (nZ hu)))
 obtain ⟨w',h1,h2⟩:=a3N (P:=P) hc hcm (off:=off) ((wX m I).map PV.un) _ 0 cs Z w hI hcs hr (fun d hd=>by grind [qX]) (fun u hu=>hT.one u (by simpa using Yt hu)) (by rw[bF,aDT hT]; omega);simp only[NE,bF,aDT hT] at h2;cases m with
 | zero =>
  have e1:((List.replicate 0 z.cells.toList).flatten) = []:=rfl;rw[e1] at h1;have:w=w':=by simpa[storeCells] using h1
  subst this;exact ⟨w,by simp[Builtin.clear_,fG hu],h2⟩
 | succ m =>refine ⟨w',?_,h2⟩;simp[Builtin.clear_,fG hu,zeroValue,typeInfo,hT.info,hT.zero,hlist,h1]
theorem a'8 {t:Array Value} (hI:Inv n M B out Z t w) {P:Program} {sz m:Nat} {p:PV} {cells:bZZ} (h:F5 Z sz p=some (m,cells)) {v:Value} (hr:Rep M B p v) (hpos:0<sz) :
 ∃ vs:List Value,vs.length=m*sz/\ay M B cells vs/\(∀ q,q∈cells->q.own=false)/\(∀ u,u∈vs->u.oneCell'=true)/\(Builtin.lenOf v).run P w = .ok m w/\∀ k,k<=m->(Builtin.firstCells sz k v).run P w = .ok (vs.take (k*sz)).toArray w:=by
 unfold F5 at h;split at h
 .rename_i o sz' es;split at h
  .rename_i hs;cases h;simp only[Gl] at hs;have hs:sz'=sz\/sz'=0:=hs.imp (fun e=>oJ e) fun e=>oJ e
   obtain ⟨A,cap,rfl,hle,hss,hz,hA⟩:=jR.1 hr;have hs2:∀ p,p∈es->p.size=sz:=fun p hp=>by grind
   cases A with
   | none =>
    have:es = []:=by simp_all
    subst this;exact ⟨[],by simp,dW.2 rfl,by simp[eu],by simp,by rfl,fun k hk=>by simp[Builtin.firstCells]⟩
   | some x =>
    by_cases hcc:es = []
    .subst hcc;exact ⟨[],by simp,dW.2 rfl,by simp[eu],by simp,by rfl,fun k hk=>by grind [run_firstCells_some]⟩
    obtain ⟨b,off,hx,hl⟩:=hA hcc;cases hx;have hl:kP M [] sz es b off:=by simp_all
    obtain ⟨vs,h1,h2⟩:=YO (Ey (ps:=eu es) (o:=off) fun j p hj=>a9W hl hs2 hj);have hlen:vs.length=es.length*sz:=by rw[<- oH h1,Yr hs2]
    refine ⟨vs,hlen,h1.mono (dH.zero _ _),fun q hq=>flat_get hq,fun u hu => ?_,by rfl,fun k hk => ?_⟩
    .obtain ⟨j,hj⟩:=yu.1 hu;exact (hI.mem _ _ _ (h2 j u hj)).2
    .have hkl:k*sz<=es.length*sz:=vY _ hk;refine XK (P:=P) w sz k ⟨b,off,none⟩ es.length cap _ (by rw[wY]; omega) fun j v hv => ?_
     rw[mV] at hv;split at hv
     .rw[add_lit]; exact (hI.mem _ _ _ (h2 j v hv)).1
     .cases hv
  .cases h
 .rename_i j off m' sz';split at h
  .rename_i cs hcs;split at h
   .rename_i hc;obtain ⟨rfl,hfit⟩:=hc;cases h;obtain ⟨c,cap,⟨hc,hcm⟩,rfl,hle,hcap⟩:=tZ.1 hr;obtain ⟨vs,ty,r1,o2,o3,o4,o5⟩:=hI.heap.at hcs hc;obtain ⟨ty,rfl,o1⟩:=EU r1 (by rw[o2.2]; exact hcm);have hget:∀ (i:Nat) u,((vs.toList.drop off).take (m*sz'))[i]? = some u->i<m*sz'/\vs[off+i]? = some u:=fun i u hu=>by rw[mV] at hu;simp_all
    have hvl:((vs.toList.drop off).take (m*sz')).length=m*sz':=by simp; omega
    refine ⟨(vs.toList.drop off).take (m*sz'),hvl,Iu (Ir (by rw[hvl]; simp; omega) fun i p u hp hu => ?_),fun q hq=>by grind [qX],fun u hu => ?_,by rfl,fun k hk => ?_⟩;grind
    .obtain ⟨i,hi⟩:=yu.1 hu;obtain ⟨hil,hi⟩:=hget i u hi;obtain ⟨u',a1,_,_,a4⟩:=o4 (off+i) _ (jU (by omega:off+i<cs.length));rw[hi] at a1; simp_all
    grind [Nat.mul_le_mul_right,run_firstCells_some,add_lit,World.cell?]
   .cases h
  .cases h
 .cases h
theorem a'9 (hI:Inv n M B out Z a.tmps w) {P:Program} {t u ty e:TypeId} {I:TI} {i:TypeInfo} {z:Value} {d:TypeDesc} (hu:P.underlying t=some (.slice e)) (hT:rO P e I i z d) {j off m m2:Nat} {cells:bZZ} {v x:Value} {px:PV} (hv:Rep M B (.slh j off m I.size) v) (hcs:Z.h[j]? = some (some cs)) (hlen:off+m*I.size<=cs.length) 
 (hx:Rep M B px x) (hsrc:F5 Z I.size px=some (m2,cells)) (hpos:0<I.size) :
 ∃ w',(Builtin.copy_ #[t,u] ty #[v,x]).run P w = .ok (.int .i64 ((Nat.min m2 m:Nat):Int)) w'/\Good n out M B Z a.tmps w M B { Z with h:=Z.h.set j (some (cs.take off ++ cells.take (Nat.min m2 m*I.size) ++ cs.drop (off+Nat.min m2 m*I.size))) } a.tmps w':=by
 obtain ⟨c,cap,⟨hc,hcm⟩,rfl,_,_⟩:=tZ.1 hv;obtain ⟨vs,h1,h2,h3,h4,h5,h6⟩:=a'8 (P:=P) hI hsrc hx hpos;have hk1:Nat.min m2 m<=m2:=Nat.min_le_left _ _;have hk2:Nat.min m2 m<=m:=Nat.min_le_right _ _;have hk3:Nat.min m2 m*I.size<=m2*I.size:=vY _ hk1;have hk4:Nat.min m2 m*I.size<=m*I.size:=vY _ hk2;have hcl:cells.length=m2*I.size:=by rw[oH h2,h1]
 have hlt:(cells.take (Nat.min m2 m*I.size)).length=Nat.min m2 m*I.size:=by rw[wY]; omega
 obtain ⟨w',g1,g2⟩:=a3N (P:=P) hc hcm (off:=off) (cells.take (Nat.min m2 m*I.size)) (vs.take (Nat.min m2 m*I.size)) 0 cs Z w hI hcs (aT4 h2 _) (fun d hd=>h3 d (Qu hd)) (fun u hu=>h4 u (Qu hu)) (by rw[hlt]; omega);simp only[NE,hlt] at g2;refine ⟨w',?_,g2⟩;have h7:=h6 _ hk1;simp[Builtin.copy_,fG hu,h5,hT.run_sizeOf w,h7,g1,goInt]
end
section
variable {n:Nat} {out:Nat->Nat} {M:Mem} {B:aP} {Z:ASt} {a:Act} {w:World} {E:AE}
theorem aQQ {P:Program} {t:TypeId} {z:PV} (h:Bq P t=some (s,z)):∃ k e zv i d,P.underlying t=some (.map k e)/\P.underlying k=some d/\(match s with | none=>d = .string | some kd=>d = .int kd)/\P.info? e=some i/\i.zero=some zv/\z=zeroOf zv/\X6 zv=true:=by
 unfold Bq at h;split at h
 .rename_i k e hu;split at h
  .rename_i s' zv hk hz;split at h
   .rename_i hok;cases h;cases hi:P.info? e with
    | none=>simp_all
    | some i =>grind [aOX]
   .cases h
  .cases h
 .cases h
theorem bQY {z:Value} (h:X6 z=true):Rep M B (zeroOf z) z/\(zeroOf z).own=false:=by
 have key:∀ v:Value,v.oneCell'=true->Rep M B (nH v).un v/\((nH v).un).own=false:=fun v hv=>⟨ou.2 (Iq hv),qX _⟩
 cases z with
 | agg cs =>
  have h2:∀ v,v∈(Value.agg cs).cells->v.oneCell'=true:=fun v hv=>by grind [X6,Value.cells]
  exact ⟨pz.2 ⟨cs,rfl,aW3 (z := .agg cs) h2⟩,rfl⟩
 | tuple cs=>simp[X6,Value.oneCell'] at h
 | _=>simp only[zeroOf]; exact key _ rfl
theorem aOY {d:TypeDesc} (hd:match s with | none=>d = .string | some kd=>d = .int kd) {q:PV} (hq:yJ s q=true) {v:Value} (hr:Rep M B q v):MapKept.IsKey d v:=by
 unfold yJ at hq;split at hq
 .have hq:=NI hq;simp only at hd;subst hd; subst hq;rw[dw.1 hr]; rfl
 .simp only at hd;subst hd;rw[iq.1 hr]; simp[MapKept.IsKey]
 .cases hq
theorem YZ {d:TypeDesc} (hd:match s with | none=>d = .string | some kd=>d = .int kd) {q k:PV} (h:eqK s q k=some r) {u v:Value} (hu:Rep M B q u) (hv:Rep M B k v):Instr.sameNow d u v=some r/\(r=true->u=v):=by
 unfold eqK at h;split at h
 .split at h
  .rename_i hk;cases h;simp only[bI,ny] at hk;obtain ⟨rfl,rfl⟩:=hk;simp only at hd;subst hd;rw[dw.1 hu,dw.1 hv];grind [Instr.sameNow]
  .cases h
 .rename_i x y;cases h;simp only at hd;subst hd;rw[iq.1 hu,iq.1 hv];have e:(x==y)=(x.data.toList==y.data.toList):=by
   rw[a4C,a4G,uH];constructor;simp_all
   .intro h; cases x; simp_all
  grind [Instr.sameNow,MapKept.bytes_beq]
 .cases h
theorem Yp (e:MapEntry) (es:List MapEntry):uu (e::es)=e.key::e.val::uu es:=rfl
theorem aMU {d:TypeDesc} (hd:match s with | none=>d = .string | some kd=>d = .int kd) {q:PV} {u:Value} (hu:Rep M B q u):∀ {L:bZZ} {es:List MapEntry} {r:Option PV} (i:Nat),ay M B L (uu es)->xQ s L q=some r ->
 (r=none/\Instr.findNow d u es i=some none)\/∃ (p:PV) (j:Nat) (e:MapEntry),r=some p/\Instr.findNow d u es i=some (some (i+j,e.val))/\Rep M B p e.val
 | L,[],r,i,h,hg=>by
  have:L = []:=by cases L with | nil=>rfl | cons p L=>obtain ⟨_,_,e,_⟩:=cO.1 h; cases e
  subst this;simp[xQ] at hg; subst hg;exact .inl ⟨rfl,rfl⟩
 | L,e::es,r,i,h,hg=>by
  rw[Yp] at h;match L,h with
  | k::v::L,h =>
   obtain ⟨a,l1,e1,rk,h⟩:=cO.1 h;injection e1 with e1 e2; subst e1; subst e2
   obtain ⟨b,l2,e1,rv,h⟩:=cO.1 h;injection e1 with e1 e2; subst e1; subst e2
   rw[xQ] at hg;split at hg
   .rename_i he;cases hg;obtain ⟨h1,_⟩:=YZ hd he hu rk;exact .inr ⟨v,0,e,rfl,by simp[Instr.findNow,h1],rv⟩
   .rename_i he;obtain ⟨h1,_⟩:=YZ hd he hu rk;rcases aMU hd hu (i+1) h hg with ⟨g1,g2⟩ | ⟨p,j,e',g1,g2,g3⟩
    grind [Instr.findNow]
    .exact .inr ⟨p,j+1,e',g1,by grind [Instr.findNow],g3⟩
   .cases hg
  | [],h=>rw[dW] at h; cases h
  | [p],h=>obtain ⟨_,_,e1,_,h⟩:=cO.1 h; rw[dW] at h; simp_all
def fv (d:TypeDesc) (u:Value):List MapEntry->Option (Option Value)
 | []=>some none
 | e::es=>match Instr.sameNow d u e.key with
  | some true=>some (some e.val)
  | some false=>fv d u es
  | none=>none
theorem Yo {d:TypeDesc} {u:Value}:∀ (es:List MapEntry) (i:Nat),(Instr.findNow d u es i).map (fun o=>o.map (·.2))=fv d u es
 | [],i=>rfl
 | e::es,i=>by
  simp only[Instr.findNow,fv];cases Instr.sameNow d u e.key with
  | none=>rfl
  | some b=>cases b with
   | true=>rfl
   | false=>exact Yo es (i+1)
theorem TP {d:TypeDesc} {u:Value} (r:List MapEntry):∀ (l:List MapEntry),fv d u (l ++ r)=match fv d u l with | some none=>fv d u r | x=>x
 | []=>rfl
 | e::l=>by
  rw[lI];simp only[fv];cases Instr.sameNow d u e.key with
  | none=>rfl
  | some b=>cases b with
   | true=>rfl
   | false=>exact TP r l
theorem aCK {u k:ByteArray}:Instr.sameNow .string (.string u) (.string k)=some (u.data.toList==k.data.toList):=by
 simp only[Instr.sameNow,a4J];rw[a4C,a4G,uH];constructor;simp_all
 .intro h; cases u; simp_all
theorem UY (e x:MapEntry) (l:List MapEntry):uO e (x::l)=if Uk e.key x.key then e::x::l else x::uO e l:=rfl
def Bc (d:TypeDesc) (u:Value):Prop:=(d = .string/\tJ u=true)\/((∃ kd,d = .int kd)/\tJ u=false)
theorem aO' {d:TypeDesc} (hd:match s with | none=>d = .string | some kd=>d = .int kd) {q:PV} {u:Value} (hq:yJ s q=true) (hu:Rep M B q u):Bc d u:=by
 unfold yJ at hq;split at hq
 .rw[dw.1 hu]; exact .inr ⟨⟨_,hd⟩,rfl⟩
 .rw[iq.1 hu]; exact .inl ⟨hd,rfl⟩
 .cases hq
theorem FM {u:Value} (h:tJ u=true):∃ a,u = .string a:=by cases u<;>first | exact ⟨_,rfl⟩ | (simp[tJ] at h)
theorem aCJ {d:TypeDesc} {u k:Value} {kd:IntKind} (hd:d = .int kd) (hk:tJ k=true):Instr.sameNow d u k=none:=by subst hd; obtain ⟨a,rfl⟩:=FM hk; cases u<;>rfl
theorem aIA {d:TypeDesc} {u:Value} (hd:Bc d u) (he:tJ e.key=true):∀ {l:List MapEntry},(l.all fun x=>tJ x.key)=true->(l.any fun x=>GK e.key x.key)=false->fv d u (uO e l)=fv d u (l ++ [e])
 | [],_,_=>rfl
 | x::l,h1,h2=>by
  simp only[BC,bI] at h1;simp only[X7,aDX] at h2;unfold uO;rcases hd with ⟨rfl,hu⟩ | ⟨⟨kd,rfl⟩,hu⟩
  .obtain ⟨a,rfl⟩:=FM hu;obtain ⟨b,hb⟩:=FM he;split
   ·
    have key:∀ {l:List MapEntry},(l.all fun x=>tJ x.key)=true->(l.any fun x=>GK e.key x.key)=false->fv .string (.string a) (e::l)=fv .string (.string a) (l ++ [e]):=fun {l} k1 k2=>by
     rw[TP];simp only[fv,hb,aCK];by_cases hab:a.data.toList=b.data.toList
     .have hn:fv .string (.string a) l=some none:=by
       clear h1 h2;induction l with
       | nil=>rfl
       | cons y l ih =>simp only[BC,bI] at k1;simp only[X7,aDX] at k2;obtain ⟨c,hc⟩:=FM k1.1;have k3:=k2.1;rw[hb,hc] at k3;simp only[GK,qc,ne_eq] at k3;simp only[fv,hc,aCK];rw[show (a.data.toList==c.data.toList)=false by rw[qc,hab]; exact k3];exact ih k1.2 k2.2
      rw[hn,show (a.data.toList==b.data.toList)=true by simp[hab]]
     .rw[show (a.data.toList==b.data.toList)=false from qc.2 hab];cases fv .string (.string a) l with
      | none=>rfl
      | some o=>cases o<;>rfl
    exact key (l:=x::l) (by simp only[BC,bI]; exact h1) (by simp only[X7,aDX]; exact h2)
   .rw[lI];simp only[fv];rw[aIA (.inl ⟨rfl,rfl⟩) he h1.2 h2.2]
  .have hx:Instr.sameNow (.int kd) u x.key=none:=aCJ rfl h1.1;have KR:Instr.sameNow (.int kd) u e.key=none:=aCJ rfl he;split
   .rw[lI]; simp only[fv,hx,KR]
   .rw[lI]; simp only[fv,hx]
theorem aXI {d:TypeDesc} {u:Value} (hd:Bc d u) (l:List MapEntry) (e:MapEntry):fv d u (H5 l e)=fv d u (l ++ [e]):=by grind [H5,aIA]
theorem foldl_snoc (es:List MapEntry) (e:MapEntry):qi (es ++ [e])=H5 (qi es) e:=by grind [qi]
theorem aUN {P:List MapEntry->Prop} (h0:P []) (h1:∀ l e,P l->P (l ++ [e])) (l:List MapEntry):P l:=by
 have:∀ l:List MapEntry,P l.reverse:=fun l=>by
  induction l with
  | nil=>exact h0
  | cons e l ih=>rw[List.reverse_cons]; simp_all
 have h:=this l.reverse;rwa [List.reverse_reverse] at h
theorem YK {d:TypeDesc} {u:Value} (hd:Bc d u) (es:List MapEntry):fv d u (qi es)=fv d u es:=by refine aUN (P:=fun es=>fv d u (qi es)=fv d u es) rfl (fun l e ih => ?_) es;rw[foldl_snoc,aXI hd,TP,TP,ih]
theorem bHV {d:TypeDesc} (hd:match s with | none=>d = .string | some kd=>d = .int kd) {q:PV} {u:Value} (hkd:Bc d u) (hu:Rep M B q u) {es:List MapEntry} {r:Option PV} (i:Nat) (h:ay M B L (uu (qi es))) (hg:xQ s L q=some r) :
 (r=none/\Instr.findNow d u es i=some none)\/∃ (p:PV) (j:Nat) (v:Value),r=some p/\Instr.findNow d u es i=some (some (j,v))/\Rep M B p v:=by
 have e:=YK hkd es;rw[<- Yo es i,<- Yo (qi es) 0] at e;rcases aMU hd hu 0 h hg with ⟨h1,h2⟩ | ⟨p,j,e',h1,h2,h3⟩
 .rw[h2] at e;refine .inl ⟨h1,?_⟩;cases hf:Instr.findNow d u es i with
  | none=>rw[hf] at e; cases e
  | some o=>cases o with
   | none=>rfl
   | some x=>rw[hf] at e; cases e
 .rw[h2] at e;cases hf:Instr.findNow d u es i with
  | none=>rw[hf] at e; cases e
  | some o=>cases o with
   | none=>rw[hf] at e; cases e
   | some x =>rw[hf] at e;grind
def lC (d:TypeDesc) (u y:Value):List MapEntry->List MapEntry
 | [] => []
 | e::es=>match Instr.sameNow d u e.key with
  | some true => { e with key:=u,val:=y }::es
  | _=>e::lC d u y es
theorem aR1 {d:TypeDesc} {u y:Value}:∀ (es:List MapEntry) (i j:Nat) (v:Value),Instr.findNow d u es i=some (some (i+j,v))->es.modify j (fun e => { e with key:=u,val:=y })=lC d u y es/\∃ e,es[j]? = some e/\Instr.sameNow d u e.key=some true
 | [],i,j,v,h=>by cases h
 | e::es,i,j,v,h=>by
  simp only[Instr.findNow] at h;cases hs:Instr.sameNow d u e.key with
  | none=>rw[hs] at h; cases h
  | some b =>
   rw[hs] at h;cases b with
   | true =>grind [lC]
   | false =>
    have hle:∀ (es:List MapEntry) (i k:Nat) (v:Value),Instr.findNow d u es i=some (some (k,v))->i<=k:=by
     intro es;induction es with
     | nil=>intro i k v h; cases h
     | cons x es ih =>grind [Instr.findNow]
    have:=hle es (i+1) (i+j) v h;obtain ⟨j',rfl⟩:∃ j',j=j'+1:=⟨j-1,by omega⟩;obtain ⟨h1,e',h2,h3⟩:=aR1 es (i+1) j' v (by rw[show i+1+j'=i+(j'+1) by omega]; exact h);refine ⟨?_,e',by grind,h3⟩;simp only[lC,hs];rw[<- h1]; rfl
theorem aA1 (d:TypeDesc) (u y:Value) (f:Value->Bool) (hf:∀ k,Instr.sameNow d u k=some true->f u=f k):∀ (l:List MapEntry),((lC d u y l).all fun x=>f x.key)=(l.all fun x=>f x.key)/\((lC d u y l).any fun x=>f x.key)=(l.any fun x=>f x.key)
 | []=>⟨rfl,rfl⟩
 | e::l=>by obtain ⟨h1,h2⟩:=aA1 d u y f hf l;grind [lC]
theorem same_eq {d:TypeDesc} {u k:Value} (hd:Bc d u) (h:Instr.sameNow d u k=some true):u=k:=by
 rcases hd with ⟨rfl,hu⟩ | ⟨⟨kd,rfl⟩,hu⟩
 .obtain ⟨a,rfl⟩:=FM hu;cases k<;>simp only[Instr.sameNow,a4J,reduceCtorEq] at h
  grind [MapKept.bytes_beq]
 .cases u<;>cases k<;>simp only[Instr.sameNow,reduceCtorEq] at h
  simp_all
theorem aA2 {d:TypeDesc} {u y:Value} (r:List MapEntry):∀ {l:List MapEntry} {v:Value},fv d u l=some (some v)->lC d u y (l ++ r)=lC d u y l ++ r
 | [],v,h=>by cases h
 | e::l,v,h=>by
  rw[lI];simp only[fv] at h;simp only[lC];cases hs:Instr.sameNow d u e.key with
  | none=>rw[hs] at h; cases h
  | some b=>rw[hs] at h; cases b with
   | true=>rfl
   | false=>simp only[aA2 r (l:=l) h,lI]
theorem aQW {d:TypeDesc} {u y:Value} {r:List MapEntry}:∀ {l:List MapEntry},fv d u l=some none->lC d u y (l ++ r)=l ++ lC d u y r
 | [],h=>rfl
 | e::l,h=>by
  rw[lI];simp only[fv] at h;simp only[lC];cases hs:Instr.sameNow d u e.key with
  | none=>rw[hs] at h; cases h
  | some b=>rw[hs] at h; cases b with
   | true=>cases h
   | false=>simp only[aQW (l:=l) h,lI]
theorem aQU {d:TypeDesc} {u y:Value} (hd:Bc d u) (hs:Instr.sameNow d u e.key=some false):∀ {l:List MapEntry},lC d u y (uO e l)=uO e (lC d u y l)
 | []=>by simp only[uO,lC,hs]
 | x::l=>by
  rw[UY];split
  .rename_i hlt;simp only[lC,hs];split
   .rename_i hx;rw[same_eq hd hx,UY,aX hlt]
   .rw[UY,aX hlt]
  .rename_i hlt;simp only[lC];split
   .rename_i hx;rw[same_eq hd hx,UY,aV hlt]
   .rw[aQU hd hs,UY,aV hlt]
theorem aQV {d:TypeDesc} {u y:Value} (hd:Bc d u) (hs:Instr.sameNow d u e.key=some true):∀ {l:List MapEntry},fv d u l=some none->lC d u y (uO e l)=uO { e with key:=u,val:=y } l
 | [],_=>by simp only[uO,lC,hs]
 | x::l,h=>by
  simp only[fv] at h;unfold uO;split
  .rename_i hlt;rw[same_eq hd hs,aX hlt];simp only[lC,show Instr.sameNow d e.key e.key=some true by rw[same_eq hd hs] at hs; exact hs]
  .rename_i hlt;cases hx:Instr.sameNow d u x.key with
   | none=>rw[hx] at h; cases h
   | some b=>rw[hx] at h; cases b with
    | true=>cases h
    | false =>simp only[lC,hx];rw[aQV hd hs h,same_eq hd hs,aV hlt]
theorem aZJ {d:TypeDesc} {u y:Value} (hd:Bc d u) (es:List MapEntry):∀ v,fv d u es=some (some v)->qi (lC d u y es)=lC d u y (qi es):=by
 refine aUN (P:=fun es=>∀ v,fv d u es=some (some v)->qi (lC d u y es)=lC d u y (qi es)) (fun v h=>by cases h) (fun l e ih v h => ?_) es;have hk:∀ k,Instr.sameNow d u k=some true->tJ u=tJ k:=fun k hk=>by rw[same_eq hd hk]
 have hq:∀ (q:Value) k,Instr.sameNow d u k=some true->GK q u=GK q k:=fun q k hk=>by rw[same_eq hd hk]
 rw[TP] at h;cases hl:fv d u l with
 | none=>rw[hl] at h; cases h
 | some o =>
  cases o with
  | some x =>
   rw[aA2 [e] hl,foldl_snoc,foldl_snoc,ih x hl];have hc:fv d u (qi l)=some (some x):=by rw[YK hd,hl]
   unfold H5;rw[(aA1 d u y tJ hk (qi l)).1,(aA1 d u y (GK e.key) (hq e.key) (qi l)).2];split
   .rename_i hcond;simp only[bI,BA] at hcond;refine (aQU hd ?_).symm;cases hs:Instr.sameNow d u e.key with
    | none =>
     exfalso;rcases hd with ⟨rfl,hu⟩ | ⟨⟨kd,rfl⟩,hu⟩
     .obtain ⟨a,rfl⟩:=FM hu;obtain ⟨b,hb⟩:=FM hcond.1.1;rw[hb] at hs; cases hs
     ·
      have:∀ {l:List MapEntry},(l.all fun x=>tJ x.key)=true->∀ v,fv (.int kd) u l≠some (some v):=fun {l} h1 v h2=>by
       cases l with
       | nil=>cases h2
       | cons z l =>grind [fv,aCJ]
      simp_all
    | some b =>
     cases b with
     | false=>rfl
     | true =>
      exfalso;have hue:=same_eq hd hs;have:∀ {l:List MapEntry} {v:Value},fv d u l=some (some v)->(l.any fun x=>GK e.key x.key)=false->tJ e.key=true->False:=fun {l v}=>by
       induction l with
       | nil=>intro h; cases h
       | cons z l ih =>grind [fv,FM,GK]
      grind
   grind [aA2]
  | none =>rw[hl] at h;grind [fv,YK,aQW,foldl_snoc,lC,same_eq,H5,aQV]
theorem aNF {d:TypeDesc} (hd:match s with | none=>d = .string | some kd=>d = .int kd) {q:PV} {u:Value} (hu:Rep M B q u):∀ {L:bZZ} {es:List MapEntry},ay M B L (uu es)->rZ s L q=true ->
 (tK s L q=true/\∃ v,fv d u es=some (some v))\/(tK s L q=false/\fv d u es=some none)
 | L,[],h,hg=>by
  have:L = []:=by cases L with | nil=>rfl | cons p L=>obtain ⟨_,_,e,_⟩:=cO.1 h; cases e
  subst this;exact .inr ⟨rfl,rfl⟩
 | L,e::es,h,hg=>by
  rw[Yp] at h;match L,h with
  | k::v::L,h =>
   obtain ⟨a,l1,e1,rk,h⟩:=cO.1 h;injection e1 with e1 e2; subst e1; subst e2
   obtain ⟨b,l2,e1,rv,h⟩:=cO.1 h;injection e1 with e1 e2; subst e1; subst e2
   rw[rZ,bI] at hg;obtain ⟨hg1,hg⟩:=hg;cases he:eqK s q k with
   | none=>rw[he] at hg1; cases hg1
   | some r =>
    obtain ⟨h1,h2⟩:=YZ hd he hu rk;cases r with
    | true=>exact .inl ⟨by simp only[tK,he],e.val,by simp only[fv,h1]⟩
    | false =>simp only[tK,he,fv,h1];exact aNF hd hu h hg
  | [],h=>rw[dW] at h; cases h
  | [p],h=>obtain ⟨_,_,e1,_,h⟩:=cO.1 h; rw[dW] at h; simp_all
theorem aR0 {d:TypeDesc} (hd:match s with | none=>d = .string | some kd=>d = .int kd) {q x:PV} {u y:Value} (hu:Rep M B q u) (hy:Rep M B x y):∀ {L:bZZ} {es:List MapEntry},ay M B L (uu es)->rZ s L q=true ->
 ay M B (nU s L q x) (uu (lC d u y es))
 | L,[],h,hg=>by
  have:L = []:=by cases L with | nil=>rfl | cons p L=>obtain ⟨_,_,e,_⟩:=cO.1 h; cases e
  subst this;exact h
 | L,e::es,h,hg=>by
  rw[Yp] at h;match L,h with
  | k::v::L,h =>
   obtain ⟨a,l1,e1,rk,h⟩:=cO.1 h;injection e1 with e1 e2; subst e1; subst e2
   obtain ⟨b,l2,e1,rv,h⟩:=cO.1 h;injection e1 with e1 e2; subst e1; subst e2
   rw[rZ,bI] at hg;obtain ⟨hg1,hg⟩:=hg;cases he:eqK s q k with
   | none=>rw[he] at hg1; cases hg1
   | some r =>
    obtain ⟨h1,h2⟩:=YZ hd he hu rk;cases r with
    | true =>simp only[nU,he,lC,h1];exact cO.2 ⟨u,_,rfl,hu,cO.2 ⟨y,_,rfl,hy,h⟩⟩
    | false =>simp only[nU,he,lC,h1];exact cO.2 ⟨_,_,rfl,rk,cO.2 ⟨_,_,rfl,rv,aR0 hd hu hy h hg⟩⟩
  | [],h=>rw[dW] at h; cases h
  | [p],h=>obtain ⟨_,_,e1,_,h⟩:=cO.1 h; rw[dW] at h; simp_all
theorem bLU {q k:PV} {u v:Value} (he:eqK s q k=some r) (hu:Rep M B q u) (hv:Rep M B k v):oU q k=Uk u v:=by
 unfold eqK at he;split at he
 .rw[dw.1 hu,dw.1 hv]; rfl
 .rw[iq.1 hu,iq.1 hv]; rfl
 .cases he
theorem aO1 {q x:PV} {e0:MapEntry} (hu:Rep M B q e0.key) (hy:Rep M B x e0.val):∀ {L:bZZ} {es:List MapEntry},ay M B L (uu es)->rZ s L q=true->ay M B (oZ L q x) (uu (uO e0 es))
 | L,[],h,hg=>by
  have:L = []:=by cases L with | nil=>rfl | cons p L=>obtain ⟨_,_,e,_⟩:=cO.1 h; cases e
  subst this;exact cO.2 ⟨_,_,rfl,hu,cO.2 ⟨_,_,rfl,hy,dW.2 rfl⟩⟩
 | L,e::es,h,hg=>by
  rw[Yp] at h;match L,h with
  | k::v::L,h =>
   have h0:=h;obtain ⟨a,l1,e1,rk,h⟩:=cO.1 h;injection e1 with e1 e2; subst e1; subst e2
   obtain ⟨b,l2,e1,rv,h⟩:=cO.1 h;injection e1 with e1 e2; subst e1; subst e2
   rw[rZ,bI] at hg;obtain ⟨hg1,hg⟩:=hg;cases he:eqK s q k with
   | none=>rw[he] at hg1; cases hg1
   | some r =>
    have hlt:=bLU he hu rk;unfold uO;simp only[oZ,hlt];cases Uk e0.key e.key with
    | true=>exact cO.2 ⟨_,_,rfl,hu,cO.2 ⟨_,_,rfl,hy,h0⟩⟩
    | false=>exact cO.2 ⟨_,_,rfl,rk,cO.2 ⟨_,_,rfl,rv,aO1 hu hy h hg⟩⟩
  | [],h=>rw[dW] at h; cases h
  | [p],h=>obtain ⟨_,_,e1,_,h⟩:=cO.1 h; rw[dW] at h; simp_all
theorem aNY (he:tJ e.key=false):∀ l:List MapEntry,uO e l=l ++ [e]
 | []=>rfl
 | x::l=>by
  have:Uk e.key x.key=false:=by cases hk:e.key<;>first | rfl | grind [tJ]
  unfold uO;rw[this,aV (by decide),aNY he l]; rfl
theorem aXJ {d:TypeDesc} (hd:match s with | none=>d = .string | some kd=>d = .int kd) {q:PV} {e0:MapEntry} (hkd:Bc d e0.key) (hu:Rep M B q e0.key) {es:List MapEntry} (h:ay M B L (uu es)) (hg:rZ s L q=true) (hf:fv d e0.key es=some none):H5 es e0=uO e0 es:=by
 unfold H5;split
 .rfl
 .rename_i hc;cases hs:tJ e0.key with
  | false=>grind [aNY]
  | true =>
   exfalso;apply hc;obtain ⟨b,hb⟩:=FM hs;have hds:d = .string:=by
    rcases hkd with ⟨h,_⟩ | ⟨_,h⟩
    .exact h
    simp_all
   subst hds;clear hc h hg hu;rw[hb] at hf ⊢;simp only[bI,BA,tJ,true_and];induction es with
   | nil=>simp
   | cons z es ih =>
    simp only[fv] at hf;cases hz:Instr.sameNow .string (.string b) z.key with
    | none=>rw[hz] at hf; cases hf
    | some r=>rw[hz] at hf; cases r with
     | true=>cases hf
     | false =>
      obtain ⟨i1,i2⟩:=ih hf;have hzs:∃ c,z.key = .string c:=by
       cases hk:z.key<;>rw[hk] at hz<;>simp[Instr.sameNow] at hz
       simp
      obtain ⟨c,hc⟩:=hzs;rw[hc,aCK] at hz;simp only[a4J] at hz;refine ⟨by rw[BC,hc,i1]; rfl,?_⟩;rw[X7,hc,i2];show ((b.data.toList==c.data.toList)||false)=false;rw[hz]; rfl
theorem bQK {d:TypeDesc} (hd:match s with | none=>d = .string | some kd=>d = .int kd) {q x:PV} {u y:Value} (hkd:Bc d u) (hu:Rep M B q u) (hy:Rep M B x y) {es:List MapEntry} (h:ay M B L (uu (qi es))) (hg:rZ s L q=true) :
 (Instr.findNow d u es 0=some none/\∀ b,ay M B (jo s L q x) (uu (qi (es ++ [{ key:=u,val:=y,born:=b }])))) \/
 ∃ (j:Nat) (e:MapEntry),Instr.findNow d u es 0=some (some (0+j,e.val))/\es[j]? = some e/\e.key=u/\ay M B (jo s L q x) (uu (qi (es.modify j fun e => { e with key:=u,val:=y }))):=by
 have e0:=Yo (d:=d) (u:=u) es 0;have ec:=YK hkd es;rcases aNF hd hu h hg with ⟨h1,v,h2⟩ | ⟨h1,h2⟩
 .rw[ec] at h2;rw[h2] at e0;cases hf:Instr.findNow d u es 0 with
  | none=>rw[hf] at e0; cases e0
  | some o=>cases o with
   | none=>rw[hf] at e0; cases e0
   | some z =>
    obtain ⟨j,v'⟩:=z;have hf0:Instr.findNow d u es 0=some (some (0+j,v')):=by rw[hf,qK]
    obtain ⟨g1,e,g2,g3⟩:=aR1 (y:=y) es 0 j v' hf0;have hv:v'=e.val:=by
     have key:∀ (es:List MapEntry) (i j:Nat) (v:Value) (e:MapEntry),Instr.findNow d u es i=some (some (i+j,v))->es[j]? = some e->v=e.val:=by
      intro es;induction es with
      | nil=>simp
      | cons x es ih =>
       intro i j v e h1 h2;simp only[Instr.findNow] at h1;cases hs:Instr.sameNow d u x.key with
       | none=>rw[hs] at h1; cases h1
       | some b=>rw[hs] at h1; cases b with
        | true =>simp_all
        | false =>
         cases j with
         | zero =>
          exfalso;have hle:∀ (es:List MapEntry) (i k:Nat) (v:Value),Instr.findNow d u es i=some (some (k,v))->i<=k:=by
           intro es;induction es with
           | nil=>intro i k v h; cases h
           | cons x es ih =>grind [Instr.findNow]
          have:=hle es (i+1) (i+0) v h1;omega
         | succ j=>exact ih (i+1) j v e (by rw[show i+1+j=i+(j+1) by omega]; exact h1) (by grind)
     exact key es 0 j v' e hf0 g2
    grind [same_eq,aZJ,jo,aR0]
 .have hn:=h2;rw[ec] at h2;rw[h2] at e0;cases hf:Instr.findNow d u es 0 with
  | none=>rw[hf] at e0; cases e0
  | some o=>cases o with
   | some z=>rw[hf] at e0; cases e0
   | none =>refine .inl ⟨rfl,fun b => ?_⟩;rw[foldl_snoc,aXJ (e0 := { key:=u,val:=y,born:=b }) hd hkd hu h hg hn];grind [jo,aO1]
theorem aQR (hI:Inv n M B out Z a.tmps w) {i:Nat} {v:Value} (hv:Rep M B (.dA 0 i) v) (hcs:Z.h[i]? = some (some cs)) (hin:Ad cs=some (b,L)):
 ∃ c es ck,B[i]? = some c/\v = .map (some c.1)/\w.heap[c.1]? = some (.map es ck)/\ay M (V8 b B) L (uu (qi es.toList)):=by
 obtain ⟨c,hc,hb⟩:=Fv.1 hv;obtain ⟨hb2,rfl⟩:=hb.1 rfl;obtain ⟨vs,ty,r1,o2,o3,o4,o5⟩:=hI.heap.at hcs hc;have hty:ty=0:=by rw[o2.2,hb2]
 subst hty;rw[aQO hin] at o4;obtain ⟨u,h1,h2,_⟩:=o4 0 (oW b L) rfl;rcases aTE r1 with ⟨es,ck,hrow,rfl⟩ | ⟨s,pos,hrow,rfl⟩
 rotate_left
 .simp at h1; subst h1;obtain ⟨f,e1,_⟩:=a2W.1 h2;unfold I5 at e1;injection e1 with e1 _ _
  injection e1 with e1
  exact absurd e1 (by decide)
 simp at h1; subst h1;obtain ⟨f,e1,h3⟩:=a2W.1 h2;grind [IM]
theorem aC1 {M:Mem} {B:aP} {s:ByteArray} {p:Int} {v:Value}:Rep M B (zQ s p) v↔v = .func (.yield XZ) #[.string s,.int .i64 p] #[]:=by
 refine zn.trans ⟨?_,?_⟩
 .rintro ⟨f,c,rfl,h1,h2⟩;rw[dW] at h2;obtain ⟨u1,l1,e1,g1,h1⟩:=cO.1 h1;obtain ⟨u2,l2,rfl,g2,h1⟩:=cO.1 h1;rw[dW] at h1; subst h1;rw[iq.1 g1,dw.1 g2] at e1;have hc:c = #[]:=by rw[<- sK]; exact h2
  have hf:f = #[.string s,.int .i64 p]:=by rw[<- sK]; exact e1
  rw[hc,hf]
 .rintro rfl;exact ⟨_,_,rfl,cO.2 ⟨_,_,rfl,iq.2 rfl,cO.2 ⟨_,_,rfl,dw.2 rfl,dW.2 rfl⟩⟩,dW.2 rfl⟩
theorem bJH (hI:Inv n M B out Z a.tmps w) {i:Nat} {v:Value} (hv:Rep M B (.dA DD i) v) {s:ByteArray} {p:Int} (hcs:Z.h[i]? = some (some cs)) (hin:PK cs=some (s,p)):
 ∃ (c:Nat×Nat×TypeId) (pos:Nat),B[i]? = some c/\v = .pointer (some ⟨c.1,0,none⟩)/\w.heap[c.1]? = some (.stringIter s pos)/\p=pos:=by
 obtain ⟨c,hc,hb⟩:=Fv.1 hv;obtain ⟨hb2,rfl⟩:c.2=(1,0)/\v = .pointer (some ⟨c.1,0,none⟩):=hb.2 (by decide);obtain ⟨vs,ty,r1,o2,o3,o4,o5⟩:=hI.heap.at hcs hc;have hty:ty=0:=by rw[o2.2,hb2]
 subst hty;rw[aOB hin] at o4;obtain ⟨u,h1,h2,_⟩:=o4 0 (zQ s p) rfl;have h2:=aC1.1 h2;rcases aTE r1 with ⟨es,ck,hrow,rfl⟩ | ⟨s',pos,hrow,rfl⟩
 .simp at h1; subst h1;unfold IM at h2;injection h2 with e1 _ _
  injection e1 with e1
  exact absurd e1 (by decide)
 grind [I5]
theorem bQL (hI:Inv n M B out Z a.tmps w) {P:Program} {t:TypeId} (ht:uP P t=true) (s:ByteArray) :
 (Instr.range t (.string s)).run P w = .ok (.pointer (some ⟨w.heap.size,0,none⟩)) (w.alloc (.stringIter s 0))/\Pre n out M B Z a.tmps w M (B ++ [(w.heap.size,1,0)]) { Z with h:=Z.h ++ [some [zQ s 0]] } (w.alloc (.stringIter s 0)) (.dA DD Z.h.length) (.pointer (some ⟨w.heap.size,0,none⟩)):=by
 have hu:P.underlying t=some .string:=by grind [uP]
 refine ⟨run_range_string w t s hu,?_⟩;have hG:=hI.aR7 (.stringIter s 0) #[I5 s 0] 0 (aC9 (Qz w _)) [zQ s 0] (fK _) (fun j p hj=>by
  match j,hj with
  | 0,hj =>simp at hj; subst hj;exact ⟨I5 s 0,rfl,aC1.2 rfl,fJ rfl,rfl,fun b=>dP rfl _ _⟩
  | j+1,hj=>simp at hj)
 exact Pre.Ah hG (Fv.2 ⟨(w.heap.size,1,0),by rw[hI.heap.1]; simp,fun h=>absurd h (by decide),fun _=>⟨rfl,rfl⟩⟩) rfl
theorem bMV (hI:Inv n M B out Z a.tmps w) {P:Program} {i:Nat} {v:Value} (ty:TypeId) (hv:Rep M B (.dA DD i) v) {s:ByteArray} {p:Int} (hcs:Z.h[i]? = some (some cs)) (hin:PK cs=some (s,p)):
 (p<(s.size:Int)->∃ w',(Instr.next v true ty).run P w = .ok (.tuple #[.bool true,.int .i64 p,.int .i32 (a0W s p)]) w'/\Good n out M B Z a.tmps w M B { Z with h:=Z.h.set i (some [zQ s (PL s p)]) } a.tmps w') /\
 (¬ p<(s.size:Int)->(Instr.next v true ty).run P w = .ok (.tuple #[.bool false]) w):=by
 obtain ⟨c,pos,hc,rfl,hrow,rfl⟩:=bJH hI hv hcs hin;have hlt:c.1<w.heap.size:=(yj.1 hrow).1;refine ⟨fun h => ?_,fun h=>Lib.run_next_end_at w c.1 s pos ty hrow (by omega)⟩;refine ⟨_,Lib.run_next_any_at w c.1 s pos ty hrow (by omega),?_⟩;have hcs1:=aOB hin;subst hcs1;obtain ⟨k1,k2,k3⟩:=hI.setRow (i:=i) (j:=0) (p:=zQ s (PL s (pos:Int))) (v:=I5 s (pos+(Utf8.decode s pos).2)) hcs hc (aC9 hrow) (by simp) (aC1.2 rfl) (fJ rfl) rfl (fun b=>by rw[dP rfl]; exact hI.cnt b) (fun b _=>dP rfl _ _) (w':=w.iterAt c.1 s (pos+(Utf8.decode s pos).2)) (fun b hb=>Lib.iterAt_other w c.1 b s _ hb) (by rw[aC9 (Lib.iterAt_heap w c.1 s pos _ hrow)]; rfl) rfl rfl rfl (Lib.iterAt_size w c.1 s _);exact ⟨k1,dH.refl _ _,k3,fun b _=>by have:=k2 b; rw[dP rfl] at this; exact this⟩
theorem bM1 (hI:Inv n M B out Z a.tmps w) (t:TypeId) (b:Bool) {P:Program} :
 (Instr.makeMap t none).run P w = .ok (.map (some w.heap.size)) (w.alloc (.map #[] 0))/\Pre n out M B Z a.tmps w M (B ++ [(w.heap.size,1,0)]) { Z with h:=Z.h ++ [some [oW b []]] } (w.alloc (.map #[] 0)) (.dA 0 Z.h.length) (.map (some w.heap.size)):=by
 refine ⟨by rfl,?_⟩;have hG:=hI.aR7 (.map #[] 0) #[IM #[]] 0 (aCA (Qz w _)) [oW b []] (fK _) (fun j p hj=>by
  match j,hj with
  | 0,hj =>simp at hj; subst hj;exact ⟨IM #[],rfl,a2W.2 ⟨_,rfl,dW.2 rfl⟩,fJ (Pi _ _),rfl,fun b=>dP (Pi _ _) _ _⟩
  | j+1,hj=>simp at hj)
 refine Pre.Ah hG (Fv.2 ⟨(w.heap.size,1,0),by rw[hI.heap.1]; simp,fun _=>⟨rfl,rfl⟩,fun h=>absurd rfl h⟩) rfl
theorem bLR (hI:Inv n M B out Z a.tmps w) {P:Program} {t:TypeId} {z:PV} (ht:Bq P t=some (s,z)) {i:Nat} {v u:Value} (hv:Rep M B (.dA 0 i) v) (hcs:Z.h[i]? = some (some cs)) (hin:Ad cs=some (b,L)) 
 {q:PV} (hu:Rep M B q u) (hq:yJ s q=true) {r:Option PV} (hg:xQ s L q=some r) (ok:Bool) :
 ∃ x,(Instr.lookup t v u ok).run P w = .ok x w/\Rep M B (Bj ok z r) x/\(Bj ok z r).own=false:=by
 obtain ⟨k,e,zv,i',d,h1,h2,h3,h4,h5,rfl,h6⟩:=aQQ ht;obtain ⟨c,es,ck,_,rfl,hrow,hL⟩:=aQR hI hv hcs hin;have hL:ay M B L (uu (qi es.toList)):=by
  cases b with
  | true=>exact hL.mono (dH.zero _ _)
  | false=>exact hL
 have hk:=aOY h3 hq hu;have hck:=MapKept.run_checkKey (P:=P) (w:=w) h2 hk es.isEmpty 9999;obtain ⟨rz,oz⟩:=bQY (M:=M) (B:=B) h6;have hzr:(zeroValue e).run P w = .ok zv w:=by simp[zeroValue,typeInfo,h4,h5]
 rcases bHV h3 (aO' h3 hq hu) hu 0 hL hg with ⟨rfl,hf⟩ | ⟨p,j,e',rfl,hf,hp⟩
 .have hfk:=aE7 (P:=P) (w:=w) h2 hf;cases ok with
  | true=>exact ⟨.tuple #[zv,.bool false],by simp[Instr.lookup,fG h1,XG hrow,hck,hfk,hzr,Result.andThen],tq.2 ⟨_,rfl,cO.2 ⟨_,_,rfl,rz,cO.2 ⟨_,_,rfl,kE.2 rfl,dW.2 rfl⟩⟩⟩,rfl⟩
  | false=>exact ⟨zv,by simp[Instr.lookup,fG h1,XG hrow,hck,hfk,hzr,Result.andThen],rz,oz⟩
 .have hfk:=aE7 (P:=P) (w:=w) h2 hf;cases ok with
  | true=>exact ⟨.tuple #[e',.bool true],by simp[Instr.lookup,fG h1,XG hrow,hck,hfk,Result.andThen],tq.2 ⟨_,rfl,cO.2 ⟨_,_,rfl,ou.2 hp,cO.2 ⟨_,_,rfl,kE.2 rfl,dW.2 rfl⟩⟩⟩,rfl⟩
  | false=>exact ⟨e',by simp[Instr.lookup,fG h1,XG hrow,hck,hfk,Result.andThen],ou.2 hp,qX _⟩
theorem sameBits_self {d:TypeDesc} {u:Value} (h:MapKept.IsKey d u):Instr.sameBits 10000 u u=true:=by cases d<;>cases u<;>simp_all[MapKept.IsKey,Instr.sameBits,a4G]
theorem aVT (hI:Inv n M B out Z a.tmps w) {P:Program} {t:TypeId} {z:PV} (ht:Bq P t=some (s,z)) {i:Nat} {v u y:Value} (hv:Rep M B (.dA 0 i) v) (hcs:Z.h[i]? = some (some cs)) (hin:Ad cs=some (b,L)) 
 {q x:PV} (hu:Rep M B q u) (hq:yJ s q=true) (hy:Rep M B x y) (hg:rZ s L q=true) (hfl:b=true->x.flat=true) :
 ∃ w',(Instr.mapUpdate t v u y).run P w = .ok () w'/\Good n out M B Z a.tmps w M B { Z with h:=Z.h.set i (some [oW b (jo s L q x)]) } a.tmps w':=by
 obtain ⟨k,e,zv,i',d,h1,h2,h3,h4,h5,rfl,h6⟩:=aQQ ht;obtain ⟨c,es,ck,hc,rfl,hrow,hL⟩:=aQR hI hv hcs hin;have hk:=aOY h3 hq hu;have hck:=MapKept.run_checkKey (P:=P) (w:=w) h2 hk false 9999;have hcs1:=aQO hin;subst hcs1;have hlt:c.1<w.heap.size:=(yj.1 hrow).1;have fin:∀ (es':Array MapEntry) (Sm:Nat),ay M (V8 b B) (jo s L q x) (uu (qi es'.toList))->Good n out M B Z a.tmps w M B { Z with h:=Z.h.set i (some [oW b (jo s L q x)]) } a.tmps { w with heap:=w.heap.setIfInBounds c.1 (.map es' Sm) }:=fun es' Sm hR=>by obtain ⟨g1,g2⟩:=MapKept.heap_set (o' := .map es' Sm) hrow;have hr:Rep M B (oW b (jo s L q x)) (IM es'):=a2W.2 ⟨_,rfl,by omega⟩;obtain ⟨k1,k2,k3⟩:=hI.setRow (i:=i) (j:=0) hcs hc (aCA hrow) (by simp) hr (fJ (Pi _ _)) rfl (fun b=>by rw[dP (Pi _ _)]; exact hI.cnt b) (fun b _=>dP (Pi _ _) _ _) (w' := { w with heap:=w.heap.setIfInBounds c.1 (.map es' Sm) }) (fun b hb=>g2 b hb) (by rw[aCA (w := { w with heap:=w.heap.setIfInBounds c.1 (.map es' Sm) }) g1]; rfl) rfl rfl rfl (by simp);exact ⟨k1,dH.refl _ _,k3,fun b _=>by have:=k2 b; rw[dP (Pi _ _)] at this; exact this⟩
 have hku:q.flat=true:=by
  unfold yJ at hq;split at hq
  .rfl
  .rfl
  .cases hq
 have hu2:Rep M (V8 b B) q u:=by
  cases b with
  | true=>exact hu.flat [] hku
  | false=>exact hu
 have hy2:Rep M (V8 b B) x y:=by
  cases b with
  | true=>exact hy.flat [] (hfl rfl)
  | false=>exact hy
 rcases bQK h3 (aO' h3 hq hu) hu2 hy2 hL hg with ⟨hf,hR⟩ | ⟨j,e',hf,he,hke,hR⟩
 .have hfk:=aE7 (P:=P) (w:=w) h2 hf;exact ⟨_,by simp[Instr.mapUpdate,fG h1,XG hrow,hck,hfk,MapKept.run_setObj_map _ hrow,Result.andThen]; rfl,fin _ _ (by rw[Array.toList_push]; exact hR ck)⟩
 .have hfk:=aE7 (P:=P) (w:=w) h2 hf;rw[qK] at hfk;have hej:es[j]? = some e':=by grind
  have hst:(Instr.keyThatStays (((es[j]?).map (·.key)).getD u) u).run P w = .ok u w:=by rw[hej,XI,Option.getD_some,hke];unfold Instr.keyThatStays;rw[aX (sameBits_self hk)]; rfl
  exact ⟨_,by simp[Instr.mapUpdate,fG h1,XG hrow,hck,hfk,hst,MapKept.run_setObj_map _ hrow,Result.andThen]; rfl,fin _ _ (by rw[Array.toList_modify]; exact hR)⟩
end
section
variable {n:Nat} {out:Nat->Nat} {M:Mem} {B:aP} {Z Z1:ASt} {a:Act} {w:World} {E:AE} {o:Oper} {p:PV}
def aF5 (E:AE) (out:Nat->Nat) (M:Mem) (B:aP) (Z:ASt) (a:Act) (w:World) (o:Oper) (p:PV) (Z1:ASt):Prop :=∃ v w' M' B',((execOp a.eval o).run E.P w = .ok (.value v) w'\/((execOp a.eval o).run E.P w = .ok .skip w'/\o.dst=none))/\Pre E.n out M B Z a.tmps w M' B' Z1 w' p v
theorem wF {P:Program} {ρ:Operand->Value} {o:Oper} {s:Sem Value} {v:Value} {w w':World} (h:execOp ρ o=(do pure (.value (<- s)))) (hr:s.run P w = .ok v w'):(execOp ρ o).run P w = .ok (.value v) w':=by rw[h]; simp[hr]
theorem aUY (hI:Inv E.n M B out Z a.tmps w) (h:(pop E.P Z.rd o.op).map (fun p=>(p,Z))=some (p,Z1)):aF5 E out M B Z a w o p Z1:=by
 cases hp:pop E.P Z.rd o.op with
 | none=>grind
 | some q =>simp[hp] at h;obtain ⟨rfl,rfl⟩:=h;obtain ⟨v,h1,h2,h3⟩:=bPU (fun x q hq=>hI.rd x q hq) hp w hI.mem;exact ⟨v,w,M,B,.inl h1,Pre.plain hI h2 (fun b=>dP h3 _ _) (fJ h3)⟩
theorem bSZ (hI:Inv E.n M B out Z a.tmps w) (hs:bY E o Z=some (p,Z1)) (hside:jg E o Z):aF5 E out M B Z a w o p Z1:=by
 obtain ⟨dst,op,type,pos,after,guard⟩:=o;cases op with
 | move x =>
  simp only[bY] at hs;split at hs
  .cases hx:Z.ev x with
   | none=>simp_all
   | some q =>simp[hx] at hs; obtain ⟨rfl,rfl⟩:=hs;exact ⟨_,w,M,B,.inl rfl,Pre.moved hI hx⟩
  .cases hx:Z.rd x with
   | none=>simp_all
   | some q =>simp[hx] at hs; obtain ⟨rfl,rfl⟩:=hs;obtain ⟨h1,h2⟩:=hI.rd x _ hx;exact ⟨_,w,M,B,.inl rfl,Pre.plain hI h1 (fun b=>dP h2 _ _) (fJ h2)⟩
 | assign x =>
  simp only[bY] at hs;cases hx:Z.ev x with
  | none=>simp_all
  | some q =>simp[hx] at hs; obtain ⟨rfl,rfl⟩:=hs;exact ⟨_,w,M,B,.inl rfl,Pre.moved hI hx⟩
 | alloc t =>
  simp only[bY] at hs;split at hs
  .cases hs
  cases ht:ti E.P t with
  | none=>simp_all
  | some I =>
   simp[ht] at hs; obtain ⟨rfl,rfl⟩:=hs;obtain ⟨vs,h1,h2,h3,h4⟩:=aXO ht w;have hG:=hI.aR6 vs t (Jh (dF E.mu dst) t Z.h.length I.zero) (by rw[aYL,h3]; simp) (fun j p hj=>by
    have base:∀ p,I.zero[j]? = some p->∃ v,vs[j]? = some v/\Rep M (B ++ [(w.heap.size,vs.size,t+1)]) p v/\Tl M w p v/\v.oneCell'=true/\∀ b,bT p v b=0:=fun p hj=>by rw[h3,lL] at hj;grind [Iq,aD3,aAL]
    rcases aYK hj with h | ⟨rfl,rfl,h0,h2',ht0⟩ | ⟨rfl,rfl,h0⟩
    grind
    .obtain ⟨v,hv,hr,ht,ho,_⟩:=base _ h0;have bIG:vs.size=2:=by rw[h3] at h2'; simp_all
     exact ⟨v,hv,Fv.2 ⟨(w.heap.size,vs.size,t+1),by rw[hI.heap.1]; simp,fun h=>absurd h ht0.1,fun _=>aYJ ht0.2 (by rw[bIG]) (.inl (Ip.1 hr))⟩,fJ rfl,ho,fun b=>dP rfl _ _⟩
    .obtain ⟨v,hv,hr,ht,ho,hw0⟩:=base _ h0;obtain ⟨rfl,_⟩:=LC hr;exact ⟨_,hv,a2X.2 ⟨none,0,rfl,fK _,fun h=>absurd rfl h⟩,⟨(fun _ _ _ _ _ e=>by cases e),(fun l A n cap e ev=>by grind),(fun _ _ _ _ _ _ e _=>by cases e)⟩,ho,fun b=>by simp[bT]⟩)
   refine ⟨_,_,_,_,.inl (wF rfl h1),Pre.Ah hG (wO.2 ⟨(w.heap.size,vs.size,t+1),⟨by have:=hI.heap.1; simp[this],by simp⟩,rfl⟩) rfl⟩
 | box t x =>
  simp only[bY] at hs;split at hs
  .cases hx:Z.rd x with
   | none=>simp_all
   | some q =>
    cases hf:OW q with
    | none=>simp_all
    | some e =>
     simp[hx,hf] at hs; obtain ⟨rfl,rfl⟩:=hs;unfold OW at hf;cases hn:q.newCells with
     | none=>simp_all
     | some cs =>
      rw[hn] at hf;simp only at hf;split at hf
      .rename_i hfl;injection hf with hf
       obtain ⟨r1,r2⟩:=hI.rd x _ hx;obtain ⟨h1,h2⟩:=VD hn r1;have hone:=aR5 hn r1;obtain ⟨hG,hfp⟩:=hI.lay (a.eval x).cells t (a.eval x).cells.size (fun v hv=>hone v (by grind));have hM:∀ (j:Nat) u,(a.eval x).cells.toList[j]? = some u->laid M w.heap.size ((a.eval x).cells.toList.take (a.eval x).cells.size) w.heap.size j=some u:=fun j u hu=>by rw[yM (yN hI),aX rfl,mV,aX (by have:=(iO.1 hu).1; omega)]; exact hu
       have hm:=(Ut hI ((a.eval x).cells.toList.take (a.eval x).cells.size)).none;have hloc:Loc (laid M w.heap.size ((a.eval x).cells.toList.take (a.eval x).cells.size)) [] e w.heap.size 0:=by
        have r3:Rep M [] q (a.eval x):=r1.flat [] hfl;obtain ⟨h3,_⟩:=VD hn r3;cases q with
        | agg ds =>subst hf;refine yO.2 (Ey fun j p hj => ?_);obtain ⟨u,hu,hr⟩:=vN h3 hj;exact ⟨u,by rw[qK]; simp_all,hr.mono hm⟩
        | tuple ds=>simp[PV.newCells,PV.one] at hn
        | _ =>subst hf;refine (Bi rfl).2 ⟨a.eval x,hM 0 _ ?_,r3.mono hm⟩;rw[(EL rfl r1).1]; rfl
       exact ⟨.pointer (some ⟨w.heap.size,0,none⟩),_,_,_,.inl (wF (s:=Instr.box t (a.eval x)) rfl (by rfl)),Pre.Ah hG (Am.2 ⟨_,_,rfl,hloc⟩) rfl⟩
      .cases hf
  .cases hx:Z.rd x with
   | none=>simp_all
   | some q =>
    cases hn:q.newCells with
    | none=>simp_all
    | some cs =>simp[hx,hn] at hs; obtain ⟨rfl,rfl⟩:=hs;obtain ⟨r1,r2⟩:=hI.rd x _ hx;obtain ⟨h1,h2⟩:=VD hn r1;have hone:=aR5 hn r1;have hG:=hI.newObj (a.eval x).cells t cs (by have:=oH h1; simp_all) (fun j p hj=>by grind [vN,fJ,dP]);exact ⟨.pointer (some ⟨w.heap.size,0,none⟩),_,_,_,.inl (wF (s:=Instr.box t (a.eval x)) rfl (by rfl)),Pre.Ah hG (wO.2 ⟨(w.heap.size,(a.eval x).cells.size,t+1),⟨by have:=hI.heap.1; simp[this],by simp⟩,rfl⟩) rfl⟩
 | load t x =>
  simp only[bY] at hs;split at hs
  .rename_i I q hI' hq;split at hs
   .split at hs
    .obtain ⟨v,h1,h2⟩:=a9U hI hI' hq hs;exact ⟨v,w,M,B,.inl (wF rfl h1),h2⟩
    .cases hs
   .obtain ⟨v,h1,h2⟩:=a9U hI hI' hq hs;exact ⟨v,w,M,B,.inl (wF rfl h1),h2⟩
  .cases hs
 | store t x y =>
  simp only[bY] at hs;split at hs
  .cases hs
  cases hI':ti E.P t with
  | none=>simp_all
  | some I =>
   cases hq:Z.rd x with
   | none=>simp_all
   | some q =>
    cases hp:Z.ev y with
    | none=>simp_all
    | some p' =>
     cases dst with
     | some d=>simp_all
     | none =>
      simp only[hI',hq,hp] at hs;cases hst:yZ I q p' (Z.clr y) with
      | none=>simp_all
      | some Z2 =>simp[hst] at hs; obtain ⟨rfl,rfl⟩:=hs;obtain ⟨w',M',B',h1,h2⟩:=bT7 hI hI' hq hp hst;refine ⟨undef,w',M',B',.inr ⟨?_,rfl⟩,h2⟩;show (execOp a.eval ⟨none,.store t x y,type,pos,after,guard⟩).run E.P w=_;simp[execOp,h1]
 | buildSlice t len ps =>
  simp only[bY] at hs;split at hs
  .rename_i I qs hT hq;split at hs
   .rename_i es he;split at hs
    .rename_i hc;obtain ⟨l1,l2,l3⟩:=bLI hI hT hq he hc.1 hc.2.1 hc.2.2;split at hs
     .cases hs;obtain ⟨v,w',M',B',h1,h2⟩:=l2;exact ⟨v,w',M',B',.inl (wF rfl h1),h2⟩
     .split at hs
      .split at hs
       .rename_i a8H;cases hs;obtain ⟨v,w',M',B',h1,h2⟩:=l3 a8H;exact ⟨v,w',M',B',.inl (wF rfl h1),h2⟩
       .cases hs
      .cases hs;obtain ⟨v,w',M',B',h1,h2⟩:=l1;exact ⟨v,w',M',B',.inl (wF rfl h1),h2⟩
    .cases hs
   .cases hs
  .cases hs
 | makeSlice t l c =>
  simp only[bY] at hs;split at hs
  .rename_i I k m k' m' hT hl hc;split at hs
   .rename_i hcond;obtain ⟨rfl,h0,h1,hpos,hb⟩:=hcond;obtain ⟨e,i,z,d,hu,jC⟩:=zH hT;have el:=dw.1 (hI.rd l _ hl).1;have ec:=dw.1 (hI.rd c _ hc).1;have hrun:=bM3 (w:=w) hu jC k k' h0 h1 hb;have hex:(execOp a.eval ⟨dst,.makeSlice t l c,type,pos,after,guard⟩).run E.P w = .ok (.value (.slice (some ⟨w.heap.size,0,none⟩) m.toNat m.toNat)) (w.alloc (.cells (madeCells z.cells (m.toNat*i.size)) e)):=wF (s:=Instr.makeSlice t (a.eval l) (a.eval c)) rfl (by rw[el,ec]; exact hrun);split at hs
    .cases hs;have hG:=bM2 hI jC m.toNat;exact ⟨_,_,_,_,.inl hex,Pre.Ah hG (tZ.2 ⟨(w.heap.size,(madeCells z.cells (m.toNat*i.size)).size,e+1),m.toNat,⟨by rw[hI.heap.1]; simp,by simp⟩,rfl,fK _,by rw[size_madeCells,jC.size]; simp⟩) rfl⟩
    .split at hs
     .rename_i hz;cases hs;obtain ⟨M',hpre⟩:=bM4 hI jC hpos hz.1 hz.2 m.toNat;exact ⟨_,_,M',B,.inl hex,hpre⟩
     .cases hs
   .cases hs
  .cases hs
 | call c =>
  obtain ⟨callee,args,argTypes⟩:=c;simp only[bY] at hs;split at hs
  .split at hs
   .rename_i x y t u h1 h2;have e1:args = #[x,y]:=by rw[<- sK]; exact h1
    have e2:argTypes = #[t,u]:=by rw[<- sK]; exact h2
    subst e1; subst e2;split at hs
    .rename_i I j off m sz q hT hx hy;split at hs
     .rename_i cs m2 cells hcs hsrc;split at hs
      .rename_i hc;obtain ⟨rfl,hpos,hlen⟩:=hc;cases hs;obtain ⟨e,i,z,d,hu,jC⟩:=zH hT;obtain ⟨w',g1,g2⟩:=a'9 (u:=u) (ty:=type) hI hu jC (hI.rd x _ hx).1 hcs hlen (hI.rd y _ hy).1 hsrc hpos;refine ⟨_,w',_,_,.inl ?_,Pre.Ah g2 (dw.2 rfl) rfl⟩;show (execOp a.eval ⟨dst,.call ⟨.builtin .copy,#[x,y],#[t,u]⟩,type,pos,after,guard⟩).run E.P w=_;simp[execOp,resolve,invoke,builtin,g1]
      .cases hs
     .cases hs
    .cases hs
   .cases hs
  .split at hs
   .rename_i x t h1 h2;have e1:args = #[x]:=by rw[<- sK]; exact h1
    have e2:argTypes = #[t]:=by rw[<- sK]; exact h2
    subst e1; subst e2;split at hs
    .rename_i I j off m sz hT hx;split at hs
     .rename_i cs hcs;split at hs
      .rename_i hc;obtain ⟨rfl,hlen⟩:=hc;cases hs;obtain ⟨e,i,z,d,hu,jC⟩:=zH hT;obtain ⟨w',g1,g2⟩:=aZV (ty:=type) hI hu jC (hI.rd x _ hx).1 hcs hlen;refine ⟨.tuple #[],w',_,_,.inl ?_,Pre.Ah g2 (tq.2 ⟨#[],rfl,dW.2 rfl⟩) rfl⟩;show (execOp a.eval ⟨none,.call ⟨.builtin .clear,#[x],#[t]⟩,type,pos,after,guard⟩).run E.P w=_;simp[execOp,resolve,invoke,builtin,g1]
      .cases hs
     .cases hs
    .rename_i I o' z' hT hx;cases hs;obtain ⟨e,i,z,d,hu,jC⟩:=zH hT;obtain ⟨A,cap,hv,_⟩:=jR.1 (hI.rd x _ hx).1;refine ⟨.tuple #[],w,M,B,.inl ?_,Pre.plain hI (tq.2 ⟨#[],rfl,dW.2 rfl⟩) (fun b=>dP rfl _ _) (fJ rfl)⟩;show (execOp a.eval ⟨none,.call ⟨.builtin .clear,#[x],#[t]⟩,type,pos,after,guard⟩).run E.P w=_;have hcl:(Builtin.clear_ #[t] type #[a.eval x]).run E.P w = .ok (.tuple #[]) w:=by rw[hv];cases A<;>simp[Builtin.clear_,fG hu]
     simp[execOp,resolve,invoke,builtin,hcl]
    .cases hs
   .cases hs
  .simp only[jg] at hside;split at hs
   .rename_i s x t u h1 h2;split at hs
    .rename_i I ow sz es o' sz' es' hT hs' hx;split at hs
     .rename_i hc;obtain ⟨how,rfl,hc1,hc2,hc3,hc4⟩:=hc;cases hs;rw[h1] at hside;simp only[hs',hx] at hside;have e1:args = #[s,x]:=by rw[<- sK]; exact h1
      have e2:argTypes = #[t,t]:=by rw[<- sK]; exact h2
      subst e1; subst e2;obtain ⟨v,w',M',B',g1,g2⟩:=aXY (ty:=type) hI hT how hs' hx hc1 hc2 hc3 hc4 hside;refine ⟨v,w',M',B',.inl ?_,g2⟩;show (execOp a.eval ⟨dst,.call ⟨.builtin .append,#[s,x],#[t,t]⟩,type,pos,after,guard⟩).run E.P w=_;simp[execOp,resolve,invoke,builtin,g1]
     .cases hs
    .rename_i I ow sz es b hT hs' hx;split at hs
     .rename_i hc;obtain ⟨how,hc1,hc2,hc3,hc4,hc5⟩:=hc;cases hs;rw[h1] at hside;simp only[hs',hx] at hside;have e1:args = #[s,x]:=by rw[<- sK]; exact h1
      have e2:argTypes = #[t,u]:=by rw[<- sK]; exact h2
      subst e1; subst e2;obtain ⟨v,w',M',B',g1,g2⟩:=aXZ (ty:=type) hI hT hc1 hc2 how hs' hx hc3 hc4 hc5 hside;refine ⟨v,w',M',B',.inl ?_,g2⟩;show (execOp a.eval ⟨dst,.call ⟨.builtin .append,#[s,x],#[t,u]⟩,type,pos,after,guard⟩).run E.P w=_;simp[execOp,resolve,invoke,builtin,g1]
     .cases hs
    .rename_i I k sz cs o' sz' es' hT hs' hx;split at hs
     .rename_i hc;obtain ⟨rfl,hc1,hc2,rfl,hc4,hc5⟩:=hc;cases hs;rw[h1] at hside;simp only[hs',hx] at hside;have e1:args = #[s,x]:=by rw[<- sK]; exact h1
      have e2:argTypes = #[t,t]:=by rw[<- sK]; exact h2
      subst e1; subst e2;obtain ⟨v,w',M',B',g1,g2⟩:=aXX (ty:=type) hI hT hs' hx hc1 hc2 hc4 hc5 hside;refine ⟨v,w',M',B',.inl ?_,g2⟩;show (execOp a.eval ⟨dst,.call ⟨.builtin .append,#[s,x],#[t,t]⟩,type,pos,after,guard⟩).run E.P w=_;simp[execOp,resolve,invoke,builtin,g1]
     .cases hs
    .rename_i I l b hT hs' hx;split at hs
     .rename_i hc;obtain ⟨hc1,hc2,hc3,hc4⟩:=hc;cases hs;rw[h1] at hside;simp only[hs',hx] at hside;have e1:args = #[s,x]:=by rw[<- sK]; exact h1
      have e2:argTypes = #[t,u]:=by rw[<- sK]; exact h2
      subst e1; subst e2;obtain ⟨v,w',M',B',g1,g2⟩:=aXW (ty:=type) hI hT hc1 hc2 hs' hx hc3 hc4 hside;refine ⟨v,w',M',B',.inl ?_,g2⟩;show (execOp a.eval ⟨dst,.call ⟨.builtin .append,#[s,x],#[t,u]⟩,type,pos,after,guard⟩).run E.P w=_;simp[execOp,resolve,invoke,builtin,g1]
     .cases hs
    .rename_i I l o' sz' es' hT hs' hx;split at hs
     .rename_i c hob;split at hs
      .rename_i hc;obtain ⟨hc1,rfl,hc3,hc4,rfl⟩:=hc;cases hs;rw[h1] at hside;simp only[hs',hx,hob] at hside;have e1:args = #[s,x]:=by rw[<- sK]; exact h1
       have e2:argTypes = #[t,t]:=by rw[<- sK]; exact h2
       subst e1; subst e2;rw[bNJ hob] at hx;obtain ⟨v,w',M',B',g1,g2⟩:=aXV (ty:=type) hI hT hc1 hs' hx hc3 hc4 hside.1 hside.2.1 hside.2.2;refine ⟨v,w',M',B',.inl ?_,g2⟩;show (execOp a.eval ⟨dst,.call ⟨.builtin .append,#[s,x],#[t,t]⟩,type,pos,after,guard⟩).run E.P w=_;simp[execOp,resolve,invoke,builtin,g1]
      .cases hs
     .cases hs
    .cases hs
   .cases hs
  grind [aUY,pop]
 | makeMap t r =>
  simp only[bY] at hs;split at hs
  .cases hs
  split at hs
  .cases hs;obtain ⟨h1,h2⟩:=bM1 (P:=E.P) hI t (dF E.mu dst);exact ⟨_,_,_,_,.inl (wF (s:=Instr.makeMap t none) rfl h1),h2⟩
  .cases hs
 | lookup t m k ok =>
  simp only[bY] at hs;split at hs
  .rename_i s z i q ht hm hq;split at hs
   .rename_i cs hcs;split at hs
    .rename_i b L hin;split at hs
     .rename_i r hk hg;cases hs;obtain ⟨v,g1,g2,g3⟩:=bLR hI ht (hI.rd m _ hm).1 hcs hin (hI.rd k _ hq).1 hk hg ok;exact ⟨v,w,M,B,.inl (wF (s:=Instr.lookup t (a.eval m) (a.eval k) ok) rfl g1),Pre.plain hI g2 (fun b=>dP g3 _ _) (fJ g3)⟩
     .cases hs
    .cases hs
   .cases hs
  .cases hs
 | mapUpdate t m k x =>
  simp only[bY] at hs;split at hs
  .rename_i s z i q y ht hm hq hx;split at hs
   .rename_i cs hcs;split at hs
    .rename_i b L hin;split at hs
     .rename_i hk;cases hs;simp only[bI,Gl,BA] at hk;obtain ⟨w',g1,g2⟩:=aVT hI ht (hI.rd m _ hm).1 hcs hin (hI.rd k _ hq).1 hk.1 (hI.rd x _ hx).1 hk.2.1 (fun e=>by simp_all);refine ⟨.tuple #[],w',_,_,.inr ⟨?_,rfl⟩,Pre.Ah g2 (tq.2 ⟨#[],rfl,dW.2 rfl⟩) rfl⟩;show (execOp a.eval ⟨none,.mapUpdate t m k x,type,pos,after,guard⟩).run E.P w=_;simp[execOp,g1]
     .cases hs
    .cases hs
   .cases hs
  .cases hs
 | insert t m k x =>
  simp only[bY] at hs;split at hs
  .cases hs
  split at hs
  .rename_i s z i q y ht hm hq hx;split at hs
   .rename_i cs hcs;split at hs
    .rename_i b L hin;split at hs
     .rename_i hk;cases hs;simp only[bI,Gl,BA] at hk;obtain ⟨w',g1,g2⟩:=aVT hI ht (hI.rd m _ hm).1 hcs hin (hI.rd k _ hq).1 hk.1 (hI.rd x _ hx).1 hk.2.1 (fun e=>by simp_all);refine ⟨.tuple #[],w',_,_,.inr ⟨?_,rfl⟩,Pre.Ah g2 (tq.2 ⟨#[],rfl,dW.2 rfl⟩) rfl⟩;show (execOp a.eval ⟨none,.insert t m k x,type,pos,after,guard⟩).run E.P w=_;simp[execOp,g1]
     .cases hs
    .cases hs
   .cases hs
  .cases hs
 | range t x =>
  simp only[bY] at hs;split at hs
  .rename_i s ht hx;cases hs;have hv:=iq.1 (hI.rd x _ hx).1;obtain ⟨h1,h2⟩:=bQL (P:=E.P) hI ht s;exact ⟨_,_,_,_,.inl (wF (s:=Instr.range t (a.eval x)) rfl (by rw[hv]; exact h1)),h2⟩
  .cases hs
 | next x b =>
  simp only[bY] at hs;split at hs
  .rename_i T i hx;split at hs
   .rename_i cs hcs;split at hs
    .rename_i s p hin;split at hs
     .rename_i hT;rw[bI] at hT;have hT1:=oJ hT.1;subst hT1;obtain ⟨g1,g2⟩:=bMV (P:=E.P) hI type (hI.rd x _ hx).1 hcs hin;split at hs
      .rename_i hp;cases hs;obtain ⟨w',g3,g4⟩:=g1 (NI hp);exact ⟨_,w',_,_,.inl (wF (s:=Instr.next (a.eval x) true type) rfl g3),Pre.Ah g4 (tq.2 ⟨_,rfl,cO.2 ⟨_,_,rfl,kE.2 rfl,cO.2 ⟨_,_,rfl,dw.2 rfl,cO.2 ⟨_,_,rfl,dw.2 rfl,dW.2 rfl⟩⟩⟩⟩) rfl⟩
      .rename_i hp;cases hs;exact ⟨_,w,M,B,.inl (wF (s:=Instr.next (a.eval x) true type) rfl (g2 (of_decide_eq_false hp))),Pre.plain hI (tq.2 ⟨_,rfl,cO.2 ⟨_,_,rfl,kE.2 rfl,dW.2 rfl⟩⟩) (fun b=>dP rfl _ _) (fJ rfl)⟩
     .cases hs
    .cases hs
   .cases hs
  .cases hs
 | _=>exact aUY hI hs
end
end Go.Proofs.YtilpiopkekkbiaaGreatDoor
end

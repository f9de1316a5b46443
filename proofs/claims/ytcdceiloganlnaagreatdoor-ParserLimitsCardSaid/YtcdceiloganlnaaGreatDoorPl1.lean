/- A part of the proof. -/
import Derived.Lib.ItoaNum
import Derived.WalkKit
import Derived.WalkSpells
import Derived.WalkLawsBesides
import Derived.Lib.Hide
import Derived.Below
import Derived.Laws.BytesString
import Derived.Great.BuildSlice
import Derived.Laws.CopyRow
import Derived.Lib.AppendStr
import Derived.Laws.MakeOwn
import Derived.WideMake
import Derived.Lib.OthersKept
set_option linter.unusedVariables false
set_option linter.unusedSimpArgs false
set_option linter.unnecessarySimpa false
set_option linter.unusedSectionVars false
noncomputable section
namespace Go.Proofs.YtcdceiloganlnaaGreatDoor
open Go.RowKit
abbrev aJ:=@if_pos
abbrev aK:=@if_neg
abbrev aP:=@List.length_append
abbrev aY:=@List.length_cons
abbrev au:=@Bool.and_eq_true
abbrev bG:=@List.length_nil
abbrev bM:=@List.length_map
abbrev bW:=@Nat.le_refl
abbrev dw:=@List.getElem_mem
abbrev eP:=@List.getElem?_eq_some_iff
abbrev ed:=@Go.run_underlying
abbrev gV:=@if_true
abbrev iC:=@List.all_eq_true
abbrev iM:=@List.getElem?_eq_getElem
abbrev iO:=@List.getElem?_take
abbrev iQ:=@List.mem_cons
abbrev iU:=@List.getElem?_map
abbrev iy:=@decide_eq_true_eq
abbrev jc:=@List.append_assoc
abbrev jq:=@List.mem_of_getElem?
abbrev kW:=@Nat.zero_add
abbrev kX:=@Go.Sem.run_bind
abbrev lF:=@List.getElem?_append_left
abbrev lM:=@List.cons_append
abbrev lN:=@List.getElem?_set_ne
abbrev lm:=@Nat.eq_of_beq_eq_true
abbrev lq:=@Nat.lt_or_ge
abbrev nG:=@Bool.not_true
abbrev nX:=@Int.toNat_natCast
abbrev nY:=@List.length_take
abbrev nZ:=@List.take_of_length_le
abbrev oK:=@Array.toList_inj
abbrev oL:=@Nat.add_mul
abbrev oM:=@Nat.le_trans
abbrev oN:=@beq_iff_eq
abbrev qK:=@List.eq_nil_of_length_eq_zero
abbrev qL:=@List.mem_map
abbrev qM:=@Go.Result.andThen_ok
abbrev qN:=@cond_false
abbrev ql:=@List.getElem?_set_self
abbrev qm:=@List.map_cons
abbrev qo:=@of_decide_eq_true
abbrev rq:=@Bool.not_false
abbrev ru:=@List.length_singleton
abbrev ry:=@List.map_append
abbrev sD:=@Option.map_some
abbrev sF:=@beq_self_eq_true
abbrev tX:=@if_false
abbrev uP:=@Bool.false_eq_true
abbrev uQ:=@List.length_drop
abbrev uS:=@Go.wpIn_mono
abbrev vN:=@List.all_cons
abbrev vO:=@List.getElem?_append_right
abbrev vP:=@List.not_mem_nil
abbrev vT:=@Nat.mul_le_mul_right
abbrev vU:=@beq_eq_false_iff_ne
abbrev vV:=@or_false
abbrev vW:=@Go.wp_mono
abbrev wu:=@Array.getElem?_eq_some_iff
abbrev ww:=@List.getElem?_eq_none
abbrev wz:=@Nat.blt_eq
abbrev xA:=@Option.bind_some
abbrev y8:=@Bool.not_eq_true'
abbrev y9:=@Bool.or_eq_true
abbrev yA:=@List.mem_append
abbrev yB:=@Go.World.block_lt_of_cell?
abbrev yw:=@Bool.and_self
abbrev yx:=@Bool.false_ne_true
abbrev yz:=@List.set_cons_succ
abbrev zA:=@Option.some.injEq
abbrev zy:=@List.append_nil
abbrev BH:=@Nat.zero_le
abbrev DC:=@Bool.true_and
abbrev DD:=@List.any_cons
abbrev DF:=@List.drop_eq_getElem_cons
abbrev DI:=@List.mem_iff_getElem?
abbrev DJ:=@List.mem_range
abbrev DK:=@List.mem_singleton
abbrev DL:=@List.takeWhile_cons
abbrev DN:=@Go.Sem.run_pure
abbrev Ee:=@Array.mem_append
abbrev Ef:=@List.drop_eq_nil_of_le
abbrev Eg:=@List.length_set
abbrev Eh:=@List.set_cons_zero
abbrev Ei:=@Nat.add_zero
abbrev Ej:=@Nat.succ_mul
abbrev GY:=@Go.RowKit.Below.heap_alloc
abbrev GZ:=@List.getElem?_drop
abbrev Gf:=@List.nil_append
abbrev Gg:=@Nat.eq_zero_or_pos
abbrev Iz:=@Nat.beq_eq
abbrev J3:=@Option.map_eq_some_iff
abbrev Lc:=@Array.getElem?_append_left
abbrev Ld:=@Bool.or_eq_false_iff
abbrev Lh:=@Int.toNat_of_nonneg
abbrev Lj:=@List.cons.injEq
abbrev Ll:=@List.ext_getElem?
abbrev Lp:=@List.map_map
abbrev Lr:=@List.nodup_cons
abbrev Ls:=@List.take_succ_eq_append_getElem
abbrev Lt:=@Go.World.cell?_of_block
abbrev Lu:=@Go.wpIn_seq
abbrev Q3:=@Array.ext'
abbrev Q4:=@Array.getElem_setIfInBounds
abbrev Q5:=@Bool.eq_iff_iff
abbrev Q7:=@Bool.false_and
abbrev Q8:=@Go.ByteArray.toList_eq
abbrev Q9:=@Classical.choose_spec
abbrev QA:=@List.drop_eq_nil_iff
abbrev QB:=@List.getD_eq_getElem?_getD
abbrev QC:=@List.map_nil
abbrev QD:=@List.mem_of_mem_take
abbrev QE:=@List.take_append_drop
abbrev QF:=@Nat.add_sub_cancel_left
abbrev QG:=@Nat.ble_eq
abbrev QH:=@Nat.le_of_ble_eq_true
abbrev QI:=@Nat.lt_of_lt_of_le
abbrev QJ:=@Nat.min_eq_left
abbrev QK:=@cond_true
abbrev QL:=@decide_eq_false_iff_not
abbrev QM:=@Go.heap_alloc_new
abbrev QN:=@Go.mem_ready
abbrev QO:=@Go.run_sliceBound
abbrev VM:=@List.flatMap_cons
abbrev VN:=@List.map_take
abbrev VO:=@List.replicate_succ
abbrev VP:=@List.take_succ_cons
abbrev VQ:=@Go.MapKept.run_getObj_map
abbrev VR:=@Nat.add_comm
abbrev VS:=@Nat.ble_eq_true_of_le
abbrev VT:=@Nat.mul_one
abbrev VU:=@Go.run_firstCells_some
abbrev a04:=@Array.mem_of_getElem?
abbrev a05:=@Bool.not_eq_true
abbrev a06:=@List.drop_drop
abbrev a07:=@List.foldl_append
abbrev a08:=@List.getElem?_cons_succ
abbrev a09:=@List.getElem?_toArray
abbrev a0A:=@List.mem_append_left
abbrev a0B:=@List.range'_succ
abbrev a0C:=@Go.MapKept.bytes_beq
abbrev a0D:=@Nat.add_assoc
abbrev a0E:=@Nat.le_max_left
abbrev a0F:=@Go.Oper.upon_value
abbrev aB2:=@Array.getD_eq_getD_getElem?
abbrev aB3:=@Array.size_replicate
abbrev aB4:=@List.any_eq_true
abbrev aB5:=@List.filter_cons
abbrev aB6:=@List.flatten_cons
abbrev aB7:=@List.mem_append_right
abbrev aB8:=@List.mem_map_of_mem
abbrev aB9:=@List.range_eq_range'
abbrev aBA:=@List.size_toArray
abbrev aBB:=@Go.MapKept.run_findKey
abbrev aBC:=@Go.World.cell?_alloc_old
abbrev aRC:=@Array.getElem?_setIfInBounds_ne
abbrev aRD:=@Array.toList_setIfInBounds
abbrev aRE:=@Go.Lib.run_firstCells_string
abbrev aRF:=@Option.isSome_iff_exists
end Go.Proofs.YtcdceiloganlnaaGreatDoor
namespace Go.Proofs.YtcdceiloganlnaaGreatDoor
def aA1 (m:Int):List (Nat×List Value) := [(0,[Value.int .i64 m]),(1,Lib.pow10Tab.map (Value.int .u64))]
def BI (m:Int) (b o:Nat):Option Value:=((aA1 m).lookup b).bind (·[o]?)
structure Mem where
 m:Int
 f:Nat->Nat->Option Value
 g:∀ b o v,BI m b o=some v->f b o=some v
instance:CoeFun Mem (fun _=>Nat->Nat->Option Value):=⟨Mem.f⟩
def CG (m:Int) (F:Nat->Nat->Option Value):Mem:=⟨m,fun b o=>match BI m b o with | some v=>some v | none=>F b o,fun b o v h=>by simp only[h]⟩
theorem EJ {m:Int} {F:Nat->Nat->Option Value} (h:∀ b o v,BI m b o=some v->F b o=some v) (b o:Nat):CG m F b o=F b o:=by
 show (match BI m b o with | some v=>some v | none=>F b o)=F b o;split
 .rename_i v hv; exact (h b o v hv).symm
 .rfl
theorem TD {M:Mem} {c:Nat} {f:Nat->Option Value} (h:∀ o,M c o=none):∀ b o v,BI M.m b o=some v->(if b=c then f o else M b o)=some v:=fun b o v e=>by
 have hb:b≠c:=fun hb=>by subst hb; have:=M.g _ _ _ e; rw[h] at this; cases this
 rw[aK hb]; exact M.g _ _ _ e
open Go.RowKit
inductive PV where
 | int (k:IntKind) (n:Int)
 | bool (b:Bool)
 | str (s:ByteArray)
 | nilp
 | raw (v:Value)
 | ptr (i off:Nat)
 | cZ (T:TypeId) (i:Nat)
 | cst (e:PV)
 | sl (own:Bool) (sz:Nat) (es:List PV)
 | slh (i off n sz:Nat)
 | dB (l:List UInt8)
 | fJ (o:Bool) (n sz:Nat) (cs:List PV)
 | mp (l:List PV)
 | func (fn:Fn) (first caps:List PV)
 | agg (cs:List PV)
 | tuple (cs:List PV)
instance:Inhabited PV:=⟨.nilp⟩
abbrev aV:=List (Nat×Nat×TypeId)
abbrev VL:=(Value->Prop)×(Nat->Nat->Prop)
def gG (M:Mem) (f:Value->Prop):VL:=(f,fun b o=>∃ u,M b o=some u/\f u)
def DW (sz:Nat):List VL->Nat->Nat->Prop
 | [],_,_=>True
 | p::ps,b,o=>p.2 b o/\DW sz ps b (o+sz)
def J6 (M:Mem):List VL->Nat->Nat->Prop
 | [],_,_=>True
 | p::ps,b,o=>(∃ u,M b o=some u/\p.1 u)/\J6 M ps b (o+1)
def ng:List VL->List Value->Prop
 | [],[]=>True
 | p::ps,v::vs=>p.1 v/\ng ps vs
 | _,_=>False
def PV.size:PV->Nat | .agg cs=>cs.length | _=>1
def PV.isAgg:PV->Bool | .agg _=>true | _=>false
def PV.own:PV->Bool | .sl o _ _=>o | .dB _=>true | .fJ o _ _ _=>o | _=>false
def PV.lit:PV->Bool | .int _ _=>true | .bool _=>true | .str _=>true | _=>false
def KP:Mem:=⟨0,BI 0,fun _ _ _ h=>h⟩
def mF (l:List UInt8):List PV:=l.map fun x => .int .u8 x.toNat
def PV.un:PV->PV | .sl _ sz es => .sl false sz es | .dB l => .sl false 1 (mF l) | .fJ _ n sz _ => .fJ false n sz [] | p=>p
def aQ:Nat:=1073741824
def DU:Nat:=1000001
def WM (T:Nat) (c:Nat×Nat×Nat) (v:Value):Prop:=match Nat.beq T DU with
 | true=>c.2=(1,0)/\v = .pointer (some ⟨c.1,0,none⟩)
 | false=>c.2=(2,T+1)/\(v = .pointer none\/v = .pointer (some ⟨c.1,0,none⟩))
def WL (T:Nat) (c:Nat×Nat×Nat) (v:Value):Prop:=(T=0->c.2=(1,0)/\v = .map (some c.1))/\(T≠0->WM T c v)
theorem aTC {T:Nat} {c:Nat×Nat×Nat} {v:Value} (hT:Nat.beq T DU=false) (h:c.2=(2,T+1)) (hv:v = .pointer none\/v = .pointer (some ⟨c.1,0,none⟩)):WM T c v:=by unfold WM; rw[hT]; exact ⟨h,hv⟩
def Gj:Nat:=4242
mutual
def aZ (M:Mem) (B:aV):PV->VL
 | .int k n=>gG M fun v=>v = .int k n
 | .bool b=>gG M fun v=>v = .bool b
 | .str s=>gG M fun v=>v = .string s
 | .nilp=>gG M fun v=>v = .pointer none
 | .raw u=>gG M fun v=>v=u/\u.oneCell'=true
 | .ptr i off=>gG M fun v=>∃ c,(B[i]? = some c/\c.2.2≠0)/\v = .pointer (some ⟨c.1,off,none⟩)
 | .cZ T i=>gG M fun v=>∃ c,B[i]? = some c/\WL T c v
 | .cst e=>gG M fun v=>∃ b off,v = .pointer (some ⟨b,off,none⟩)/\(aZ M [] e).2 b off
 | .sl _ sz es=>gG M fun v=>∃ A cap,v = .slice A es.length cap/\es.length<=cap/\(∀ e,e∈es->e.size=sz)/\(sz=0->es = []/\A=none/\cap=0)/\(es ≠ []->∃ b off,A=some ⟨b,off,none⟩/\DW sz (gq M [] es) b off)
 | .dB l=>gG M fun v=>∃ A cap,v = .slice A l.length cap/\l.length<=cap/\(l ≠ []->∃ b off,A=some ⟨b,off,none⟩/\∀ (j:Nat) x,l[j]? = some x->M b (off+j)=some (.int .u8 (x.toNat:Int)))
 | .fJ _ n _ _=>gG M fun v=>∃ A cap,v = .slice A n cap/\n<=cap
 | .mp l=>gG M fun v=>∃ f,v = .func (.yield Gj) f #[]/\ng (gq M [] l) f.toList
 | .slh i off n sz=>gG M fun v=>∃ c cap,(B[i]? = some c/\c.2.2≠0)/\v = .slice (some ⟨c.1,off,none⟩) n cap/\n<=cap/\off+cap*sz<=c.2.1
 | .func fn first caps=>gG M fun v=>∃ f c,v = .func fn f c/\ng (gq M B first) f.toList/\ng (gq M B caps) c.toList
 | .agg cs=>(fun v=>∃ vs,v = .agg vs/\ng (gq M B cs) vs.toList,fun b o=>J6 M (gq M B cs) b o)
 | .tuple cs=>(fun v=>∃ vs,v = .tuple vs/\ng (gq M B cs) vs.toList,fun _ _=>False)
def gq (M:Mem) (B:aV):List PV->List VL
 | [] => []
 | p::ps=>aZ M B p::gq M B ps
end
def Rep (M:Mem) (B:aV) (p:PV) (v:Value):Prop:=(aZ M B p).1 v
def Loc (M:Mem) (B:aV) (p:PV) (b o:Nat):Prop:=(aZ M B p).2 b o
def bC (M:Mem) (B:aV) (ps:List PV) (vs:List Value):Prop:=ng (gq M B ps) vs
def Cells (M:Mem) (B:aV) (ps:List PV) (b o:Nat):Prop:=J6 M (gq M B ps) b o
def jr (M:Mem) (B:aV) (sz:Nat) (ps:List PV) (b o:Nat):Prop:=DW sz (gq M B ps) b o
section
variable {M:Mem} {B:aV}
theorem dS {k:IntKind} {n:Int} {v:Value}:Rep M B (.int k n) v↔v = .int k n:=by simp[Rep,aZ,gG]
theorem jo {b:Bool} {v:Value}:Rep M B (.bool b) v↔v = .bool b:=by simp[Rep,aZ,gG]
theorem iT {s:ByteArray} {v:Value}:Rep M B (.str s) v↔v = .string s:=by simp[Rep,aZ,gG]
theorem Fp {v:Value}:Rep M B .nilp v↔v = .pointer none:=by simp[Rep,aZ,gG]
theorem CX {u v:Value}:Rep M B (.raw u) v↔v=u/\u.oneCell'=true:=by simp[Rep,aZ,gG]
theorem wQ {i off:Nat} {v:Value}:Rep M B (.ptr i off) v↔∃ c,(B[i]? = some c/\c.2.2≠0)/\v = .pointer (some ⟨c.1,off,none⟩):=by simp[Rep,aZ,gG]
theorem Fj {T:TypeId} {i:Nat} {v:Value}:Rep M B (.cZ T i) v↔∃ c,B[i]? = some c/\WL T c v:=by simp[Rep,aZ,gG]
theorem Au {e:PV} {v:Value}:Rep M B (.cst e) v↔∃ b off,v = .pointer (some ⟨b,off,none⟩)/\Loc M [] e b off:=by simp[Rep,aZ,gG,Loc]
theorem jW {o:Bool} {sz:Nat} {es:List PV} {v:Value}:Rep M B (.sl o sz es) v↔∃ A cap,v = .slice A es.length cap/\es.length<=cap/\(∀ e,e∈es->e.size=sz)/\(sz=0->es = []/\A=none/\cap=0)/\(es ≠ []->∃ b off,A=some ⟨b,off,none⟩/\jr M [] sz es b off):=by simp[Rep,aZ,gG,jr]
theorem tH {i off n sz:Nat} {v:Value}:Rep M B (.slh i off n sz) v↔∃ c cap,(B[i]? = some c/\c.2.2≠0)/\v = .slice (some ⟨c.1,off,none⟩) n cap/\n<=cap/\off+cap*sz<=c.2.1:=by simp[Rep,aZ,gG]
theorem EO {o:Bool} {n sz:Nat} {cs:List PV} {v:Value}:Rep M B (.fJ o n sz cs) v↔∃ A cap,v = .slice A n cap/\n<=cap:=by simp[Rep,aZ,gG]
theorem ZX {l:List UInt8} {v:Value}:Rep M B (.dB l) v↔∃ A cap,v = .slice A l.length cap/\l.length<=cap/\(l ≠ []->∃ b off,A=some ⟨b,off,none⟩/\∀ (j:Nat) x,l[j]? = some x->M b (off+j)=some (.int .u8 (x.toNat:Int))):=by simp[Rep,aZ,gG]
theorem aOK {l:List PV} {v:Value}:Rep M B (.mp l) v↔∃ f,v = .func (.yield Gj) f #[]/\bC M [] l f.toList:=by simp[Rep,aZ,gG,bC]
theorem zk {fn:Fn} {first caps:List PV} {v:Value}:Rep M B (.func fn first caps) v↔∃ f c,v = .func fn f c/\bC M B first f.toList/\bC M B caps c.toList:=by simp[Rep,aZ,gG,bC]
theorem qG {cs:List PV} {v:Value}:Rep M B (.agg cs) v↔∃ vs,v = .agg vs/\bC M B cs vs.toList:=by simp[Rep,aZ,bC]
theorem tJ {cs:List PV} {v:Value}:Rep M B (.tuple cs) v↔∃ vs,v = .tuple vs/\bC M B cs vs.toList:=by simp[Rep,aZ,bC]
theorem eu {vs:List Value}:bC M B [] vs↔vs = []:=by cases vs<;>simp[bC,gq,ng]
theorem dD {p:PV} {ps:List PV} {vs:List Value}:bC M B (p::ps) vs↔∃ u us,vs=u::us/\Rep M B p u/\bC M B ps us:=by
 cases vs with
 | nil=>simp[bC,gq,ng]
 | cons u us=>exact ⟨fun h=>⟨u,us,rfl,h.1,h.2⟩,fun ⟨_,_,e,h1,h2⟩=>by cases e; exact ⟨h1,h2⟩⟩
theorem aUE {b o:Nat}:Cells M B [] b o:=by simp[Cells,gq,J6]
theorem a1F {p:PV} {ps:List PV} {b o:Nat}:Cells M B (p::ps) b o↔(∃ u,M b o=some u/\Rep M B p u)/\Cells M B ps b (o+1):=by simp[Cells,gq,J6,Rep]
theorem KG {sz b o:Nat}:jr M B sz [] b o:=by simp[jr,gq,DW]
theorem KF {sz:Nat} {p:PV} {ps:List PV} {b o:Nat}:jr M B sz (p::ps) b o↔Loc M B p b o/\jr M B sz ps b (o+sz):=by simp[jr,gq,DW,Loc]
theorem zV {cs:List PV} {b o:Nat}:Loc M B (.agg cs) b o↔Cells M B cs b o:=by simp[Loc,aZ,Cells]
theorem yQ {p:PV} (h:p.isAgg=false) (ht:∀ cs,p ≠ .tuple cs) {b o:Nat}:Loc M B p b o↔∃ u,M b o=some u/\Rep M B p u:=by cases p<;>first | exact absurd rfl (ht _) | (simp[PV.isAgg] at h; done) | simp[Loc,Rep,aZ,gG]
theorem Yz {cs:List PV} {b o:Nat}:Loc M B (.tuple cs) b o↔False:=by simp[Loc,aZ]
theorem Uc {l:List UInt8} {v:Value}:Rep M B (.sl false 1 (mF l)) v↔Rep M B (.dB l) v:=by
 rw[jW,ZX];have hl:(mF l).length=l.length:=by simp[mF]
 have hn:mF l ≠ []↔l ≠ []:=by simp[mF]
 have hs:∀ e,e∈mF l->e.size=1:=fun e he=>by obtain ⟨x,_,rfl⟩:=qL.1 he; rfl
 have key:∀ b off,jr M [] 1 (mF l) b off↔∀ (j:Nat) x,l[j]? = some x->M b (off+j)=some (.int .u8 (x.toNat:Int)):=by
  intro b off;have one:∀ (x:UInt8) (b o:Nat),Loc M [] (.int .u8 (x.toNat:Int)) b o↔M b o=some (.int .u8 (x.toNat:Int)):=fun x b o=>by simp[Loc,aZ,gG]
  unfold mF;clear hl hn hs;induction l generalizing off with
  | nil=>simp[jr,gq,DW]
  | cons a l ih =>
   refine Iff.trans (by rw[qm]; exact KF) (Iff.trans (and_congr (one a b off) (ih (off+1))) ?_);constructor
   .rintro ⟨h1,h2⟩ j x hj;cases j with
    | zero=>simp at hj; subst hj; exact h1
    | succ j=>have:=h2 j x (by simpa using hj); rwa [show off+1+j=off+(j+1) by omega] at this
   .intro h;exact ⟨h 0 a rfl,fun j x hj=>by have:=h (j+1) x (by simpa using hj); rwa [show off+(j+1)=off+1+j by omega] at this⟩
 constructor
 .rintro ⟨A,cap,rfl,h1,_,_,h4⟩;refine ⟨A,cap,by rw[hl],by rw[<- hl]; exact h1,fun h => ?_⟩;obtain ⟨b,off,e,h5⟩:=h4 (hn.2 h);exact ⟨b,off,e,(key b off).1 h5⟩
 .rintro ⟨A,cap,rfl,h1,h4⟩;refine ⟨A,cap,by rw[hl],by rw[hl]; exact h1,hs,(fun h=>absurd h (by decide)),fun h => ?_⟩;obtain ⟨b,off,e,h5⟩:=h4 (hn.1 h);exact ⟨b,off,e,(key b off).2 h5⟩
theorem nU {p:PV} {v:Value}:Rep M B p.un v↔Rep M B p v:=by
 cases p with
 | dB l=>exact Uc
 | fJ o n sz cs=>simp only[PV.un,EO]
 | _=>simp[PV.un,jW]
theorem a5' {p:PV} {b o:Nat}:Loc M B p.un b o↔Loc M B p b o:=by
 cases p with
 | dB l =>rw[yQ (p:=PV.un (.dB l)) rfl (fun cs h=>by cases h),yQ (p := .dB l) rfl (fun cs h=>by cases h)];simp only[nU]
 | fJ o n sz cs =>rw[yQ (p:=PV.un (.fJ o n sz cs)) rfl (fun cs h=>by cases h),yQ (p := .fJ o n sz cs) rfl (fun cs h=>by cases h)];simp only[nU]
 | _=>simp[PV.un,Loc,aZ,gG]
theorem aAX (p:PV):p.un.size=p.size:=by cases p<;>rfl
theorem qI (p:PV):p.un.own=false:=by cases p<;>rfl
theorem bO6 (p:PV):p.un.un=p.un:=by cases p<;>rfl
theorem qH:∀ {ps:List PV} {vs:List Value},bC M B ps vs->ps.length=vs.length
 | [],vs,h=>by rw[eu] at h; simp[h]
 | p::ps,vs,h=>by obtain ⟨u,us,rfl,_,h2⟩:=dD.1 h;simp[qH h2]
theorem wS:∀ {ps:List PV} {vs:List Value},bC M B ps vs->∀ {j:Nat} {p:PV},ps[j]? = some p->∃ u,vs[j]? = some u/\Rep M B p u
 | [],_,_,j,p,h=>by simp at h
 | q::ps,vs,hr,j,p,h=>by
  obtain ⟨u,us,rfl,h1,h2⟩:=dD.1 hr;cases j with
  | zero=>simp at h; subst h; exact ⟨u,by simp,h1⟩
  | succ j=>simp at h; obtain ⟨u',hu,hp⟩:=wS h2 h; exact ⟨u',by simpa using hu,hp⟩
theorem IZ:∀ {ps:List PV} {vs:List Value},ps.length=vs.length->(∀ (j:Nat) p u,ps[j]? = some p->vs[j]? = some u->Rep M B p u)->bC M B ps vs
 | [],[],_,_=>eu.2 rfl
 | p::ps,u::us,hl,h=>dD.2 ⟨u,us,rfl,h 0 p u rfl rfl,IZ (by simpa using hl) fun j q v hq hv=>h (j+1) q v (by simpa using hq) (by simpa using hv)⟩
 | [],_::_,hl,_=>by simp at hl
 | _::_,[],hl,_=>by simp at hl
theorem ND:∀ {ps:List PV} {b o:Nat},Cells M B ps b o->∀ {j:Nat} {p:PV},ps[j]? = some p->∃ u,M b (o+j)=some u/\Rep M B p u
 | [],_,_,_,j,p,h=>by simp at h
 | q::ps,b,o,hc,j,p,h=>by
  obtain ⟨h1,h2⟩:=a1F.1 hc;cases j with
  | zero=>simp at h; subst h; simpa using h1
  | succ j=>simp at h; obtain ⟨u,hu,hp⟩:=ND h2 h; exact ⟨u,by rw[<- hu]; congr 1; omega,hp⟩
theorem H5:∀ {ps:List PV} {b o:Nat},(∀ (j:Nat) p,ps[j]? = some p->∃ u,M b (o+j)=some u/\Rep M B p u)->Cells M B ps b o
 | [],_,_,_=>aUE
 | p::ps,b,o,h=>a1F.2 ⟨by simpa using h 0 p rfl,H5 fun j q hq=>by obtain ⟨u,hu,hr⟩:=h (j+1) q (by simpa using hq); exact ⟨u,by rw[<- hu]; congr 1; omega,hr⟩⟩
theorem EH:∀ {ps:List PV} {sz b o:Nat},jr M B sz ps b o->∀ {j:Nat} {p:PV},ps[j]? = some p->Loc M B p b (o+j*sz)
 | [],_,_,_,_,j,p,h=>by simp at h
 | q::ps,sz,b,o,hc,j,p,h=>by
  obtain ⟨h1,h2⟩:=KF.1 hc;cases j with
  | zero=>simp at h; subst h; simpa using h1
  | succ j=>simp at h; have:=EH h2 h; rwa [show o+(j+1)*sz=o+sz+j*sz by rw[Ej]; omega]
theorem Ae:∀ {ps:List PV} {sz b o:Nat},(∀ (j:Nat) p,ps[j]? = some p->Loc M B p b (o+j*sz))->jr M B sz ps b o
 | [],_,_,_,_=>KG
 | p::ps,sz,b,o,h=>KF.2 ⟨by simpa using h 0 p rfl,Ae fun j q hq=>by have:=h (j+1) q (by simpa using hq); rwa [show o+(j+1)*sz=o+sz+j*sz by rw[Ej]; omega] at this⟩
theorem aM2 {ps qs:List PV} {sz b o:Nat} (h1:jr M B sz ps b o) (h2:jr M B sz qs b (o+ps.length*sz)):jr M B sz (ps ++ qs) b o :=
 Ae fun j p hp=>by
  rcases lq j ps.length with h | h
  .exact EH h1 (by rwa [lF h] at hp)
  .have:=EH h2 (j:=j-ps.length) (by rwa [vO h] at hp);rwa [show o+ps.length*sz+(j-ps.length)*sz=o+j*sz by rw[a0D,<- oL]; congr 2; omega] at this
end
structure dJ (M M':Mem) (B B':aV):Prop where
 mem:∀ (b o:Nat) (v:Value),M b o=some v->M' b o=some v
 blk:∀ (i:Nat) (c:Nat×Nat×TypeId),B[i]? = some c->B'[i]? = some c
theorem dJ.refl (M:Mem) (B:aV):dJ M M B B:=⟨fun _ _ _ h=>h,fun _ _ h=>h⟩
theorem dJ.none {M M':Mem} {B B':aV} (h:dJ M M' B B'):dJ M M' [] []:=⟨h.mem,fun _ _ e=>e⟩
theorem dJ.zero (M:Mem) (B:aV):dJ M M [] B:=⟨fun _ _ _ e=>e,fun i c e=>by simp at e⟩
theorem dJ.trans {M M' M'':Mem} {B B' B'':aV} (h:dJ M M' B B') (k:dJ M' M'' B' B''):dJ M M'' B B'':=⟨fun b o v e=>k.mem b o v (h.mem b o v e),fun i c e=>k.blk i c (h.blk i c e)⟩
section
variable {M M':Mem} {B B':aV}
mutual
theorem Zd {B B':aV} (h:dJ M M' B B'):∀ p:PV,(∀ v,(aZ M B p).1 v->(aZ M' B' p).1 v)/\(∀ b o,(aZ M B p).2 b o->(aZ M' B' p).2 b o)
 | .int k n=>by simp only[aZ,gG]; exact ⟨fun _ h=>h,fun b o ⟨u,hu,e⟩=>⟨u,h.mem _ _ _ hu,e⟩⟩
 | .bool _=>by simp only[aZ,gG]; exact ⟨fun _ h=>h,fun b o ⟨u,hu,e⟩=>⟨u,h.mem _ _ _ hu,e⟩⟩
 | .str _=>by simp only[aZ,gG]; exact ⟨fun _ h=>h,fun b o ⟨u,hu,e⟩=>⟨u,h.mem _ _ _ hu,e⟩⟩
 | .nilp=>by simp only[aZ,gG]; exact ⟨fun _ h=>h,fun b o ⟨u,hu,e⟩=>⟨u,h.mem _ _ _ hu,e⟩⟩
 | .raw _=>by simp only[aZ,gG]; exact ⟨fun _ h=>h,fun b o ⟨u,hu,e⟩=>⟨u,h.mem _ _ _ hu,e⟩⟩
 | .ptr i off=>by
  have key:∀ v,(∃ c,(B[i]? = some c/\c.2.2≠0)/\v=Value.pointer (some ⟨c.1,off,none⟩))->∃ c,(B'[i]? = some c/\c.2.2≠0)/\v=Value.pointer (some ⟨c.1,off,none⟩):=fun v ⟨c,hc,e⟩=>⟨c,⟨h.blk _ _ hc.1,hc.2⟩,e⟩
  simp only[aZ,gG]; exact ⟨key,fun b o ⟨u,hu,e⟩=>⟨u,h.mem _ _ _ hu,key u e⟩⟩
 | .cZ T i=>by
  have key:∀ v,(∃ c,B[i]? = some c/\WL T c v)->∃ c,B'[i]? = some c/\WL T c v:=fun v ⟨c,hc,e⟩=>⟨c,h.blk _ _ hc,e⟩
  simp only[aZ,gG]; exact ⟨key,fun b o ⟨u,hu,e⟩=>⟨u,h.mem _ _ _ hu,key u e⟩⟩
 | .cst e=>by
  have ih:=(Zd h.none e).2;have key:∀ v,(∃ b off,v=Value.pointer (some ⟨b,off,none⟩)/\(aZ M [] e).2 b off)->(∃ b off,v=Value.pointer (some ⟨b,off,none⟩)/\(aZ M' [] e).2 b off):=fun v ⟨b,off,e,hl⟩=>⟨b,off,e,ih _ _ hl⟩
  simp only[aZ,gG]; exact ⟨key,fun b o ⟨u,hu,e⟩=>⟨u,h.mem _ _ _ hu,key u e⟩⟩
 | .sl _ sz es=>by
  have ih:=(ET h.none es).2.1;have key:∀ v,(∃ A cap,v=Value.slice A es.length cap/\es.length<=cap/\(∀ e,e∈es->e.size=sz)/\(sz=0->es = []/\A=none/\cap=0)/\(es ≠ []->∃ b off,A=some ⟨b,off,none⟩/\DW sz (gq M [] es) b off)) ->
   (∃ A cap,v=Value.slice A es.length cap/\es.length<=cap/\(∀ e,e∈es->e.size=sz)/\(sz=0->es = []/\A=none/\cap=0)/\(es ≠ []->∃ b off,A=some ⟨b,off,none⟩/\DW sz (gq M' [] es) b off)):=fun v ⟨A,cap,e,h1,h2,h3,h4⟩=>⟨A,cap,e,h1,h2,h3,fun hc=>by obtain ⟨b,off,hb,hl⟩:=h4 hc;exact ⟨b,off,hb,ih sz b off hl⟩⟩
  simp only[aZ,gG]; exact ⟨key,fun b o ⟨u,hu,e⟩=>⟨u,h.mem _ _ _ hu,key u e⟩⟩
 | .slh i off n sz=>by
  have key:∀ v,(∃ c cap,(B[i]? = some c/\c.2.2≠0)/\v=Value.slice (some ⟨c.1,off,none⟩) n cap/\n<=cap/\off+cap*sz<=c.2.1)->(∃ c cap,(B'[i]? = some c/\c.2.2≠0)/\v=Value.slice (some ⟨c.1,off,none⟩) n cap/\n<=cap/\off+cap*sz<=c.2.1):=fun v ⟨c,cap,hc,e⟩=>⟨c,cap,⟨h.blk _ _ hc.1,hc.2⟩,e⟩
  simp only[aZ,gG]; exact ⟨key,fun b o ⟨u,hu,e⟩=>⟨u,h.mem _ _ _ hu,key u e⟩⟩
 | .fJ o n z cs=>by simp only[aZ,gG]; exact ⟨fun _ h=>h,fun b o ⟨u,hu,e⟩=>⟨u,h.mem _ _ _ hu,e⟩⟩
 | .mp l=>by
  have i1:=(ET h.none l).1;have key:∀ v,(∃ f,v=Value.func (.yield Gj) f #[]/\ng (gq M [] l) f.toList)->(∃ f,v=Value.func (.yield Gj) f #[]/\ng (gq M' [] l) f.toList):=fun v ⟨f,e,h1⟩=>⟨f,e,i1 _ h1⟩
  simp only[aZ,gG]; exact ⟨key,fun b o ⟨u,hu,e⟩=>⟨u,h.mem _ _ _ hu,key u e⟩⟩
 | .dB l=>by
  have key:∀ v,(∃ A cap,v=Value.slice A l.length cap/\l.length<=cap/\(l ≠ []->∃ b off,A=some ⟨b,off,none⟩/\∀ (j:Nat) x,l[j]? = some x->M b (off+j)=some (.int .u8 (x.toNat:Int)))) ->
   (∃ A cap,v=Value.slice A l.length cap/\l.length<=cap/\(l ≠ []->∃ b off,A=some ⟨b,off,none⟩/\∀ (j:Nat) x,l[j]? = some x->M' b (off+j)=some (.int .u8 (x.toNat:Int)))):=fun v ⟨A,cap,e,h1,h2⟩=>⟨A,cap,e,h1,fun hc=>by obtain ⟨b,off,hb,hl⟩:=h2 hc;exact ⟨b,off,hb,fun j x hj=>h.mem _ _ _ (hl j x hj)⟩⟩
  simp only[aZ,gG]; exact ⟨key,fun b o ⟨u,hu,e⟩=>⟨u,h.mem _ _ _ hu,key u e⟩⟩
 | .func fn first caps=>by
  have i1:=(ET h first).1;have i2:=(ET h caps).1;have key:∀ v,(∃ f c,v=Value.func fn f c/\ng (gq M B first) f.toList/\ng (gq M B caps) c.toList)->(∃ f c,v=Value.func fn f c/\ng (gq M' B' first) f.toList/\ng (gq M' B' caps) c.toList):=fun v ⟨f,c,e,h1,h2⟩=>⟨f,c,e,i1 _ h1,i2 _ h2⟩
  simp only[aZ,gG]; exact ⟨key,fun b o ⟨u,hu,e⟩=>⟨u,h.mem _ _ _ hu,key u e⟩⟩
 | .agg cs=>by have ih:=ET h cs;simp only[aZ]; exact ⟨fun v ⟨vs,e,hv⟩=>⟨vs,e,ih.1 _ hv⟩,fun b o hc=>ih.2.2 b o hc⟩
 | .tuple cs=>by have ih:=ET h cs;simp only[aZ]; exact ⟨fun v ⟨vs,e,hv⟩=>⟨vs,e,ih.1 _ hv⟩,fun b o hc=>hc⟩
theorem ET {B B':aV} (h:dJ M M' B B'):∀ ps:List PV,(∀ vs,ng (gq M B ps) vs->ng (gq M' B' ps) vs)/\(∀ sz b o,DW sz (gq M B ps) b o->DW sz (gq M' B' ps) b o)/\(∀ b o,J6 M (gq M B ps) b o->J6 M' (gq M' B' ps) b o)
 | []=>by simp only[gq]; exact ⟨fun vs h=>by cases vs<;>simpa[ng] using h,fun _ _ _ _=>trivial,fun _ _ _=>trivial⟩
 | p::ps=>by
  have h1:=Zd h p;have h2:=ET h ps;simp only[gq];exact ⟨fun vs hv=>by
   cases vs with
   | nil=>simp[ng] at hv
   | cons v vs=>exact ⟨h1.1 _ hv.1,h2.1 _ hv.2⟩,fun sz b o hl=>⟨h1.2 _ _ hl.1,h2.2.1 _ _ _ hl.2⟩,fun b o ⟨⟨u,hu,hr⟩,hc⟩=>⟨⟨u,h.mem _ _ _ hu,h1.1 _ hr⟩,h2.2.2 _ _ hc⟩⟩
end
theorem Rep.mono (h:dJ M M' B B') {p:PV} {v:Value} (hr:Rep M B p v):Rep M' B' p v:=(Zd h p).1 v hr
theorem Loc.mono (h:dJ M M' B B') {p:PV} {b o:Nat} (hr:Loc M B p b o):Loc M' B' p b o:=(Zd h p).2 b o hr
theorem bC.mono (h:dJ M M' B B') {ps:List PV} {vs:List Value} (hr:bC M B ps vs):bC M' B' ps vs:=(ET h ps).1 vs hr
theorem jr.mono (h:dJ M M' B B') {sz:Nat} {ps:List PV} {b o:Nat} (hr:jr M B sz ps b o):jr M' B' sz ps b o:=(ET h ps).2.1 sz b o hr
theorem Cells.mono (h:dJ M M' B B') {ps:List PV} {b o:Nat} (hr:Cells M B ps b o):Cells M' B' ps b o:=(ET h ps).2.2 b o hr
end
mutual
def PV.flat:PV->Bool
 | .ptr _ _=>false
 | .cZ _ _=>false
 | .slh _ _ _ _=>false
 | .func _ f c=>PV.flats f&&PV.flats c
 | .agg cs=>PV.flats cs
 | .tuple cs=>PV.flats cs
 | _=>true
def PV.flats:List PV->Bool
 | []=>true
 | p::ps=>p.flat&&PV.flats ps
end
section
variable {M:Mem} {B:aV}
mutual
theorem aPL (B':aV):∀ p:PV,p.flat=true->aZ M B p=aZ M B' p
 | .int _ _,_=>by simp only[aZ]
 | .bool _,_=>by simp only[aZ]
 | .str _,_=>by simp only[aZ]
 | .nilp,_=>by simp only[aZ]
 | .raw _,_=>by simp only[aZ]
 | .ptr _ _,h=>by simp[PV.flat] at h
 | .cZ _ _,h=>by simp[PV.flat] at h
 | .slh _ _ _ _,h=>by simp[PV.flat] at h
 | .dB _,_=>by simp only[aZ]
 | .fJ _ _ _ _,_=>by simp only[aZ]
 | .mp _,_=>by simp only[aZ]
 | .cst e,_=>by simp only[aZ]
 | .sl _ _ es,_=>by simp only[aZ]
 | .func _ f c,h=>by simp only[PV.flat,au] at h;simp only[aZ,PL B' f h.1,PL B' c h.2]
 | .agg cs,h=>by simp only[aZ,PL B' cs (by simpa[PV.flat] using h)]
 | .tuple cs,h=>by simp only[aZ,PL B' cs (by simpa[PV.flat] using h)]
theorem PL (B':aV):∀ ps:List PV,PV.flats ps=true->gq M B ps=gq M B' ps
 | [],_=>by simp only[gq]
 | p::ps,h=>by simp only[PV.flats,au] at h;simp only[gq,aPL B' p h.1,PL B' ps h.2]
end
theorem Rep.flat (B':aV) {p:PV} {v:Value} (hf:p.flat=true) (h:Rep M B p v):Rep M B' p v:=by unfold Rep at *; rwa [<- aPL (B:=B) B' p hf]
theorem bC.flat (B':aV) {ps:List PV} {vs:List Value} (hf:PV.flats ps=true) (h:bC M B ps vs):bC M B' ps vs:=by unfold bC at *; rwa [<- PL (B:=B) B' ps hf]
end
abbrev fH:=List (Nat×PV)
abbrev aI:=List (Option (List PV))
def bU (k:Nat):fH->Option PV
 | []=>none
 | (j,p)::l=>if j=k then some p else bU k l
def iF (k:Nat) (p:PV):fH->fH
 | [] => [(k,p)]
 | (j,q)::l=>if j=k then (k,p)::l else if k<j then (k,p)::(j,q)::l else (j,q)::iF k p l
structure ASt where
 s:fH
 h:aI
def bI (p:PV) (v:Value) (b:Nat):Nat:=if p.own then (match v with | .slice (some a) _ _=>if a.block=b then 1 else 0 | _=>0) else 0
def iD:fH->Array Value->Nat->Nat
 | [],_,_=>0
 | (k,p)::l,t,b=>bI p (t.getD k undef) b+iD l t b
def dN:List PV->List Value->Nat->Nat
 | p::ps,v::vs,b=>bI p v b+dN ps vs b
 | _,_,_=>0
def uj (es:List MapEntry):List Value:=es.flatMap fun e => [e.key,e.val]
def Df:List UInt8->List UInt8->Bool
 | [],[]=>false
 | [],_::_=>true
 | _::_,[]=>false
 | a::az,b::bs=>Nat.blt a.toNat b.toNat||(Nat.beq a.toNat b.toNat&&Df az bs)
def TW:Value->Value->Bool
 | .string a,.string b=>Df a.data.toList b.data.toList
 | _,_=>false
def sV:Value->Bool | .string _=>true | _=>false
def G8:Value->Value->Bool
 | .string a,.string b=>a.data.toList==b.data.toList
 | _,_=>false
def uB (e:MapEntry):List MapEntry->List MapEntry
 | [] => [e]
 | x::l=>if TW e.key x.key then e::x::l else x::uB e l
def Gt (l:List MapEntry) (e:MapEntry):List MapEntry :=if (sV e.key&&l.all fun x=>sV x.key) && !(l.any fun x=>G8 e.key x.key) then uB e l else l ++ [e]
def pg (es:List MapEntry):List MapEntry:=es.foldl Gt []
def IG (es:Array MapEntry):Value := .func (.yield Gj) (uj (pg es.toList)).toArray #[]
def Vb:Nat:=4243
def Hz (s:ByteArray) (pos:Nat):Value := .func (.yield Vb) #[.string s,.int .i64 pos] #[]
def rowAt (w:World) (b:Nat):Option (Array Value×Nat):=match w.heap[b]? with
 | some (.cells vs ty (0,0))=>some (vs,ty+1)
 | some (.map es _)=>some (#[IG es],0)
 | some (.stringIter s pos)=>some (#[Hz s pos],0)
 | _=>none
theorem L6 {w w':World} {b:Nat} (h:w'.heap[b]? = w.heap[b]?):rowAt w' b=rowAt w b:=by unfold rowAt; rw[h]
theorem CZ {w:World} {b:Nat} {vs:Array Value} {ty:TypeId} (h:w.heap[b]? = some (.cells vs ty (0,0))):rowAt w b=some (vs,ty+1):=by unfold rowAt; rw[h]; rfl
theorem a9A {w:World} {b:Nat} {es:Array MapEntry} {ck:Nat} (h:w.heap[b]? = some (.map es ck)):rowAt w b=some (#[IG es],0):=by unfold rowAt; rw[h]
theorem ER {w:World} {b:Nat} {vs:Array Value} {T:Nat} (h:rowAt w b=some (vs,T)) (hT:T≠0):∃ ty,T=ty+1/\w.heap[b]? = some (.cells vs ty (0,0)):=by
 unfold rowAt at h;split at h
 .rename_i vs' ty hb; injection h with h; injection h with h1 h2; subst h1; subst h2; exact ⟨ty,rfl,hb⟩
 .injection h with h; injection h with h1 h2; exact absurd h2.symm hT
 .injection h with h; injection h with h1 h2; exact absurd h2.symm hT
 .cases h
theorem a99 {w:World} {b:Nat} {s:ByteArray} {pos:Nat} (h:w.heap[b]? = some (.stringIter s pos)):rowAt w b=some (#[Hz s pos],0):=by unfold rowAt; rw[h]
theorem aOY {w:World} {b:Nat} {vs:Array Value} (h:rowAt w b=some (vs,0)):(∃ es ck,w.heap[b]? = some (.map es ck)/\vs = #[IG es])\/∃ s pos,w.heap[b]? = some (.stringIter s pos)/\vs = #[Hz s pos]:=by
 unfold rowAt at h;split at h
 .injection h with h; injection h with h1 h2; cases h2
 .rename_i es ck hb; injection h with h; injection h with h1 h2; exact .inl ⟨es,ck,hb,h1.symm⟩
 .rename_i s pos hb; injection h with h; injection h with h1 h2; exact .inr ⟨s,pos,hb,h1.symm⟩
 .cases h
def gZ (w:World) (b:Nat):List Value:=match rowAt w b with | some (c,_)=>c.toList | none => []
def aU (w:World):aI->aV->Nat->Nat
 | some cs::h,c::B,b=>(if c.1=b then 1 else 0)+dN cs (gZ w c.1) b+aU w h B b
 | none::h,_::B,b=>aU w h B b
 | _,_,_=>0
def TlS (M:Mem) (w:World) (p:PV) (v:Value):Prop :=∀ sz es A n cap,p = .sl true sz es->v = .slice A n cap->(A=none->cap=0)/\(sz=0->A=none)/\∀ a,A=some a->∃ cs ty,w.heap[a.block]? = some (.cells cs ty (0,0))/\a.off+cap*sz<=cs.size/\(∀ o,a.off+es.length*sz<=o->M a.block o=none)/\a.spot=none/\a.off=0
def Gz:TypeId:=5
def TlT (M:Mem) (w:World) (p:PV) (v:Value):Prop :=∀ l A n cap,p = .dB l->v = .slice A n cap->(A=none->cap=0)/\∀ a,A=some a->∃ cs,w.heap[a.block]? = some (.cells cs Gz (0,0))/\cs.size=cap/\cap<=maxLen/\(∀ o,l.length<=o->M a.block o=none)/\a.spot=none/\a.off=0
def TlP (M:Mem) (w:World) (p:PV) (v:Value):Prop :=∀ n sz cs A m cap,p = .fJ true n sz cs->v = .slice A m cap->(cs.length=n*sz/\0<sz)/\(A=none->cap=0)/\∀ a,A=some a->∃ vs ty,w.heap[a.block]? = some (.cells vs ty (0,0))/\cap*sz<=vs.size/\(∀ (j:Nat) p,cs[j]? = some p->p.lit=true/\∃ u,vs[j]? = some u/\Rep KP [] p u/\u.oneCell'=true)/\(∀ o,M a.block o=none)/\a.spot=none/\a.off=0
structure Tl (M:Mem) (w:World) (p:PV) (v:Value):Prop where
 s:TlS M w p v
 t:TlT M w p v
 p:TlP M w p v
theorem PW {M:Mem} {w:World} {p:PV} {v:Value} (hp:∀ l,p ≠ .dB l) (h:TlS M w p v) (hq:∀ n z cs,p ≠ .fJ true n z cs:=by intro _ _ _ h; cases h):Tl M w p v:=⟨h,fun l _ _ _ e _=>absurd e (hp l),fun n z cs _ _ _ e _=>absurd e (hq n z cs)⟩
theorem aA3 {M:Mem} {w:World} {n z:Nat} {cs:List PV} {v:Value} (h:TlP M w (.fJ true n z cs) v):Tl M w (.fJ true n z cs) v:=⟨(fun _ _ _ _ _ e _=>by cases e),(fun _ _ _ _ e _=>by cases e),h⟩
def a0K (M:Mem) (B:aV) (w:World) (cs:List PV) (c:Nat×Nat×TypeId):Prop :=∃ vs ty,rowAt w c.1=some (vs,ty)/\(vs.size=c.2.1/\ty=c.2.2)/\cs.length<=vs.size/\(∀ (j:Nat) p,cs[j]? = some p->∃ v,vs[j]? = some v/\Rep M B p v/\Tl M w p v/\v.oneCell'=true)/\∀ o,M c.1 o=none
def qO (M:Mem) (B:aV) (w:World) (h:aI):Prop:=h.length=B.length/\∀ (i:Nat) cs,h[i]? = some (some cs)->∃ c,B[i]? = some c/\a0K M B w cs c
def fp (B:aV) (Z:ASt) (t:Array Value) (w:World) (b:Nat):Nat:=iD Z.s t b+aU w Z.h B b
def jE (s:fH):Prop:=s.Pairwise fun a b=>a.1<b.1
structure Inv (n:Nat) (M:Mem) (B:aV) (out:Nat->Nat) (Z:ASt) (t:Array Value) (w:World):Prop where
 size:t.size=n
 mem:∀ (b o:Nat) (v:Value),M b o=some v->w.cell? ⟨b,o,none⟩=some v/\v.oneCell'=true
 gu:jE Z.s
 slots:∀ k p,bU k Z.s=some p->k<n/\Rep M B p (t.getD k undef)/\Tl M w p (t.getD k undef)
 heap:qO M B w Z.h
 cnt:∀ b,fp B Z t w b+out b<=1
 new:∀ b,w.heap.size<=b->fp B Z t w b+out b=0
structure Fr (f:Nat->Nat) (M:Mem) (w:World) (M':Mem) (w':World):Prop where
 os:w'.os=w.os
 tape:w'.tape=w.tape
 output:w'.output=w.output
 size:w.heap.size<=w'.heap.size
 blk:∀ b,b<w.heap.size->f b=0->w'.heap[b]? = w.heap[b]? /\ ∀ o,M' b o=M b o
theorem Fr.refl (f:Nat->Nat) (M:Mem) (w:World):Fr f M w M w:=⟨rfl,rfl,rfl,bW _,fun _ _ _=>⟨rfl,fun _=>rfl⟩⟩
theorem Fr.trans {f g:Nat->Nat} {M M' M'':Mem} {w w' w'':World} (h:Fr f M w M' w') (k:Fr g M' w' M'' w'') (hg:∀ b,b<w.heap.size->f b=0->g b=0):Fr f M w M'' w'' :=⟨k.os.trans h.os,k.tape.trans h.tape,k.output.trans h.output,oM h.size k.size,fun b hb hf=>by obtain ⟨h1,h2⟩:=h.blk b hb hf;obtain ⟨k1,k2⟩:=k.blk b (QI hb h.size) (hg b hb hf);exact ⟨k1.trans h1,fun o=>(k2 o).trans (h2 o)⟩⟩
theorem Fr.mono {f g:Nat->Nat} {M M':Mem} {w w':World} (h:Fr f M w M' w') (hg:∀ b,b<w.heap.size->g b=0->f b=0):Fr g M w M' w' :=⟨h.os,h.tape,h.output,h.size,fun b hb h0=>h.blk b hb (hg b hb h0)⟩
structure Good (n:Nat) (out:Nat->Nat) (M:Mem) (B:aV) (Z:ASt) (t:Array Value) (w:World) (M':Mem) (B':aV) (Z':ASt) (t':Array Value) (w':World):Prop where
 inv:Inv n M' B' out Z' t' w'
 le:dJ M M' B B'
 fr:Fr (fp B Z t w) M w M' w'
 own:∀ b,b<w.heap.size->fp B' Z' t' w' b<=fp B Z t w b
theorem Good.refl {n:Nat} {out:Nat->Nat} {M:Mem} {B:aV} {Z:ASt} {t:Array Value} {w:World} (h:Inv n M B out Z t w):Good n out M B Z t w M B Z t w :=⟨h,dJ.refl _ _,Fr.refl _ _ _,fun _ _=>bW _⟩
theorem Good.trans {n:Nat} {out:Nat->Nat} {M M1 M2:Mem} {B B1 B2:aV} {Z Z1 Z2:ASt} {t t1 t2:Array Value} {w w1 w2:World}
 (h:Good n out M B Z t w M1 B1 Z1 t1 w1) (k:Good n out M1 B1 Z1 t1 w1 M2 B2 Z2 t2 w2):Good n out M B Z t w M2 B2 Z2 t2 w2 :=
 ⟨k.inv,h.le.trans k.le,h.fr.trans k.fr (fun b hb h0=>by have:=h.own b hb; omega),fun b hb=>oM (k.own b (QI hb h.fr.size)) (h.own b hb)⟩
theorem Jh {t:Array Value} {k j:Nat} {v:Value} (h:k≠j):(t.setIfInBounds k v).getD j undef=t.getD j undef:=by simp[h]
theorem O5 {t:Array Value} {k:Nat} {v:Value} (h:k<t.size):(t.setIfInBounds k v).getD k undef=v:=by simp[h]
theorem Cj {kp:Nat×PV} {l:fH}:jE (kp::l)↔(∀ a,a∈l->kp.1<a.1)/\jE l:=by simp[jE]
theorem aQ4 {k:Nat} {p:PV}:∀ {s:fH} {a:Nat×PV},a∈iF k p s->a=(k,p)\/a∈s
 | [],a,h=>by simpa[iF] using h
 | (j,q)::l,a,h=>by
  rw[iF] at h;split at h
  .rcases iQ.1 h with h | h
   .exact .inl h
   .exact .inr (by simp[h])
  .split at h
   .rcases iQ.1 h with h | h
    .exact .inl h
    .exact .inr h
   .rcases iQ.1 h with h | h
    .exact .inr (by simp[h])
    .rcases aQ4 h with h | h
     .exact .inl h
     .exact .inr (by simp[h])
theorem Ci {k:Nat} {p:PV}:∀ {s:fH},jE s->jE (iF k p s)
 | [],_=>by simp[iF,jE]
 | (j,q)::l,h=>by
  obtain ⟨h1,h2⟩:=Cj.1 h;rw[iF];split
  .rename_i e; subst e; exact Cj.2 ⟨h1,h2⟩
  .split
   .rename_i hlt; exact Cj.2 ⟨fun a ha=>by
     rcases iQ.1 ha with rfl | ha
     .exact hlt
     .exact Nat.lt_trans hlt (h1 a ha),h⟩
   .rename_i hne hnl; exact Cj.2 ⟨fun a ha=>by
     rcases aQ4 ha with rfl | ha
     .show j<k; omega
     .exact h1 a ha,Ci h2⟩
theorem PM {k:Nat}:∀ {s:fH},(∀ a,a∈s->k<a.1)->bU k s=none
 | [],_=>rfl
 | (j,q)::l,h=>by have:=h (j,q) (by simp);rw[bU,aK (by simp at this; omega)];exact PM fun a ha=>h a (by simp[ha])
theorem Cf {k:Nat} {p:PV} (j:Nat):∀ {s:fH},jE s->bU j (iF k p s)=if k=j then some p else bU j s
 | [],_=>by simp[iF,bU]
 | (i,q)::l,h=>by
  obtain ⟨h1,h2⟩:=Cj.1 h;rw[iF];split
  .rename_i e; subst e; simp only[bU]; split<;>rfl
  .split
   .simp only[bU]
   .rw[bU,Cf j h2,bU];by_cases h3:i=j
    .subst h3; rw[aJ rfl,aJ rfl,aK (by omega)]
    .rw[aK h3,aK h3]
theorem Zg {k:Nat} {p:PV}:∀ {s:fH},bU k s=some p->(k,p)∈s
 | [],h=>by simp[bU] at h
 | (j,q)::l,h=>by
  rw[bU] at h;split at h
  .rename_i e; subst e; injection h with h; subst h; simp
  .exact List.mem_cons_of_mem _ (Zg h)
theorem a6X {k:Nat} {v:Value} {t:Array Value} {b:Nat}:∀ {l:fH},(∀ a,a∈l->a.1≠k)->iD l (t.setIfInBounds k v) b=iD l t b
 | [],_=>rfl
 | (j,q)::l,h=>by rw[iD,iD,Jh (Ne.symm (h (j,q) (by simp))),a6X fun a ha=>h a (by simp[ha])]
def mM (s:fH) (t:Array Value) (k b:Nat):Nat:=match bU k s with | some q=>bI q (t.getD k undef) b | none=>0
theorem UN {k:Nat} {p:PV} {v:Value} {t:Array Value} {b:Nat} (hk:k<t.size):∀ {s:fH},jE s->iD (iF k p s) (t.setIfInBounds k v) b+mM s t k b=iD s t b+bI p v b
 | [],_=>by simp[iF,iD,mM,bU,hk]
 | (j,q)::l,h=>by
  obtain ⟨h1,h2⟩:=Cj.1 h;rw[iF];split
  .rename_i e; subst e;have hl:∀ a,a∈l->a.1≠j:=fun a ha=>by have:=h1 a ha; simp at this; omega
   simp only[iD,O5 hk,a6X hl,mM,bU,gV];omega
  .split
   .rename_i hne hlt;have hl:∀ a,a∈(j,q)::l->a.1≠k:=fun a ha=>by
     rcases iQ.1 ha with rfl | ha
     .exact hne
     .have:=h1 a ha; simp at this; omega
    have hn:bU k ((j,q)::l)=none:=PM fun a ha=>by
     rcases iQ.1 ha with rfl | ha
     .exact hlt
     .have:=h1 a ha; simp at this; omega
    rw[iD,O5 hk,a6X hl,mM,hn];show _+0=_;omega
   .rename_i hne hnl;have ih:=UN (p:=p) (v:=v) (b:=b) hk h2;have e1:mM ((j,q)::l) t k b=mM l t k b:=by simp only[mM,bU,aK hne]
    rw[e1,iD,iD,Jh (Ne.symm hne)];omega
theorem KR (p:PV) (v:Value) (b:Nat):bI p.un v b=0:=by simp[bI,qI]
theorem dO {p:PV} (h:p.own=false) (v:Value) (b:Nat):bI p v b=0:=by simp[bI,h]
theorem EN {s:fH} {t:Array Value} {k b:Nat}:mM s t k b<=iD s t b:=by
 induction s with
 | nil=>simp[mM,bU,iD]
 | cons a l ih =>
  obtain ⟨j,q⟩:=a;by_cases e:j=k
  .subst e;have:mM ((j,q)::l) t j b=bI q (t.getD j undef) b:=by simp only[mM,bU,gV]
   rw[this,iD]; omega
  .have:mM ((j,q)::l) t k b=mM l t k b:=by simp only[mM,bU,aK e]
   rw[this,iD]; omega
theorem fG {M:Mem} {w:World} {p:PV} {v:Value} (h:p.own=false):Tl M w p v:=⟨fun sz es A n cap e _=>by subst e; simp[PV.own] at h,fun l A n cap e _=>by subst e; simp[PV.own] at h,fun n z cs A m cap e _=>by subst e; simp[PV.own] at h⟩
section
variable {n:Nat} {M:Mem} {B:aV} {out:Nat->Nat} {Z:ASt} {t:Array Value} {w:World}
theorem Tl.kept {M':Mem} {w':World} {p:PV} {v:Value} (h:Tl M w p v) (hb:∀ b,bI p v b=1->w'.heap[b]? = w.heap[b]? /\ ∀ o,M' b o=M b o):Tl M' w' p v:=by
 refine ⟨fun sz es A n cap e ev => ?_,fun l A n cap e ev => ?_,fun n z cs A m cap e ev => ?_⟩
 .obtain ⟨g1,g2,g3⟩:=h.s sz es A n cap e ev;refine ⟨g1,g2,fun a ha => ?_⟩;obtain ⟨cs,ty,h1,h2,h3⟩:=g3 a ha;subst ha;obtain ⟨k1,k2⟩:=hb a.block (by subst e; subst ev; simp[bI,PV.own]);exact ⟨cs,ty,by rw[k1,h1],h2,fun o ho=>by rw[k2]; exact h3.1 o ho,h3.2⟩
 .obtain ⟨g1,g3⟩:=h.t l A n cap e ev;refine ⟨g1,fun a ha => ?_⟩;obtain ⟨cs,h1,h2,h2',h3⟩:=g3 a ha;subst ha;obtain ⟨k1,k2⟩:=hb a.block (by subst e; subst ev; simp[bI,PV.own]);exact ⟨cs,by rw[k1,h1],h2,h2',fun o ho=>by rw[k2]; exact h3.1 o ho,h3.2⟩
 .obtain ⟨g0,g1,g3⟩:=h.p n z cs A m cap e ev;refine ⟨g0,g1,fun a ha => ?_⟩;obtain ⟨vs,ty,h1,h2,h2',h3⟩:=g3 a ha;subst ha;obtain ⟨k1,k2⟩:=hb a.block (by subst e; subst ev; simp[bI,PV.own]);exact ⟨vs,ty,by rw[k1,h1],h2,h2',fun o=>by rw[k2]; exact h3.1 o,h3.2⟩
theorem Inv.put (hI:Inv n M B out Z t w) {k:Nat} (hk:k<n) {p:PV} {v:Value} (hr:Rep M B p v) (ho:p.own=false) :
 Good n out M B Z t w M B { Z with s:=iF k p Z.s } (t.setIfInBounds k v) w:=by
 have hle:∀ b,fp B { Z with s:=iF k p Z.s } (t.setIfInBounds k v) w b<=fp B Z t w b:=fun b=>by have:=UN (p:=p) (v:=v) (b:=b) (by rw[hI.size]; exact hk:k<t.size) hI.gu;rw[dO ho] at this;show iD (iF k p Z.s) (t.setIfInBounds k v) b+aU w Z.h B b<=iD Z.s t b+aU w Z.h B b;omega
 refine ⟨⟨by simp[hI.size],hI.mem,Ci hI.gu,fun j q hj => ?_,hI.heap,fun b=>by have:=hI.cnt b; have:=hle b; omega,fun b hb=>by have:=hI.new b hb; have:=hle b; omega⟩,dJ.refl _ _,Fr.refl _ _ _,fun b _=>hle b⟩;rw[Cf j hI.gu] at hj;split at hj
 .rename_i e; subst e; injection hj with hj; subst hj
  rw[O5 (by rw[hI.size]; exact hk)];exact ⟨hk,hr,fG ho⟩
 .rename_i hne;rw[Jh hne];exact hI.slots j q hj
theorem Inv.clr (hI:Inv n M B out Z t w) {k:Nat} {p:PV} (hp:bU k Z.s=some p):Inv n M B out { Z with s:=iF k p.un Z.s } t w/\∀ b,fp B { Z with s:=iF k p.un Z.s } t w b+bI p (t.getD k undef) b=fp B Z t w b:=by
 have hk:=(hI.slots k p hp).1;have hks:k<t.size:=by rw[hI.size]; exact hk
 have hset:t.setIfInBounds k (t.getD k undef)=t:=by
  apply Array.ext (by simp);intro i h1 h2;by_cases h:k=i
  .subst h; simp[hks]
  .rw[Q4 (by simpa using h1),aK h]
 have hown:∀ b,iD (iF k p.un Z.s) t b+bI p (t.getD k undef) b=iD Z.s t b:=fun b=>by have:=UN (p:=p.un) (v:=t.getD k undef) (b:=b) hks hI.gu;rw[hset,KR] at this;simp only[mM,hp] at this;omega
 refine ⟨⟨hI.size,hI.mem,Ci hI.gu,fun j q hj => ?_,hI.heap,fun b=>by have:=hI.cnt b; have:=hown b; simp only[fp] at *; omega,fun b hb=>by have:=hI.new b hb; have:=hown b; simp only[fp] at *; omega⟩,fun b=>by have:=hown b; simp only[fp]; omega⟩;rw[Cf j hI.gu] at hj;split at hj
 .rename_i e; subst e; injection hj with hj; subst hj
  exact ⟨hk,nU.2 (hI.slots _ _ hp).2.1,fG (qI _)⟩
 .exact hI.slots j q hj
theorem Inv.bK6 (hI:Inv n M B out Z t w) {k:Nat} (hk:k<n) {p:PV} {v:Value} (hr:Rep M B p v) (hT:Tl M w p v) (hc:∀ b,fp B Z t w b+bI p v b+out b<=1) (hn:∀ b,w.heap.size<=b->bI p v b=0) :
 Inv n M B out { Z with s:=iF k p Z.s } (t.setIfInBounds k v) w/\∀ b,fp B { Z with s:=iF k p Z.s } (t.setIfInBounds k v) w b<=fp B Z t w b+bI p v b:=by
 have hle:∀ b,fp B { Z with s:=iF k p Z.s } (t.setIfInBounds k v) w b<=fp B Z t w b+bI p v b:=fun b=>by have:=UN (p:=p) (v:=v) (b:=b) (by rw[hI.size]; exact hk:k<t.size) hI.gu;simp only[fp]; omega
 refine ⟨⟨by simp[hI.size],hI.mem,Ci hI.gu,fun j q hj => ?_,hI.heap,fun b=>by have:=hc b; have:=hle b; omega,fun b hb=>by have:=hI.new b hb; have:=hle b; have:=hn b hb; omega⟩,hle⟩;rw[Cf j hI.gu] at hj;split at hj
 .rename_i e; subst e; injection hj with hj; subst hj
  rw[O5 (by rw[hI.size]; exact hk)];exact ⟨hk,hr,hT⟩
 .rename_i hne;rw[Jh hne];exact hI.slots j q hj
end
section
variable {n:Nat} {M M':Mem} {B B':aV} {out:Nat->Nat} {Z:ASt} {t:Array Value} {w w':World}
theorem xh:∀ {cs:List PV} {vs:List Value} {j:Nat} {p:PV} {v:Value} (b:Nat),cs[j]? = some p->vs[j]? = some v->bI p v b<=dN cs vs b
 | [],_,_,_,_,_,h,_=>by simp at h
 | _::_,[],_,_,_,_,_,h=>by simp at h
 | q::cs,u::vs,0,p,v,b,h1,h2=>by simp at h1 h2; subst h1; subst h2; rw[dN]; omega
 | q::cs,u::vs,j+1,p,v,b,h1,h2=>by have:=xh (j:=j) b (by simpa using h1) (by simpa using h2); rw[dN]; omega
theorem kU:∀ {h:aI} {B:aV} {i:Nat} {cs:List PV} {c:Nat×Nat×TypeId} (b:Nat),h[i]? = some (some cs)->B[i]? = some c->(if c.1=b then 1 else 0)+dN cs (gZ w c.1) b<=aU w h B b
 | [],_,_,_,_,_,h,_=>by simp at h
 | _::_,[],_,_,_,_,_,h=>by simp at h
 | some ds::h,d::B,0,cs,c,b,h1,h2=>by simp at h1 h2; subst h1; subst h2; rw[aU]; omega
 | none::h,d::B,0,cs,c,b,h1,h2=>by simp at h1
 | some ds::h,d::B,i+1,cs,c,b,h1,h2=>by have:=kU (i:=i) (c:=c) b (by simpa using h1) (by simpa using h2); rw[aU]; omega
 | none::h,d::B,i+1,cs,c,b,h1,h2=>by have:=kU (i:=i) (c:=c) b (by simpa using h1) (by simpa using h2); rw[aU]; omega
theorem FW:∀ {h:aI} {B:aV} (b:Nat),(∀ (i:Nat) cs c,h[i]? = some (some cs)->B[i]? = some c->gZ w' c.1=gZ w c.1)->aU w' h B b=aU w h B b
 | [],_,_,_=>by simp[aU]
 | some _::_,[],_,_=>by simp[aU]
 | none::_,[],_,_=>by simp[aU]
 | some ds::h,d::B,b,H=>by rw[aU,aU,FW b (fun i cs c h1 h2=>H (i+1) cs c (by simpa using h1) (by simpa using h2)),H 0 ds d rfl rfl]
 | none::h,d::B,b,H=>by rw[aU,aU,FW b (fun i cs c h1 h2=>H (i+1) cs c (by simpa using h1) (by simpa using h2))]
theorem Ou {x:List PV} {c:Nat×Nat×TypeId}:∀ {h:aI} {B:aV} (b:Nat),h.length=B.length->aU w (h ++ [some x]) (B ++ [c]) b=aU w h B b+((if c.1=b then 1 else 0)+dN x (gZ w c.1) b)
 | [],[],b,_=>by simp[aU]
 | some ds::h,d::B,b,H=>by simp only[lM,aU]; rw[Ou b (by simpa using H)]; omega
 | none::h,d::B,b,H=>by simp only[lM,aU]; rw[Ou b (by simpa using H)]
 | [],_::_,_,H=>by simp at H
 | _::_,[],_,H=>by simp at H
theorem NC {b:Nat} (h:w'.heap[b]? = w.heap[b]?):gZ w' b=gZ w b:=by unfold gZ; rw[L6 h]
theorem oW {b:Nat} {vs:Array Value} {ty:Nat} (h:rowAt w b=some (vs,ty)):gZ w b=vs.toList:=by unfold gZ; rw[h]
theorem qO.at (h:qO M B w Z.h) {i:Nat} {cs:List PV} (hi:Z.h[i]? = some (some cs)) {c:Nat×Nat×TypeId} (hc:B[i]? = some c):a0K M B w cs c:=by obtain ⟨c',hc',ho⟩:=h.2 i cs hi;rw[hc] at hc'; cases hc'; exact ho
theorem Ov {b:Nat} (hI:Inv n M B out Z t w) (h:1<=fp B Z t w b+out b):b<w.heap.size:=by
 rcases lq b w.heap.size with h' | h'
 .exact h'
 .have:=hI.new b h'; omega
theorem Inv.ext (hI:Inv n M B out Z t w) (hle:dJ M M' B B) (hmem:∀ (b o:Nat) (v:Value),M' b o=some v->w'.cell? ⟨b,o,none⟩=some v/\v.oneCell'=true)
 (hb:∀ b,1<=fp B Z t w b->w'.heap[b]? = w.heap[b]? /\ ∀ o,M' b o=M b o) (hsz:w.heap.size<=w'.heap.size) :
 Inv n M' B out Z t w'/\∀ b,fp B Z t w' b=fp B Z t w b:=by
 have Bh:∀ (i:Nat) cs c,Z.h[i]? = some (some cs)->B[i]? = some c->1<=fp B Z t w c.1:=fun i cs c h1 h2=>by have:=kU (w:=w) c.1 h1 h2;simp only[gV] at this;simp only[fp]; omega
 have hfp:∀ b,fp B Z t w' b=fp B Z t w b:=fun b=>by simp only[fp];rw[FW b fun i cs c h1 h2=>NC (hb c.1 (Bh i cs c h1 h2)).1]
 refine ⟨⟨hI.size,hmem,hI.gu,fun k p hp => ?_,⟨hI.heap.1,fun i cs hi => ?_⟩,fun b=>by rw[hfp]; exact hI.cnt b,fun b h=>by rw[hfp]; exact hI.new b (oM hsz h)⟩,hfp⟩
 .obtain ⟨h1,h2,h3⟩:=hI.slots k p hp;refine ⟨h1,h2.mono hle,h3.kept fun b ho=>hb b ?_⟩;have:=EN (s:=Z.s) (t:=t) (k:=k) (b:=b);simp only[mM,hp] at this;simp only[fp]; omega
 .obtain ⟨c,hc,vs,ty,h1,h2,h3,h4,h5⟩:=hI.heap.2 i cs hi;have hcb:=hb c.1 (Bh i cs c hi hc);refine ⟨c,hc,vs,ty,by rw[L6 hcb.1,h1],h2,h3,fun j p hj => ?_,fun o=>by rw[hcb.2]; exact h5 o⟩;obtain ⟨v,hv,hr,hT,hone⟩:=h4 j p hj;refine ⟨v,hv,hr.mono hle,hT.kept fun b ho=>hb b ?_,hone⟩;have e1:=kU (w:=w) b hi hc;have e2:=xh b hj (by rw[oW h1]; simpa using hv:(gZ w c.1)[j]? = some v);simp only[fp]; omega
theorem Inv.drew (hI:Inv n M B out Z t w):Inv n M B out Z t w.drew/\Good n out M B Z t w M B Z t w.drew:=by have:=hI.ext (M':=M) (w':=w.drew) (dJ.refl _ _) (fun b o v h=>hI.mem b o v h) (fun b _=>⟨rfl,fun _=>rfl⟩) (bW _);exact ⟨this.1,this.1,dJ.refl _ _,⟨rfl,rfl,rfl,bW _,fun _ _ _=>⟨rfl,fun _=>rfl⟩⟩,fun b _=>by rw[this.2]; exact bW _⟩
def laid (M:Mem) (b:Nat) (vs:List Value):Mem:=CG M.m fun b' o=>if b'=b then vs[o]? else M b' o
theorem yP (hI:Inv n M B out Z t w) (o:Nat):M w.heap.size o=none:=by
 cases hm:M w.heap.size o with
 | none=>rfl
 | some v=>have:=yB _ _ (hI.mem _ o v hm).1; simp at this
theorem yO {M:Mem} {c:Nat} (h:∀ o,M c o=none) (vs:List Value) (b o:Nat):laid M c vs b o=if b=c then vs[o]? else M b o:=EJ (TD h) b o
theorem Tj (hI:Inv n M B out Z t w) (vs:List Value):dJ M (laid M w.heap.size vs) B B :=⟨fun b o v h=>by have:=yB _ _ (hI.mem b o v h).1;simp only at this;rw[yO (yP hI),aK (by omega)]; exact h,fun _ _ h=>h⟩
theorem Inv.lay (hI:Inv n M B out Z t w) (vs:Array Value) (ty:TypeId) (k:Nat) (h1:∀ v,v∈vs->v.oneCell'=true) :
 Good n out M B Z t w (laid M w.heap.size (vs.toList.take k)) B Z t (w.alloc (.cells vs ty))/\∀ b,fp B Z t (w.alloc (.cells vs ty)) b=fp B Z t w b:=by
 have hle:=Tj hI (vs.toList.take k);have hb:∀ b,1<=fp B Z t w b->(w.alloc (.cells vs ty)).heap[b]? = w.heap[b]? /\ ∀ o,laid M w.heap.size (vs.toList.take k) b o=M b o:=fun b hb=>by have:=Ov hI (by omega:1<=fp B Z t w b+out b);exact ⟨GY _ _ _ this,fun o=>by rw[yO (yP hI),aK (by omega)]⟩
 have:=hI.ext (w':=w.alloc (.cells vs ty)) hle (fun b o v h=>by
  by_cases e:b=w.heap.size
  .subst e;rw[yO (yP hI),aJ rfl,iO] at h;split at h
   .rw[World.cell?_alloc_new];exact ⟨by simpa using h,h1 v (a04 (by simpa using h))⟩
   .cases h
  .rw[yO (yP hI),aK e] at h;rw[aBC _ _ _ e]; exact hI.mem b o v h) hb (by simp)
 refine ⟨⟨this.1,hle,⟨rfl,rfl,rfl,by simp,fun b hb _=>⟨GY _ _ _ hb,fun o=>by rw[yO (yP hI),aK (by omega)]⟩⟩,fun b _=>by rw[this.2]; exact bW _⟩,this.2⟩
theorem Inv.aMZ (hI:Inv n M B out Z t w) (vs:Array Value) (ty:TypeId) (cs:List PV) (hl:cs.length<=vs.size)
 (hr:∀ (j:Nat) p,cs[j]? = some p->∃ v,vs[j]? = some v/\Rep M (B ++ [(w.heap.size,vs.size,ty+1)]) p v/\Tl M w p v/\v.oneCell'=true/\∀ b,bI p v b=0) :
 Good n out M B Z t w M (B ++ [(w.heap.size,vs.size,ty+1)]) { Z with h:=Z.h ++ [some cs] } t (w.alloc (.cells vs ty)):=by
 have hle:dJ M M B (B ++ [(w.heap.size,vs.size,ty+1)]):=⟨fun _ _ _ h=>h,fun i c h=>by rw[lF (eP.1 h).1]; exact h⟩;obtain ⟨hE,hF⟩:=(hI.ext (M':=M) (w':=w.alloc (.cells vs ty)) (dJ.refl _ _) (fun b o v h=>by have:=yB _ _ (hI.mem b o v h).1;simp only at this;rw[aBC _ _ _ (by simp; omega)]; exact hI.mem b o v h) (fun b hb=>⟨GY _ _ _ (Ov hI (by omega)),fun _=>rfl⟩) (by simp));have hC:∀ b,dN cs vs.toList b=0:=fun b=>by
  have key:∀ (cs:List PV) (us:List Value),(∀ (j:Nat) p,cs[j]? = some p->∃ v,us[j]? = some v/\∀ b,bI p v b=0)->dN cs us b=0:=by
   intro cs;induction cs with
   | nil=>intro us _; simp[dN]
   | cons p ps ih =>
    intro us h;obtain ⟨v,hv,h0⟩:=h 0 p rfl;cases us with
    | nil=>simp at hv
    | cons u us =>simp at hv; subst hv;rw[dN,h0,ih us fun j q hq=>by obtain ⟨v,hv,h0⟩:=h (j+1) q (by simpa using hq); exact ⟨v,by simpa using hv,h0⟩]
  exact key cs vs.toList fun j p hp=>by obtain ⟨v,hv,_,_,_,h0⟩:=hr j p hp; exact ⟨v,by simpa using hv,h0⟩
 have hat:gZ (w.alloc (.cells vs ty)) w.heap.size=vs.toList:=oW (CZ (QM w _));have hfp:∀ b,fp (B ++ [(w.heap.size,vs.size,ty+1)]) { Z with h:=Z.h ++ [some cs] } t (w.alloc (.cells vs ty)) b=fp B Z t w b+if w.heap.size=b then 1 else 0:=fun b=>by have:=hF b;simp only[fp] at this ⊢;rw[Ou b hI.heap.1,hat,hC];show _+(_+((if w.heap.size=b then 1 else 0)+0))=_;omega
 have hlast:∀ (i:Nat) (cs':List PV),(Z.h ++ [some cs])[i]? = some (some cs')->(i<Z.h.length/\Z.h[i]? = some (some cs'))\/(i=Z.h.length/\cs'=cs):=fun i cs' h=>by
  rcases lq i Z.h.length with hlt | hge
  .rw[lF hlt] at h; exact .inl ⟨hlt,h⟩
  .rw[vO hge] at h;have:i-Z.h.length=0:=by
    rcases Gg (i-Z.h.length) with h0 | h0
    .exact h0
    .rw[ww (by simp; omega)] at h; cases h
   rw[this] at h; simp at h; exact .inr ⟨by omega,h.symm⟩
 refine ⟨⟨hI.size,hE.mem,hI.gu,fun k p hp => ?_,⟨by simp[hI.heap.1],fun i cs' hi => ?_⟩,fun b => ?_,fun b hb => ?_⟩,hle,⟨rfl,rfl,rfl,by simp,fun b hb _=>⟨GY _ _ _ hb,fun _=>rfl⟩⟩,fun b hb=>by rw[hfp,aK (by omega)]; exact bW _⟩
 .obtain ⟨h1,h2,h3⟩:=hE.slots k p hp;exact ⟨h1,h2.mono hle,h3⟩
 .rcases hlast i cs' hi with ⟨hlt,hi'⟩ | ⟨rfl,rfl⟩
  .obtain ⟨c,hc,vs',ty',h1,h2,h3,h4,h5⟩:=hE.heap.2 i cs' hi';exact ⟨c,hle.blk _ _ hc,vs',ty',h1,h2,h3,fun j p hj=>by obtain ⟨v,a1,a2,a3,a4⟩:=h4 j p hj; exact ⟨v,a1,a2.mono hle,a3,a4⟩,h5⟩
  .refine ⟨(w.heap.size,vs.size,ty+1),by rw[hI.heap.1]; simp,vs,ty+1,CZ (QM w _),⟨rfl,rfl⟩,hl,fun j p hj => ?_,fun o => ?_⟩
   .obtain ⟨v,a1,a2,a3,a4,a5⟩:=hr j p hj;refine ⟨v,a1,a2,?_,a4⟩;exact a3.kept fun b hb=>by rw[a5] at hb; omega
   .cases hm:M w.heap.size o with
    | none=>rfl
    | some v=>have:=yB _ _ (hI.mem _ o v hm).1; simp at this
 .rw[hfp];have:=hI.cnt b;split
  .rename_i e; subst e; have:=hI.new _ (bW _); omega
  .omega
 .rw[hfp];simp at hb;have:=hI.new b (by omega);rw[aK (by omega)]; omega
theorem Inv.aM' (hI:Inv n M B out Z t w) (ob:Obj) (vs:Array Value) (T:Nat) (hrow:rowAt (w.alloc ob) w.heap.size=some (vs,T)) (cs:List PV) (hl:cs.length<=vs.size)
 (hr:∀ (j:Nat) p,cs[j]? = some p->∃ v,vs[j]? = some v/\Rep M (B ++ [(w.heap.size,vs.size,T)]) p v/\Tl M w p v/\v.oneCell'=true/\∀ b,bI p v b=0) :
 Good n out M B Z t w M (B ++ [(w.heap.size,vs.size,T)]) { Z with h:=Z.h ++ [some cs] } t (w.alloc ob):=by
 have hle:dJ M M B (B ++ [(w.heap.size,vs.size,T)]):=⟨fun _ _ _ h=>h,fun i c h=>by rw[lF (eP.1 h).1]; exact h⟩;obtain ⟨hE,hF⟩:=(hI.ext (M':=M) (w':=w.alloc ob) (dJ.refl _ _) (fun b o v h=>by have:=yB _ _ (hI.mem b o v h).1;simp only at this;rw[aBC _ _ _ (by simp; omega)]; exact hI.mem b o v h) (fun b hb=>⟨GY _ _ _ (Ov hI (by omega)),fun _=>rfl⟩) (by simp));have hC:∀ b,dN cs vs.toList b=0:=fun b=>by
  have key:∀ (cs:List PV) (us:List Value),(∀ (j:Nat) p,cs[j]? = some p->∃ v,us[j]? = some v/\∀ b,bI p v b=0)->dN cs us b=0:=by
   intro cs;induction cs with
   | nil=>intro us _; simp[dN]
   | cons p ps ih =>
    intro us h;obtain ⟨v,hv,h0⟩:=h 0 p rfl;cases us with
    | nil=>simp at hv
    | cons u us =>simp at hv; subst hv;rw[dN,h0,ih us fun j q hq=>by obtain ⟨v,hv,h0⟩:=h (j+1) q (by simpa using hq); exact ⟨v,by simpa using hv,h0⟩]
  exact key cs vs.toList fun j p hp=>by obtain ⟨v,hv,_,_,_,h0⟩:=hr j p hp; exact ⟨v,by simpa using hv,h0⟩
 have hat:gZ (w.alloc ob) w.heap.size=vs.toList:=oW (hrow);have hfp:∀ b,fp (B ++ [(w.heap.size,vs.size,T)]) { Z with h:=Z.h ++ [some cs] } t (w.alloc ob) b=fp B Z t w b+if w.heap.size=b then 1 else 0:=fun b=>by have:=hF b;simp only[fp] at this ⊢;rw[Ou b hI.heap.1,hat,hC];show _+(_+((if w.heap.size=b then 1 else 0)+0))=_;omega
 have hlast:∀ (i:Nat) (cs':List PV),(Z.h ++ [some cs])[i]? = some (some cs')->(i<Z.h.length/\Z.h[i]? = some (some cs'))\/(i=Z.h.length/\cs'=cs):=fun i cs' h=>by
  rcases lq i Z.h.length with hlt | hge
  .rw[lF hlt] at h; exact .inl ⟨hlt,h⟩
  .rw[vO hge] at h;have:i-Z.h.length=0:=by
    rcases Gg (i-Z.h.length) with h0 | h0
    .exact h0
    .rw[ww (by simp; omega)] at h; cases h
   rw[this] at h; simp at h; exact .inr ⟨by omega,h.symm⟩
 refine ⟨⟨hI.size,hE.mem,hI.gu,fun k p hp => ?_,⟨by simp[hI.heap.1],fun i cs' hi => ?_⟩,fun b => ?_,fun b hb => ?_⟩,hle,⟨rfl,rfl,rfl,by simp,fun b hb _=>⟨GY _ _ _ hb,fun _=>rfl⟩⟩,fun b hb=>by rw[hfp,aK (by omega)]; exact bW _⟩
 .obtain ⟨h1,h2,h3⟩:=hE.slots k p hp;exact ⟨h1,h2.mono hle,h3⟩
 .rcases hlast i cs' hi with ⟨hlt,hi'⟩ | ⟨rfl,rfl⟩
  .obtain ⟨c,hc,vs',ty',h1,h2,h3,h4,h5⟩:=hE.heap.2 i cs' hi';exact ⟨c,hle.blk _ _ hc,vs',ty',h1,h2,h3,fun j p hj=>by obtain ⟨v,a1,a2,a3,a4⟩:=h4 j p hj; exact ⟨v,a1,a2.mono hle,a3,a4⟩,h5⟩
  .refine ⟨(w.heap.size,vs.size,T),by rw[hI.heap.1]; simp,vs,T,hrow,⟨rfl,rfl⟩,hl,fun j p hj => ?_,fun o => ?_⟩
   .obtain ⟨v,a1,a2,a3,a4,a5⟩:=hr j p hj;refine ⟨v,a1,a2,?_,a4⟩;exact a3.kept fun b hb=>by rw[a5] at hb; omega
   .cases hm:M w.heap.size o with
    | none=>rfl
    | some v=>have:=yB _ _ (hI.mem _ o v hm).1; simp at this
 .rw[hfp];have:=hI.cnt b;split
  .rename_i e; subst e; have:=hI.new _ (bW _); omega
  .omega
 .rw[hfp];simp at hb;have:=hI.new b (by omega);rw[aK (by omega)]; omega
theorem Inv.newObj (hI:Inv n M B out Z t w) (vs:Array Value) (ty:TypeId) (cs:List PV) (hl:cs.length<=vs.size)
 (hr:∀ (j:Nat) p,cs[j]? = some p->∃ v,vs[j]? = some v/\Rep M B p v/\Tl M w p v/\v.oneCell'=true/\∀ b,bI p v b=0) :
 Good n out M B Z t w M (B ++ [(w.heap.size,vs.size,ty+1)]) { Z with h:=Z.h ++ [some cs] } t (w.alloc (.cells vs ty)) :=
 hI.aMZ vs ty cs hl fun j p hj=>by obtain ⟨v,a1,a2,a3⟩:=hr j p hj;exact ⟨v,a1,a2.mono ⟨fun _ _ _ h=>h,fun i c h=>by rw[lF (eP.1 h).1]; exact h⟩,a3⟩
theorem Inv.setCell (hI:Inv n M B out Z t w) {i j:Nat} {cs:List PV} {c:Nat×Nat×TypeId} (hi:Z.h[i]? = some (some cs)) (hc:B[i]? = some c) (hm:c.2.2≠0) (hj:j<cs.length) {p:PV} {v:Value}
 (hr:Rep M B p v) (hT:Tl M w p v) (h1:v.oneCell'=true) (hcnt:∀ b,fp B Z t w b+bI p v b+out b<=1) (hnew:∀ b,w.heap.size<=b->bI p v b=0) :
 Inv n M B out { Z with h:=Z.h.set i (some (cs.set j p)) } t (w.setCell ⟨c.1,j,none⟩ v)/\(∀ b,fp B { Z with h:=Z.h.set i (some (cs.set j p)) } t (w.setCell ⟨c.1,j,none⟩ v) b<=fp B Z t w b+bI p v b) /\
 Fr (fp B Z t w) M w M (w.setCell ⟨c.1,j,none⟩ v)/\w.frozen? ⟨c.1,j,none⟩=false/\(w.cell? ⟨c.1,j,none⟩).isSome=true:=by
 obtain ⟨vs,ty,r1,o2,o3,o4,o5⟩:=hI.heap.at hi hc;obtain ⟨ty,rfl,o1⟩:=ER r1 (by rw[o2.2]; exact hm);have hset:w.setCell ⟨c.1,j,none⟩ v=w.setRow c.1 (vs.setIfInBounds j v):=setCell_eq_setRow w c.1 j vs ty (0,0) v o1;have hblk:1<=fp B Z t w c.1:=by have:=kU (w:=w) c.1 hi hc;simp only[gV] at this;simp only[fp]; omega
 have hoth:∀ b,b≠c.1->(w.setCell ⟨c.1,j,none⟩ v).heap[b]? = w.heap[b]? := fun b hb=>Below.heap_setCell _ _ _ _ hb
 have hself:(w.setCell ⟨c.1,j,none⟩ v).heap[c.1]? = some (.cells (vs.setIfInBounds j v) ty (0,0)):=by rw[hset]; exact setRow_heap w c.1 vs _ ty (0,0) o1
 have YW:j<vs.size:=by omega
 have hne:∀ (i':Nat) cs' c',i'≠i->Z.h[i']? = some (some cs')->B[i']? = some c'->c'.1≠c.1:=by
  have key:∀ (h:aI) (B:aV) (i i':Nat) cs cs' c c',i'<i->h[i]? = some (some cs)->B[i]? = some c->h[i']? = some (some cs')->B[i']? = some c'->c.1=c'.1->2<=aU w h B c.1:=by
   intro h;induction h with
   | nil=>intro B i i' cs cs' c c' _ h1; simp at h1
   | cons x h ih =>
    intro B i i' cs cs' c c' hlt h1 h2 h3 h4 he;cases B with
    | nil=>simp at h2
    | cons d B =>
     cases i with
     | zero=>omega
     | succ i =>
      simp at h1 h2;cases i' with
      | zero =>simp at h3 h4; subst h3; subst h4;have:=kU (w:=w) c.1 h1 h2;simp only[gV] at this;rw[aU,aJ he.symm]; omega
      | succ i' =>simp at h3 h4;have:=ih B i i' cs cs' c c' (by omega) h1 h2 h3 h4 he;cases x<;>rw[aU]<;>omega
  intro i' cs' c' hii h1 h2 he;have hc1:=hI.cnt c.1;simp only[fp] at hc1;rcases lq i' i with hlt | hge
  .have:=key Z.h B i i' cs cs' c c' hlt hi hc h1 h2 he.symm; omega
  .have:=key Z.h B i' i cs' cs c' c (by omega) h1 h2 hi hc he; rw[he] at this; omega
 have hcell:∀ (i':Nat) cs' c',Z.h[i']? = some (some cs')->B[i']? = some c'->i'≠i->gZ (w.setCell ⟨c.1,j,none⟩ v) c'.1=gZ w c'.1:=fun i' cs' c' h1 h2 hii=>NC (hoth _ (hne i' cs' c' hii h1 h2))
 have hfp:∀ b,fp B { Z with h:=Z.h.set i (some (cs.set j p)) } t (w.setCell ⟨c.1,j,none⟩ v) b<=fp B Z t w b+bI p v b:=fun b=>by
  have key:∀ (cs:List PV) (us:List Value) (j:Nat),dN (cs.set j p) (us.set j v) b<=dN cs us b+bI p v b:=by
   intro cs;induction cs with
   | nil=>intro us j; simp[dN]
   | cons q qs ih =>
    intro us j;cases us with
    | nil=>simp[dN]
    | cons u us =>
     cases j with
     | zero=>simp only[Eh,dN]; omega
     | succ j=>have:=ih us j; simp only[yz,dN]; omega
  have TU:∀ (h:aI) (B:aV) (i:Nat),h[i]? = some (some cs)->B[i]? = some c->(∀ (i':Nat) cs' c',h[i']? = some (some cs')->B[i']? = some c'->i'≠i->gZ (w.setCell ⟨c.1,j,none⟩ v) c'.1=gZ w c'.1) ->
   aU (w.setCell ⟨c.1,j,none⟩ v) (h.set i (some (cs.set j p))) B b<=aU w h B b+bI p v b:=by
   intro h;induction h with
   | nil=>intro B i h1; simp at h1
   | cons x h ih =>
    intro B i h1 h2 h3;cases B with
    | nil=>simp at h2
    | cons d B =>
     cases i with
     | zero =>simp at h1 h2; subst h1; subst h2;have e1:=FW (w':=w.setCell ⟨d.1,j,none⟩ v) (w:=w) (h:=h) (B:=B) b (fun i' cs' c' a1 a2=>h3 (i'+1) cs' c' (by simpa using a1) (by simpa using a2) (by omega));simp only[Eh,aU];rw[e1,oW (CZ hself),oW r1,aRD];have:=key cs vs.toList j;omega
     | succ i =>
      simp at h1 h2;have:=ih B i h1 h2 (fun i' cs' c' a1 a2 a3=>h3 (i'+1) cs' c' (by simpa using a1) (by simpa using a2) (by omega));cases x with
      | none=>simp only[yz,aU]; exact this
      | some ds =>have e:=h3 0 ds d rfl rfl (by omega);simp only[yz,aU];rw[e]; omega
  have:=TU Z.h B i hi hc hcell;simp only[fp]; omega
 have hpb:∀ b,bI p v b=1->b≠c.1:=fun b hb e=>by subst e; have:=hcnt c.1; omega
 refine ⟨⟨hI.size,fun b o u h => ?_,hI.gu,fun k q hq => ?_,⟨by simp[hI.heap.1],fun i' cs' hi' => ?_⟩,fun b=>by have:=hfp b; have:=hcnt b; omega,fun b hb => ?_⟩,hfp,⟨rfl,rfl,rfl,by simp[World.setCell],fun b hb h0=>⟨hoth b fun e=>by subst e; omega,fun _=>rfl⟩⟩,by simp[World.frozen?,o1],by simp[World.cell?,o1,YW]⟩
 .have hm:=hI.mem b o u h;have hbc:b≠c.1:=fun e=>by subst e; rw[o5] at h; cases h
  exact ⟨(Lt (w:=w) (a:=⟨b,o,none⟩) (hoth b hbc)).trans hm.1,hm.2⟩
 .obtain ⟨s1,s2,s3⟩:=hI.slots k q hq;refine ⟨s1,s2,s3.kept fun b hb=>⟨hoth b fun e => ?_,fun _=>rfl⟩⟩;subst e;have e1:=EN (s:=Z.s) (t:=t) (k:=k) (b:=c.1);simp only[mM,hq] at e1;have e2:=hI.cnt c.1;have e3:=kU (w:=w) c.1 hi hc;simp only[gV] at e3;simp only[fp] at e2;omega
 .by_cases hii:i'=i
  .subst hii;rw[ql (eP.1 hi).1] at hi';injection hi' with hi'; injection hi' with hi'; subst hi'
   refine ⟨c,hc,vs.setIfInBounds j v,ty+1,CZ hself,by simpa using o2,by simpa using o3,fun j' q hq => ?_,o5⟩;by_cases hjj:j=j'
   .subst hjj;rw[ql hj] at hq; injection hq with hq; subst hq
    exact ⟨v,by simp[YW],hr,hT.kept fun b hb=>⟨hoth b (hpb b hb),fun _=>rfl⟩,h1⟩
   .rw[lN hjj] at hq;obtain ⟨u,a1,a2,a3,a4⟩:=o4 j' q hq;refine ⟨u,by rw[aRC hjj]; exact a1,a2,a3.kept fun b hb=>⟨hoth b fun e => ?_,fun _=>rfl⟩,a4⟩;subst e;have e2:=hI.cnt c.1;have e3:=kU (w:=w) c.1 hi hc;have e4:=xh c.1 hq (by rw[oW r1]; simpa using a1:(gZ w c.1)[j']? = some u);simp only[gV] at e3;simp only[fp] at e2;omega
  .rw[lN (Ne.symm hii)] at hi';obtain ⟨c',hc',vs',ty',a1,a2,a3,a4,a5⟩:=hI.heap.2 i' cs' hi';have hcc:=hne i' cs' c' hii hi' hc';refine ⟨c',hc',vs',ty',by rw[L6 (hoth _ hcc)]; exact a1,a2,a3,fun j' q hq => ?_,a5⟩;obtain ⟨u,b1,b2,b3,b4⟩:=a4 j' q hq;refine ⟨u,b1,b2,b3.kept fun b hb=>⟨hoth b fun e => ?_,fun _=>rfl⟩,b4⟩;subst e;have key:∀ (h:aI) (B:aV) (i i':Nat),i≠i'->h[i]? = some (some cs)->B[i]? = some c->h[i']? = some (some cs')->B[i']? = some c'->2<=aU w h B c.1:=by
    intro h;induction h with
    | nil=>intro B i i' _ h1; simp at h1
    | cons x h ih =>
     intro B i i' hlt h1 h2 h3 h4;have e4:=xh c.1 hq (by rw[oW a1]; simpa using b1:(gZ w c'.1)[j']? = some u);cases B with
     | nil=>simp at h2
     | cons d B =>
      cases i with
      | zero =>
       cases i' with
       | zero=>omega
       | succ i' =>simp at h1 h2 h3 h4; subst h1; subst h2;have:=kU (w:=w) d.1 h3 h4;rw[aU,aJ rfl]; omega
      | succ i =>
       simp at h1 h2;cases i' with
       | zero =>simp at h3 h4; subst h3; subst h4;have:=kU (w:=w) c.1 h1 h2;simp only[gV] at this;rw[aU]; omega
       | succ i' =>simp at h3 h4;have:=ih B i i' (by omega) h1 h2 h3 h4;cases x<;>rw[aU]<;>omega
   have e2:=hI.cnt c.1;have:=key Z.h B i i' (Ne.symm hii) hi hc hi' hc';simp only[fp] at e2;omega
 .have:=hfp b;simp[World.setCell] at hb;have e1:=hI.new b hb;have e2:=hnew b hb;omega
theorem Inv.setRow (hI:Inv n M B out Z t w) {i j:Nat} {cs:List PV} {c:Nat×Nat×TypeId} (hi:Z.h[i]? = some (some cs)) (hc:B[i]? = some c) {vs:Array Value} {T:Nat} (r1:rowAt w c.1=some (vs,T)) (hj:j<cs.length) {p:PV} {v:Value}
 (hr:Rep M B p v) (hT:Tl M w p v) (h1:v.oneCell'=true) (hcnt:∀ b,fp B Z t w b+bI p v b+out b<=1) (hnew:∀ b,w.heap.size<=b->bI p v b=0)
 {w':World} (hoth:∀ b,b≠c.1->w'.heap[b]? = w.heap[b]?) (hself:rowAt w' c.1=some (vs.setIfInBounds j v,T)) (hos:w'.os=w.os) (htp:w'.tape=w.tape) (hou:w'.output=w.output) (hsz:w'.heap.size=w.heap.size) :
 Inv n M B out { Z with h:=Z.h.set i (some (cs.set j p)) } t w'/\(∀ b,fp B { Z with h:=Z.h.set i (some (cs.set j p)) } t w' b<=fp B Z t w b+bI p v b) /\
 Fr (fp B Z t w) M w M w':=by
 obtain ⟨vs',ty,r1',o2,o3,o4,o5⟩:=hI.heap.at hi hc;rw[r1] at r1';injection r1' with r1'; injection r1' with e1 e2; subst e1; subst e2
 have hblk:1<=fp B Z t w c.1:=by have:=kU (w:=w) c.1 hi hc;simp only[gV] at this;simp only[fp]; omega
 have YW:j<vs.size:=by omega
 have hne:∀ (i':Nat) cs' c',i'≠i->Z.h[i']? = some (some cs')->B[i']? = some c'->c'.1≠c.1:=by
  have key:∀ (h:aI) (B:aV) (i i':Nat) cs cs' c c',i'<i->h[i]? = some (some cs)->B[i]? = some c->h[i']? = some (some cs')->B[i']? = some c'->c.1=c'.1->2<=aU w h B c.1:=by
   intro h;induction h with
   | nil=>intro B i i' cs cs' c c' _ h1; simp at h1
   | cons x h ih =>
    intro B i i' cs cs' c c' hlt h1 h2 h3 h4 he;cases B with
    | nil=>simp at h2
    | cons d B =>
     cases i with
     | zero=>omega
     | succ i =>
      simp at h1 h2;cases i' with
      | zero =>simp at h3 h4; subst h3; subst h4;have:=kU (w:=w) c.1 h1 h2;simp only[gV] at this;rw[aU,aJ he.symm]; omega
      | succ i' =>simp at h3 h4;have:=ih B i i' cs cs' c c' (by omega) h1 h2 h3 h4 he;cases x<;>rw[aU]<;>omega
  intro i' cs' c' hii h1 h2 he;have hc1:=hI.cnt c.1;simp only[fp] at hc1;rcases lq i' i with hlt | hge
  .have:=key Z.h B i i' cs cs' c c' hlt hi hc h1 h2 he.symm; omega
  .have:=key Z.h B i' i cs' cs c' c (by omega) h1 h2 hi hc he; rw[he] at this; omega
 have hcell:∀ (i':Nat) cs' c',Z.h[i']? = some (some cs')->B[i']? = some c'->i'≠i->gZ w' c'.1=gZ w c'.1:=fun i' cs' c' h1 h2 hii=>NC (hoth _ (hne i' cs' c' hii h1 h2))
 have hfp:∀ b,fp B { Z with h:=Z.h.set i (some (cs.set j p)) } t w' b<=fp B Z t w b+bI p v b:=fun b=>by
  have key:∀ (cs:List PV) (us:List Value) (j:Nat),dN (cs.set j p) (us.set j v) b<=dN cs us b+bI p v b:=by
   intro cs;induction cs with
   | nil=>intro us j; simp[dN]
   | cons q qs ih =>
    intro us j;cases us with
    | nil=>simp[dN]
    | cons u us =>
     cases j with
     | zero=>simp only[Eh,dN]; omega
     | succ j=>have:=ih us j; simp only[yz,dN]; omega
  have TU:∀ (h:aI) (B:aV) (i:Nat),h[i]? = some (some cs)->B[i]? = some c->(∀ (i':Nat) cs' c',h[i']? = some (some cs')->B[i']? = some c'->i'≠i->gZ w' c'.1=gZ w c'.1) ->
   aU w' (h.set i (some (cs.set j p))) B b<=aU w h B b+bI p v b:=by
   intro h;induction h with
   | nil=>intro B i h1; simp at h1
   | cons x h ih =>
    intro B i h1 h2 h3;cases B with
    | nil=>simp at h2
    | cons d B =>
     cases i with
     | zero =>simp at h1 h2; subst h1; subst h2;have e1:=FW (w':=w') (w:=w) (h:=h) (B:=B) b (fun i' cs' c' a1 a2=>h3 (i'+1) cs' c' (by simpa using a1) (by simpa using a2) (by omega));simp only[Eh,aU];rw[e1,oW (hself),oW r1,aRD];have:=key cs vs.toList j;omega
     | succ i =>
      simp at h1 h2;have:=ih B i h1 h2 (fun i' cs' c' a1 a2 a3=>h3 (i'+1) cs' c' (by simpa using a1) (by simpa using a2) (by omega));cases x with
      | none=>simp only[yz,aU]; exact this
      | some ds =>have e:=h3 0 ds d rfl rfl (by omega);simp only[yz,aU];rw[e]; omega
  have:=TU Z.h B i hi hc hcell;simp only[fp]; omega
 have hpb:∀ b,bI p v b=1->b≠c.1:=fun b hb e=>by subst e; have:=hcnt c.1; omega
 refine ⟨⟨hI.size,fun b o u h => ?_,hI.gu,fun k q hq => ?_,⟨by simp[hI.heap.1],fun i' cs' hi' => ?_⟩,fun b=>by have:=hfp b; have:=hcnt b; omega,fun b hb => ?_⟩,hfp,⟨hos,htp,hou,Nat.le_of_eq hsz.symm,fun b hb h0=>⟨hoth b fun e=>by subst e; omega,fun _=>rfl⟩⟩⟩
 .have hm:=hI.mem b o u h;have hbc:b≠c.1:=fun e=>by subst e; rw[o5] at h; cases h
  exact ⟨(Lt (w:=w) (a:=⟨b,o,none⟩) (hoth b hbc)).trans hm.1,hm.2⟩
 .obtain ⟨s1,s2,s3⟩:=hI.slots k q hq;refine ⟨s1,s2,s3.kept fun b hb=>⟨hoth b fun e => ?_,fun _=>rfl⟩⟩;subst e;have e1:=EN (s:=Z.s) (t:=t) (k:=k) (b:=c.1);simp only[mM,hq] at e1;have e2:=hI.cnt c.1;have e3:=kU (w:=w) c.1 hi hc;simp only[gV] at e3;simp only[fp] at e2;omega
 .by_cases hii:i'=i
  .subst hii;rw[ql (eP.1 hi).1] at hi';injection hi' with hi'; injection hi' with hi'; subst hi'
   refine ⟨c,hc,vs.setIfInBounds j v,T,hself,by simpa using o2,by simpa using o3,fun j' q hq => ?_,o5⟩;by_cases hjj:j=j'
   .subst hjj;rw[ql hj] at hq; injection hq with hq; subst hq
    exact ⟨v,by simp[YW],hr,hT.kept fun b hb=>⟨hoth b (hpb b hb),fun _=>rfl⟩,h1⟩
   .rw[lN hjj] at hq;obtain ⟨u,a1,a2,a3,a4⟩:=o4 j' q hq;refine ⟨u,by rw[aRC hjj]; exact a1,a2,a3.kept fun b hb=>⟨hoth b fun e => ?_,fun _=>rfl⟩,a4⟩;subst e;have e2:=hI.cnt c.1;have e3:=kU (w:=w) c.1 hi hc;have e4:=xh c.1 hq (by rw[oW r1]; simpa using a1:(gZ w c.1)[j']? = some u);simp only[gV] at e3;simp only[fp] at e2;omega
  .rw[lN (Ne.symm hii)] at hi';obtain ⟨c',hc',vs',ty',a1,a2,a3,a4,a5⟩:=hI.heap.2 i' cs' hi';have hcc:=hne i' cs' c' hii hi' hc';refine ⟨c',hc',vs',ty',by rw[L6 (hoth _ hcc)]; exact a1,a2,a3,fun j' q hq => ?_,a5⟩;obtain ⟨u,b1,b2,b3,b4⟩:=a4 j' q hq;refine ⟨u,b1,b2,b3.kept fun b hb=>⟨hoth b fun e => ?_,fun _=>rfl⟩,b4⟩;subst e;have key:∀ (h:aI) (B:aV) (i i':Nat),i≠i'->h[i]? = some (some cs)->B[i]? = some c->h[i']? = some (some cs')->B[i']? = some c'->2<=aU w h B c.1:=by
    intro h;induction h with
    | nil=>intro B i i' _ h1; simp at h1
    | cons x h ih =>
     intro B i i' hlt h1 h2 h3 h4;have e4:=xh c.1 hq (by rw[oW a1]; simpa using b1:(gZ w c'.1)[j']? = some u);cases B with
     | nil=>simp at h2
     | cons d B =>
      cases i with
      | zero =>
       cases i' with
       | zero=>omega
       | succ i' =>simp at h1 h2 h3 h4; subst h1; subst h2;have:=kU (w:=w) d.1 h3 h4;rw[aU,aJ rfl]; omega
      | succ i =>
       simp at h1 h2;cases i' with
       | zero =>simp at h3 h4; subst h3; subst h4;have:=kU (w:=w) c.1 h1 h2;simp only[gV] at this;rw[aU]; omega
       | succ i' =>simp at h3 h4;have:=ih B i i' (by omega) h1 h2 h3 h4;cases x<;>rw[aU]<;>omega
   have e2:=hI.cnt c.1;have:=key Z.h B i i' (Ne.symm hii) hi hc hi' hc';simp only[fp] at e2;omega
 .have:=hfp b;rw[hsz] at hb;have e1:=hI.new b hb;have e2:=hnew b hb;omega
end
structure TI where
 size:Nat
 bytes:Nat
 agg:Bool
 zero:List PV
def mP:Value->PV
 | .int k n => .int k n
 | .bool b => .bool b
 | .string s => .str s
 | .pointer none => .nilp
 | .slice none n c=>if n=0/\c=0 then .sl true 0 [] else .raw (.slice none n c)
 | .func fn f c=>if f.isEmpty/\c.isEmpty then .func fn [] [] else .raw (.func fn f c)
 | v => .raw v
def FT (z:Nat) (o:Bool) (es:List PV):PV:=match Nat.blt 1000000 z with
 | true => .fJ o 0 (z-1000000) []
 | false => .sl o z es
def PV.EP (z:Nat):PV->PV
 | .sl o s es=>if s=0 then FT z o es else .sl o s es
 | p=>p
theorem aN2 {M:Mem} {B:aV} {z:Nat} {o o':Bool} {es:List PV} {v:Value} (h:Rep M B (.sl o' 0 es) v):Rep M B (FT z o es) v:=by
 obtain ⟨A,c,rfl,h1,h2,h3,h4⟩:=jW.1 h;obtain ⟨h5,h6,h7⟩:=h3 rfl; subst h5;unfold FT;split
 .exact EO.2 ⟨A,c,rfl,BH _⟩
 .exact jW.2 ⟨A,c,rfl,h1,by simp,fun _=>⟨rfl,h6,h7⟩,by simp⟩
theorem bHA {z:Nat} {o:Bool} {es:List PV}:(FT z o es).own=o:=by unfold FT; split<;>rfl
theorem aN3 {M:Mem} {w:World} {z:Nat} {o:Bool} {es:List PV}:Tl M w (FT z o es) (.slice none es.length 0):=by
 unfold FT;split
 .rename_i hz;refine ⟨(fun _ _ _ _ _ e _=>by cases e),(fun _ _ _ _ e _=>by cases e),fun n sz cs A m cap e ev => ?_⟩;cases e; cases ev;rw[wz] at hz;exact ⟨⟨by simp,by omega⟩,fun _=>rfl,fun a h=>by cases h⟩
 .refine PW (fun l h=>by cases h) ?_;intro sz es' A n cap e ev;injection ev with e1 e2 e3; subst e1; subst e3
  exact ⟨fun _=>rfl,fun _=>rfl,fun a h=>by cases h⟩
def N9 (P:Program):Nat->TypeId->List Nat
 | 0,_ => []
 | k+1,t=>match P.underlying t with
  | some (.slice e) => [match P.info? e with | some i=>i.size | none=>0]
  | some (.struct fs)=>fs.toList.flatMap fun f=>N9 P k f.type
  | some (.array n e)=>(List.replicate n (N9 P k e)).flatten
  | _ => [0]
def ZE (v:Value):Option PV:=if v.oneCell' then some (mP v) else none
def aK4:TypeDesc->Bool
 | .struct _=>true
 | .array _ _=>true
 | _=>false
def ti (P:Program) (t:TypeId):Option TI :=
 match P.info? t with
 | none=>none
 | some i=>match i.zero,P.underlying t with
  | some z,some d=>if z.cells.toList.all (·.oneCell')&&z.cells.size==i.size then some ⟨i.size,i.bytes,aK4 d,z.cells.toList.map mP⟩ else none
  | _,_=>none
def fieldsOf (P:Program) (t:TypeId):Option (List (Nat×Nat×Bool)) :=
 match P.underlying t with
 | some (.struct fs)=>fs.toList.mapM fun f=>(ti P f.type).map fun i=>(f.offset,i.size,i.agg)
 | _=>none
def xN (P:Program) (t:TypeId):Option TypeId:=match P.underlying t with | some (.slice e)=>some e | _=>none
def jh (P:Program) (t:TypeId):Option TI:=(xN P t).bind (ti P)
def Ew (P:Program) (t:TypeId):Option (Nat×TI):=match P.underlying t with | some (.array n e)=>(ti P e).map fun i=>(n,i) | _=>none
theorem IY {M:Mem} {B:aV} {v:Value} (h:v.oneCell'=true):Rep M B (mP v) v:=by
 cases v with
 | int k n=>exact dS.2 rfl
 | bool b=>exact jo.2 rfl
 | string s=>exact iT.2 rfl
 | pointer a=>cases a with
  | none=>exact Fp.2 rfl
  | some a=>exact CX.2 ⟨rfl,h⟩
 | slice a n c=>cases a with
  | none =>
   simp only[mP];split
   .rename_i e; obtain ⟨rfl,rfl⟩:=e;exact jW.2 ⟨none,0,rfl,bW _,by simp,fun _=>⟨rfl,rfl,rfl⟩,by simp⟩
   .exact CX.2 ⟨rfl,h⟩
  | some a=>exact CX.2 ⟨rfl,h⟩
 | func fn f c =>
  simp only[mP];split
  .rename_i e;obtain ⟨h1,h2⟩:=e;have h1':f = #[]:=by simpa using h1
   have h2':c = #[]:=by simpa using h2
   subst h1'; subst h2';exact zk.2 ⟨#[],#[],rfl,eu.2 rfl,eu.2 rfl⟩
  .exact CX.2 ⟨rfl,h⟩
 | _=>exact CX.2 ⟨rfl,h⟩
theorem aRA (v:Value):(mP v).own=true->v = .slice none 0 0:=by
 intro h;cases v with
 | slice a n c=>cases a with
  | none =>
   simp only[mP] at h;split at h
   .rename_i e; obtain ⟨rfl,rfl⟩:=e; rfl
   .simp[PV.own] at h
  | some a=>simp[mP,PV.own] at h
 | pointer a=>cases a<;>simp[mP,PV.own] at h
 | func fn f c =>simp only[mP] at h;split at h<;>simp[PV.own] at h
 | _=>simp[mP,PV.own] at h
theorem a6Y (v:Value) (b:Nat):bI (mP v) v b=0:=by
 unfold bI;split
 .rename_i h; rw[aRA v h]
 .rfl
theorem bP6 (v:Value) (l:List UInt8):mP v ≠ .dB l:=by unfold mP; split<;>first | (intro h; cases h; done) | (split<;>(intro h; cases h))
theorem bP7 (v:Value) (n z:Nat) (cs:List PV):mP v ≠ .fJ true n z cs:=by unfold mP; split<;>first | (intro h; cases h; done) | (split<;>(intro h; cases h))
theorem aA5 {M:Mem} {w:World} (v:Value):Tl M w (mP v) v:=by refine PW (bP6 v) ?_ (bP7 v);intro sz es A n cap e ev;have:=aRA v (by rw[e]; rfl);rw[ev] at this;simp at this;obtain ⟨rfl,_,rfl⟩:=this;exact ⟨fun _=>rfl,fun _=>rfl,fun a h=>by cases h⟩
theorem aOM {M:Mem} {B:aV} {p:PV} {v:Value} (z:Nat) (h:Rep M B p v):Rep M B (p.EP z) v:=by
 cases p with
 | sl o s es =>
  rw[PV.EP];split
  .rename_i e; subst e; exact aN2 h
  .exact h
 | _=>exact h
theorem bKY (z:Nat) (p:PV):(p.EP z).own=p.own:=by
 cases p with
 | sl o s es =>
  rw[PV.EP];split
  .exact bHA
  .rfl
 | _=>rfl
theorem KN {M:Mem} {B:aV} {o:Bool} {es:List PV} {v:Value} (h:Rep M B (.sl o 0 es) v):v = .slice none 0 0/\es = []:=by obtain ⟨A,c,rfl,h1,h2,h3,h4⟩:=jW.1 h;obtain ⟨h5,h6,h7⟩:=h3 rfl;subst h5; subst h6; subst h7;exact ⟨rfl,rfl⟩
theorem bN5 {M:Mem} {B:aV} {w:World} {p:PV} {v:Value} (z:Nat) (hr:Rep M B p v) (h:Tl M w p v):Tl M w (p.EP z) v:=by
 cases p with
 | sl o s es =>
  rw[PV.EP];split
  .rename_i e; subst e;obtain ⟨rfl,rfl⟩:=KN hr;exact aN3
  .exact h
 | _=>exact h
def Ud:List Nat->List PV->List PV
 | z::zs,p::ps=>p.EP z::Ud zs ps
 | _,ps=>ps
def PV.zn (zs:List Nat):PV->PV
 | .agg cs => .agg (Ud zs cs)
 | p=>p.EP (zs.headD 0)
theorem aOS {M:Mem} {B:aV}:∀ {zs:List Nat} {ps:List PV} {vs:List Value},bC M B ps vs->bC M B (Ud zs ps) vs
 | [],ps,vs,h=>by cases ps<;>exact h
 | z::zs,[],vs,h=>h
 | z::zs,p::ps,vs,h=>by obtain ⟨u,us,rfl,h1,h2⟩:=dD.1 h;exact dD.2 ⟨u,us,rfl,aOM z h1,aOS h2⟩
theorem Ub {M:Mem} {B:aV} {p:PV} {v:Value} (zs:List Nat) (h:Rep M B p v):Rep M B (p.zn zs) v:=by
 cases p with
 | agg cs=>obtain ⟨vs,rfl,hr⟩:=qG.1 h; exact qG.2 ⟨vs,rfl,aOS hr⟩
 | _=>exact aOM (zs.headD 0) h
theorem aOT (zs:List Nat) (p:PV):(p.zn zs).own=p.own:=by
 cases p with
 | agg cs=>rfl
 | sl o s es=>exact bKY (zs.headD 0) (.sl o s es)
 | _=>rfl
theorem aNW (zs:List Nat) (p:PV) (v:Value) (b:Nat):bI (p.zn zs) v b=bI p v b:=by unfold bI; rw[aOT]
theorem aQP {M:Mem} {B:aV} {w:World} {p:PV} {v:Value} (zs:List Nat) (hr:Rep M B p v) (h:Tl M w p v):Tl M w (p.zn zs) v:=by
 cases p with
 | agg cs=>exact fG rfl
 | _=>exact bN5 (zs.headD 0) hr h
def PV.IR (z:Nat):PV->PV
 | .sl o s es=>if s=0 then FT z true es else .sl o s es
 | p=>p
def xg:List Nat->List PV->List PV
 | z::zs,p::ps=>p.IR z::xg zs ps
 | _,ps=>ps
theorem bKM {M:Mem} {B:aV} {p:PV} {v:Value} (z:Nat) (h:Rep M B p v):Rep M B (p.IR z) v:=by
 cases p with
 | sl o s es =>
  rw[PV.IR];split
  .rename_i e; subst e; exact aN2 h
  .exact h
 | _=>exact h
theorem bN4 {M:Mem} {B:aV} {w:World} {p:PV} {v:Value} (z:Nat) (hr:Rep M B p v) (h:Tl M w p v):Tl M w (p.IR z) v:=by
 cases p with
 | sl o s es =>
  rw[PV.IR];split
  .rename_i e; subst e;obtain ⟨rfl,rfl⟩:=KN hr;exact aN3
  .exact h
 | _=>exact h
theorem bHU {M:Mem} {B:aV} {p:PV} {v:Value} (z:Nat) (hr:Rep M B p v) (b:Nat):bI (p.IR z) v b=bI p v b:=by
 cases p with
 | sl o s es =>
  rw[PV.IR];split
  .rename_i e; subst e;obtain ⟨rfl,rfl⟩:=KN hr;unfold bI;split<;>simp
  .rfl
 | _=>rfl
theorem aNE {M:Mem} {B:aV} {v:Value} {p:PV} (h:ZE v=some p):Rep M B p v/\(∀ b,bI p v b=0)/\∀ w,Tl M w p v:=by
 unfold ZE at h;split at h
 .rename_i h1; cases h; exact ⟨IY h1,a6Y v,fun w=>aA5 v⟩
 .cases h
structure qy (P:Program) (t:TypeId) (I:TI) (i:TypeInfo) (z:Value) (d:TypeDesc):Prop where
 info:P.info? t=some i
 zero:i.zero=some z
 und:P.underlying t=some d
 one:∀ v,v∈z.cells->v.oneCell'=true
 Iy:z.cells.size=i.size
 size:I.size=i.size
 bytes:I.bytes=i.bytes
 agg:I.agg=aK4 d
 TT:I.zero=z.cells.toList.map mP
theorem GH {P:Program} {t:TypeId} {I:TI} (h:ti P t=some I):∃ i z d,qy P t I i z d:=by
 unfold ti at h;split at h
 .cases h
 .rename_i i hi;split at h
  .rename_i z d hz hd;split at h
   .rename_i hc;cases h;simp only[au,iC,oN] at hc;exact ⟨i,z,d,hi,hz,hd,fun v hv=>hc.1 v (by simpa using hv),hc.2,rfl,rfl,rfl,rfl⟩
   .cases h
  .cases h
section
variable {P:Program} {t:TypeId} {I:TI} {i:TypeInfo} {z:Value} {d:TypeDesc}
theorem qy.run_sizeOf (h:qy P t I i z d) (w:World):(sizeOf t).run P w = .ok I.size w:=by simp[sizeOf,typeInfo,h.info,h.size]
theorem qy.a9D (h:qy P t I i z d) (w:World):(isAgg t).run P w = .ok I.agg w:=by unfold isAgg;rw[kX,ed h.und w,h.agg];cases d<;>rfl
theorem qy.bLB (h:qy P t I i z d) (w:World):(zeroValue t).run P w = .ok z w:=by simp[zeroValue,typeInfo,h.info,h.zero]
end
theorem aMF {α β:Type} (f:α->Option β):∀ {l:List α} {r:List β},l.mapM f=some r->∀ {j:Nat} {y:β},r[j]? = some y->∃ x,l[j]? = some x/\f x=some y
 | [],r,h,j,y,hy=>by simp at h; subst h; simp at hy
 | a::l,r,h,j,y,hy=>by
  rw[List.mapM_cons] at h;cases hf:f a with
  | none=>simp[hf] at h
  | some b =>
   cases hm:l.mapM f with
   | none=>simp[hf,hm] at h
   | some bs =>
    simp[hf,hm] at h;subst h;cases j with
    | zero=>simp at hy; subst hy; exact ⟨a,rfl,hf⟩
    | succ j=>obtain ⟨x,h1,h2⟩:=aMF f hm (by simpa using hy); exact ⟨x,by simpa using h1,h2⟩
theorem aEA {P:Program} {t:TypeId} {fs:List (Nat×Nat×Bool)} (h:fieldsOf P t=some fs) {j:Nat} {o z:Nat} {g:Bool} (hj:fs[j]? = some (o,z,g)) :
 ∃ Fs f I i zv d,P.underlying t=some (.struct Fs)/\Fs[j]? = some f/\f.offset=o/\qy P f.type I i zv d/\I.size=z/\I.agg=g:=by
 unfold fieldsOf at h;split at h
 .rename_i Fs hu;obtain ⟨f,hf,hm⟩:=aMF _ h hj;cases ht:ti P f.type with
  | none=>simp[ht] at hm
  | some I =>simp[ht] at hm;obtain ⟨i,zv,d,hT⟩:=GH ht;exact ⟨Fs,f,I,i,zv,d,hu,by simpa using hf,hm.1,hT,hm.2.1,hm.2.2⟩
 .cases h
theorem zH {P:Program} {t:TypeId} {I:TI} (h:jh P t=some I):∃ e i z d,P.underlying t=some (.slice e)/\qy P e I i z d:=by
 unfold jh xN at h;split at h
 .rename_i e hu;obtain ⟨i,z,d,hT⟩:=GH (by simpa using h);exact ⟨e,i,z,d,hu,hT⟩
 .simp at h
theorem Vz {P:Program} {t:TypeId} {n:Nat} {I:TI} (h:Ew P t=some (n,I)):∃ e i z d,P.underlying t=some (.array n e)/\qy P e I i z d:=by
 unfold Ew at h;split at h
 .rename_i m e hu;cases ht:ti P e with
  | none=>simp[ht] at h
  | some I' =>simp[ht] at h;obtain ⟨rfl,rfl⟩:=h;obtain ⟨i,z,d,hT⟩:=GH ht;exact ⟨e,i,z,d,hu,hT⟩
 .cases h
def PV.one:PV->Bool
 | .agg _=>false
 | .tuple _=>false
 | _=>true
def wW (cs:List PV) (o z:Nat) (g:Bool):Option PV :=if g then (if o+z<=cs.length then some (.agg ((cs.drop o).take z)) else none) else (cs[o]?).bind fun p=>if p.one then some p.un else none
def Uo (q:PV) (o z:Nat) (g:Bool):Option PV :=
 match q with
 | .ptr i off=>some (.ptr i (off+o))
 | .cst (.agg cs)=>(wW cs o z g).map .cst
 | _=>none
def OE (op:BinOp) (k:IntKind) (a b:Int):Option PV :=
 match op with
 | .add=>some (.int k (k.wrap (a+b)))
 | .sub=>some (.int k (k.wrap (a-b)))
 | .mul=>some (.int k (k.wrap (a*b)))
 | .quo=>if b=0 then none else some (.int k (k.wrap (a.tdiv b)))
 | .rem=>if b=0 then none else some (.int k (a.tmod b))
 | .and=>some (.int k (k.wrap (BitVec.ofInt k.bits a &&& BitVec.ofInt k.bits b).toNat))
 | .or=>some (.int k (k.wrap (BitVec.ofInt k.bits a ||| BitVec.ofInt k.bits b).toNat))
 | .eql=>some (.bool (a==b))
 | .neq=>some (.bool (a != b))
 | .lss=>some (.bool (decide (a<b)))
 | .leq=>some (.bool (decide (a<=b)))
 | .gtr=>some (.bool (decide (b<a)))
 | .geq=>some (.bool (decide (b<=a)))
 | _=>none
def PN (op:BinOp) (k:IntKind) (a b:Int):Option PV :=
 if b<0 then none else match op with
 | .shl=>some (.int k (k.wrap (a*2 ^ min b.toNat k.bits)))
 | .shr=>some (.int k (a.fdiv (2 ^ min b.toNat k.bits)))
 | _=>none
def Un (op:BinOp) (a b:ByteArray):Option PV :=
 match op with
 | .add=>if a.size+b.size<=aQ then some (.str (a ++ b)) else none
 | .eql=>some (.bool (a.toList==b.toList))
 | .neq=>some (.bool (!(a.toList==b.toList)))
 | _=>none
def a0Y (op:BinOp) (a b:Bool):Option PV :=
 match op with
 | .eql=>some (.bool (a==b))
 | .neq=>some (.bool (!(a==b)))
 | _=>none
def CJ (op:BinOp) (is:Bool):Option PV :=
 match op with
 | .eql=>some (.bool is)
 | .neq=>some (.bool (!is))
 | _=>none
def a4Q (P:Program) (t:TypeId):Bool:=P.underlying t matches some .bool
def TQ (P:Program) (t:TypeId):Bool:=P.underlying t matches some (.pointer _)
def OH (P:Program) (t:TypeId):Bool:=P.underlying t matches some (.func _ _ _)
def uC (P:Program) (t:TypeId):Bool:=P.underlying t matches some .string
def aJ' (P:Program) (t:TypeId):Option IntKind:=match P.underlying t with | some (.int k)=>some k | _=>none
def RZ (P:Program) (E:TypeId->PV->PV->Option Bool) (cs ds:List PV):List Field->Option Bool
 | []=>some true
 | f::fs=>if f.name = "_" then none else match ti P f.type with
  | some I=>(match wW cs f.offset I.size I.agg,wW ds f.offset I.size I.agg with
   | some p,some q=>(match E f.type p q,RZ P E cs ds fs with
    | some b,some r=>some (b&&r)
    | _,_=>none)
   | _,_=>none)
  | none=>none
def NI (P:Program):Nat->TypeId->PV->PV->Option Bool
 | 0,_,_,_=>none
 | k+1,t,x,y=>match P.underlying t,x,y with
  | some (.int _),.int q a,.int q' b=>if q=q' then some (a==b) else none
  | some .bool,.bool a,.bool b=>some (a==b)
  | some .string,.str a,.str b=>some (a.toList==b.toList)
  | some (.struct fs),.agg cs,.agg ds=>if P.stoodInHeld t=true then none else RZ P (NI P k) cs ds fs.toList
  | _,_,_=>none
def BX (P:Program) (op:BinOp) (t:TypeId) (x y:PV):Option PV :=
 match x,y with
 | .int k a,.int k' b =>
  (match op with
  | .shl | .shr=>PN op k a b
  | _=>if k=k' then OE op k a b else none)
 | .str a,.str b=>Un op a b
 | .bool a,.bool b=>if a4Q P t then a0Y op a b else none
 | .ptr _ _,.nilp=>if TQ P t then CJ op false else none
 | .cst _,.nilp=>if TQ P t then CJ op false else none
 | .nilp,.nilp=>if TQ P t then CJ op true else none
 | .func _ _ _,.raw .nilFunc=>if OH P t then CJ op false else none
 | .raw .nilFunc,.raw .nilFunc=>if OH P t then CJ op true else none
 | .agg cs,.agg ds=>if P.eqGuardType P.depth t=true then none else (NI P 12 t (.agg cs) (.agg ds)).bind (CJ op)
 | _,_=>none
def a00 (op:UnOp) (x:PV):Option PV :=
 match op,x with
 | .neg,.int k n=>some (.int k (k.wrap (0-n)))
 | .not,.bool b=>some (.bool (!b))
 | _,_=>none
def XC (x:PV) (i:Nat):Option PV:=match x with | .tuple ps=>(ps[i]?).map PV.un | _=>none
def Yp (P:Program) (t:TypeId) (x:PV):Option PV :=
 match x with
 | .str s=>if uC P t then some (.int .i64 s.size) else none
 | .sl _ _ es=>(xN P t).map fun _ => .int .i64 es.length
 | .slh _ _ n _=>(xN P t).map fun _ => .int .i64 n
 | .fJ _ n _ _=>(xN P t).map fun _ => .int .i64 n
 | _=>none
def isByte:PV->Bool
 | .int k _=>k == .u8
 | _=>false
def WT:PV->Int
 | .int _ n=>n
 | _=>0
def a1A (es:List PV):Bool:=es.all isByte
def strOf (es:List PV):ByteArray:=(es.map WT).foldl (fun r n=>r.push (UInt8.ofNat n.toNat)) ByteArray.empty
def OG (P:Program) (s:TypeId):Bool:=match P.underlying s with
 | some (.slice e)=>(match P.underlying e with | some (.int k)=>k == .u8 | _=>false)
 | _=>false
def RN (P:Program) (s d:TypeId) (x:PV):Option PV :=
 match x with
 | .sl _ _ es=>if OG P s=true/\uC P d=true/\a1A es=true then some (.str (strOf es)) else none
 | .int _ n=>match aJ' P d with | some k=>(match P.underlying s with | some _=>some (.int k (k.wrap n)) | none=>none) | none=>none
 | .str a=>match P.underlying s,P.underlying d with | some .string,some .string=>some (.str a) | _,_=>none
 | _=>none
def Z5:List PV->Option PV
 | [.int k a,.int k' b]=>if k=k' then some (.int k (if b<a then b else a)) else none
 | _=>none
def Z4:List PV->Option PV
 | [.int k a,.int k' b]=>if k=k' then some (.int k (if b>a then b else a)) else none
 | [.int k a,.int k1 b,.int k2 c,.int k3 d]=>if k=k1/\k=k2/\k=k3 then some (.int k (if d>(if c>(if b>a then b else a) then c else (if b>a then b else a)) then d else (if c>(if b>a then b else a) then c else (if b>a then b else a)))) else none
 | _=>none
def vF (P:Program) (t:TypeId) (x:PV) (lo hi:Option PV):Option PV :=
 let bound (d:Nat):Option PV->Option Int
  | none=>some d
  | some (.int _ n)=>some n
  | _=>none
 match x with
 | .str s=>match bound 0 lo,bound s.size hi with
  | some l,some h=>if uC P t/\0<=l/\l<=h/\h<=s.size then some (.str (s.extract l.toNat h.toNat)) else none
  | _,_=>none
 | .sl _ sz es=>match bound 0 lo,bound es.length hi with
  | some l,some h=>if (jh P t).map TI.size=some sz/\0<=l/\l<=h/\h<=es.length then some (.sl false sz ((es.take h.toNat).drop l.toNat)) else none
  | _,_=>none
 | .slh i off n sz=>match bound 0 lo,bound n hi with
  | some l,some h=>if (jh P t).map TI.size=some sz/\0<=l/\l<=h/\h<=n/\0<sz then (if l<n then some (.slh i (off+l.toNat*sz) (h.toNat-l.toNat) sz) else some (.sl false sz [])) else none
  | _,_=>none
 | _=>none
def Zk (P:Program) (t:TypeId) (x a b c:PV):Option PV :=
 match x,a,b,c with
 | .sl _ sz es,.int _ l,.int _ h,.int _ m=>if (jh P t).map TI.size=some sz/\0<=l/\l<=h/\h<=m/\m<=es.length then some (.sl false sz ((es.take h.toNat).drop l.toNat)) else none
 | _,_,_,_=>none
def jL:List (Option PV)->Option (List PV)
 | []=>some []
 | none::_=>none
 | some p::l=>(jL l).map (p :: ·)
def PV.newCells (p:PV):Option (List PV):=match p with | .agg ds=>if ds.all PV.one then some (ds.map PV.un) else none | q=>if q.one then some [q.un] else none
def F6 (place:Nat->Option (Nat×Nat)):List PV->List (Nat×PV)->Option (List PV)
 | cs,[]=>some cs
 | cs,(i,p)::ps=>match place i,p.newCells with
  | some (o,z),some new=>if new.length=z/\o+z<=cs.length then F6 place (cs.take o ++ new ++ cs.drop (o+z)) ps else none
  | _,_=>none
def uG (rd:Operand->Option PV):List (Nat×Operand)->Option (List (Nat×PV))
 | []=>some []
 | (i,x)::l=>match rd x,uG rd l with
  | some p,some ps=>some ((i,p)::ps)
  | _,_=>none
def Fb (P:Program) (rd:Operand->Option PV) (c:Call):Option PV :=
 match c.callee with
 | .builtin .len=>(match c.args.toList,c.argTypes.toList with
  | [x],[t]=>(rd x).bind (Yp P t)
  | _,_=>none)
 | .builtin .min=>(jL (c.args.toList.map rd)).bind Z5
 | .builtin .max=>(jL (c.args.toList.map rd)).bind Z4
 | _=>none
def pop (P:Program) (rd:Operand->Option PV):Op->Option PV
 | .move x=>rd x
 | .assign x=>rd x
 | .pick c a b=>match rd c with
  | some (.bool c)=>if c then rd a else rd b
  | _=>none
 | .fieldAddr s x f=>match fieldsOf P s,rd x with
  | some fs,some q=>(fs[f]?).bind fun (o,z,g)=>if z=0 then none else Uo q o z g
  | _,_=>none
 | .field s x f=>match fieldsOf P s,rd x with
  | some fs,some (.agg cs)=>(fs[f]?).bind fun (o,z,g)=>wW cs o z g
  | _,_=>none
 | .indexAddr t x i=>match rd x,rd i with
  | some (.sl _ sz es),some (.int _ n)=>if (jh P t).map TI.size=some sz/\0<=n then (es[n.toNat]?).map .cst else none
  | some (.slh i off m sz),some (.int _ n)=>if (jh P t).map TI.size=some sz/\0<=n/\n<m then some (.ptr i (off+n.toNat*sz)) else none
  | some (.ptr i off),some (.int _ n)=>match Ew P t with
   | some (m,I)=>if 0<=n/\n<m then some (.ptr i (off+n.toNat*I.size)) else none
   | none=>none
  | some (.cst (.agg cs)),some (.int _ n)=>match Ew P t with
   | some (m,I)=>if 0<=n/\n<m then (wW cs (n.toNat*I.size) I.size I.agg).map .cst else none
   | none=>none
  | _,_=>none
 | .index t x i=>match rd x,rd i with
  | some (.str s),some (.int _ n)=>if uC P t/\0<=n then (s[n.toNat]?).map fun b => .int .u8 b.toNat else none
  | some (.agg cs),some (.int _ n)=>match Ew P t with
   | some (m,I)=>if 0<=n/\n<m then wW cs (n.toNat*I.size) I.size I.agg else none
   | none=>none
  | _,_=>none
 | .slice t x lo hi none=>match rd x with
  | some q=>match lo,hi with
   | none,none=>vF P t q none none
   | some l,none=>(rd l).bind fun a=>vF P t q (some a) none
   | none,some h=>(rd h).bind fun b=>vF P t q none (some b)
   | some l,some h=>(rd l).bind fun a=>(rd h).bind fun b=>vF P t q (some a) (some b)
  | none=>none
 | .slice t x (some l) (some h) (some m)=>match rd x,rd l,rd h,rd m with
  | some q,some a,some b,some c=>Zk P t q a b c
  | _,_,_,_=>none
 | .binOp op t x y _=>match rd x,rd y with
  | some a,some b=>BX P op t a b
  | _,_=>none
 | .unOp op _ x=>(rd x).bind (a00 op)
 | .convert s d x=>(rd x).bind (RN P s d)
 | .makeFunc fn first caps=>match jL (first.toList.map rd),jL (caps.toList.map rd) with
  | some f,some c=>some (.func fn f c)
  | _,_=>none
 | .extract x i=>(rd x).bind (XC · i)
 | .nilCheck x=>match rd x with
  | some (.ptr i o)=>some (.ptr i o)
  | some (.cst e)=>some (.cst e)
  | some (.func (.func f) a b)=>some (.func (.func f) a b)
  | _=>none
 | .build t ps=>match ti P t,uG rd ps.toList with
  | some I,some qs=>match fieldsOf P t,Ew P t with
   | some fs,none=>(F6 (fun i=>(fs[i]?).map fun f=>(f.1,f.2.1)) (I.zero.map PV.un) qs).map .agg
   | none,some (_,J)=>(F6 (fun i=>some (i*J.size,J.size)) (I.zero.map PV.un) qs).map .agg
   | _,_=>none
  | _,_=>none
 | .call c=>Fb P rd c
 | _=>none
section
abbrev bSH:=List PV
abbrev bSI:=List UInt8
variable {P:Program} {M:Mem} {B:aV}
theorem ZY {cs:bSH} {vs:List Value} (h:bC M B cs vs) (o z:Nat):bC M B ((cs.drop o).take z) ((vs.drop o).take z):=by
 have hl:=qH h;refine IZ (by simp[hl]) fun j p u hp hu => ?_
 rw[iO] at hp hu;split at hp
 .rename_i hj;rw[aJ hj] at hu;rw[GZ] at hp hu;obtain ⟨u',h1,h2⟩:=wS h hp;rw[h1] at hu; cases hu; exact h2
 .cases hp
theorem extract_toList (cs:Array Value) (o z:Nat):(cs.extract o (o+z)).toList=(cs.toList.drop o).take z:=by simp[Array.toList_extract,List.extract_eq_take_drop]
theorem aAW (p:PV):p.un.one=p.one:=by cases p<;>rfl
theorem Zq {cs:bSH} {vs:Array Value} (h:bC M B cs vs.toList) {t:TypeId} {I:TI} {i:TypeInfo} {zv:Value} {d:TypeDesc} (hT:qy P t I i zv d) {o:Nat} {p:PV} (hs:wW cs o I.size I.agg=some p) (w:World) :
 ∃ v,(part t vs o).run P w = .ok v w/\Rep M B p v/\p.own=false:=by
 unfold wW at hs;unfold part;rw[kX,hT.a9D w];split at hs
 .rename_i hg;split at hs
  .cases hs;simp only[hg,gV,qM,kX,hT.run_sizeOf w,DN];exact ⟨_,rfl,qG.2 ⟨_,rfl,by rw[extract_toList]; exact ZY h _ _⟩,rfl⟩
  .cases hs
 .rename_i hg;cases hc:cs[o]? with
  | none=>simp[hc] at hs
  | some q =>
   simp only[hc,xA] at hs;split at hs
   .cases hs;obtain ⟨u,hu,hr⟩:=wS h hc;have hu':vs[o]? = some u:=by simpa using hu
    have hg':I.agg=false:=by simpa using hg
    simp only[hg',uP,tX,qM,hu'];exact ⟨u,rfl,nU.2 hr,qI q⟩
   .cases hs
theorem Bq {p:PV} (h1:p.one=true) {b o:Nat}:Loc M B p b o↔∃ u,M b o=some u/\Rep M B p u :=yQ (by cases p<;>first | rfl | (simp[PV.one] at h1)) (fun cs e=>by subst e; simp[PV.one] at h1)
theorem aQL {cs:bSH} {b off:Nat} (h:Cells M B cs b off) {o z:Nat} {g:Bool} {p:PV} (hs:wW cs o z g=some p):Loc M B p b (off+o):=by
 unfold wW at hs;split at hs
 .split at hs
  .cases hs;refine zV.2 (H5 fun j q hq => ?_);rw[iO] at hq;split at hq
   .rw[GZ] at hq;have:=ND h hq;rwa [show off+(o+j)=off+o+j by omega] at this
   .cases hq
  .cases hs
 .cases hc:cs[o]? with
  | none=>simp[hc] at hs
  | some q =>
   simp only[hc,xA] at hs;split at hs
   .rename_i h1;cases hs;rw[a5'];exact (Bq h1).2 (ND h hc)
   .cases hs
theorem add_lit (b o k:Nat):(⟨b,o,none⟩:Addr).add k=⟨b,o+k,none⟩:=by unfold Addr.add; split<;>simp_all
theorem bMQ {q:PV} {v:Value} (hq:Rep M B q v) {s:TypeId} {fs:List (Nat×Nat×Bool)} (hf:fieldsOf P s=some fs) {f o z:Nat} {g:Bool} (hj:fs[f]? = some (o,z,g)) (hz:z≠0) {p:PV} (hs:Uo q o z g=some p) (w:World) :
 ∃ u,(Instr.fieldAt s v f).run P w = .ok u w/\Rep M B p u/\p.own=false:=by
 obtain ⟨Fs,F,I,i,zv,d,hu,hF,ho,hT,hsz,hg⟩:=aEA hf hj;subst ho; subst hsz; subst hg;have run:∀ b off,(Instr.fieldAt s (.pointer (some ⟨b,off,none⟩)) f).run P w = .ok (.pointer (some ⟨b,off+F.offset,none⟩)) w:=fun b off=>by simp[Instr.fieldAt,ed hu,hF,Instr.sureAddr,fieldPlace,hT.run_sizeOf w,hz,add_lit]
 unfold Uo at hs;split at hs
 .rename_i i off;cases hs;obtain ⟨c,hc,rfl⟩:=wQ.1 hq;exact ⟨_,run _ _,wQ.2 ⟨c,hc,rfl⟩,rfl⟩
 .rename_i cs;cases hv:wW cs F.offset I.size I.agg with
  | none=>simp[hv] at hs
  | some r =>simp[hv] at hs; subst hs;obtain ⟨b,off,rfl,hl⟩:=Au.1 hq;exact ⟨_,run _ _,Au.2 ⟨b,_,rfl,aQL (zV.1 hl) hv⟩,rfl⟩
 .cases hs
theorem bD6 {op:BinOp} {k:IntKind} {a b:Int} {p:PV} (h:OE op k a b=some p) (hop:op ≠ .shl/\op ≠ .shr) (t:TypeId) (w:World) :
 ∃ v,(binOp op t (.int k a) (.int k b)).run P w = .ok v w/\Rep M B p v/\p.own=false:=by
 cases op<;>simp only[OE,reduceCtorEq] at h<;>first
  | (cases h; exact ⟨_,by simp[binOp,Op.intArith,Op.intBits,Op.intCmp]; first | rfl | done,by first | exact dS.2 rfl | exact jo.2 rfl,rfl⟩)
  | (split at h; exact absurd h (by simp); rename_i h0; cases h; exact ⟨_,by simp[binOp,Op.intDiv,h0]; first | rfl | done,by first | exact dS.2 rfl | exact jo.2 rfl,rfl⟩)
  | (exact absurd rfl hop.1)
  | (exact absurd rfl hop.2)
theorem aPT {op:BinOp} {k k':IntKind} {a b:Int} {p:PV} (h:PN op k a b=some p) (t:TypeId) (w:World) :
 ∃ v,(binOp op t (.int k a) (.int k' b)).run P w = .ok v w/\Rep M B p v/\p.own=false:=by
 unfold PN at h;split at h
 .cases h
 .rename_i hb;cases op<;>simp only[reduceCtorEq] at h
  .cases h; exact ⟨_,by simp[binOp,Op.shift,hb],dS.2 rfl,rfl⟩
  .cases h; exact ⟨_,by simp[binOp,Op.shift,hb],dS.2 rfl,rfl⟩
theorem bMK {op:BinOp} {a b:ByteArray} {p:PV} (h:Un op a b=some p) (t:TypeId) (w:World) :
 ∃ v,(binOp op t (.string a) (.string b)).run P w = .ok v w/\Rep M B p v/\p.own=false:=by
 cases op<;>simp only[Un,reduceCtorEq] at h
 .split at h
  .rename_i hl;cases h;have h':¬ (((a.size+b.size:Nat):Int)>IntKind.i64.max):=by
    have:IntKind.i64.max=9223372036854775807:=by decide
    rw[this]; unfold aQ at hl; omega
   refine ⟨_,?_,iT.2 rfl,rfl⟩;simp only[binOp,Op.stringOp,aK h'];rfl
  .cases h
 .cases h; exact ⟨_,rfl,jo.2 rfl,rfl⟩
 .cases h; exact ⟨_,rfl,jo.2 rfl,rfl⟩
theorem Dp {op:BinOp} {t:TypeId} {x y:Operand} {a b:Value} (ha:a ≠ .nilIface/\∀ cs,a ≠ .agg cs) (w:World):(eqGuard op t x y a b).run P w = .ok () w:=by
 cases a with
 | nilIface=>exact absurd rfl ha.1
 | agg cs=>exact absurd rfl (ha.2 cs)
 | _=>cases op<;>simp[eqGuard]
theorem aVB {t:TypeId} (h:P.underlying t=some .bool) (d:Nat) (a b:Bool) (w:World):(Op.equalIn (d+1) t (.bool a) (.bool b)).run P w = .ok (a==b) w:=by rw[Op.equalIn,kX,ed h w]; rfl
theorem aDR {t e:TypeId} (h:P.underlying t=some (.pointer e)) (d:Nat) (a:Addr) (w:World):(Op.equalIn (d+1) t (.pointer (some a)) (.pointer none)).run P w = .ok false w:=by rw[Op.equalIn,kX,ed h w]; rfl
theorem aVE {t e:TypeId} (h:P.underlying t=some (.pointer e)) (d:Nat) (w:World):(Op.equalIn (d+1) t (.pointer none) (.pointer none)).run P w = .ok true w:=by rw[Op.equalIn,kX,ed h w]; rfl
theorem aVD {t:TypeId} {x y:Array TypeId} {z:Bool} (h:P.underlying t=some (.func x y z)) (d:Nat) (f:Fn) (a b:Array Value) (w:World):(Op.equalIn (d+1) t (.func f a b) .nilFunc).run P w = .ok false w:=by rw[Op.equalIn,kX,ed h w]; rfl
theorem aVC {t:TypeId} {x y:Array TypeId} {z:Bool} (h:P.underlying t=some (.func x y z)) (d:Nat) (w:World):(Op.equalIn (d+1) t .nilFunc .nilFunc).run P w = .ok true w:=by rw[Op.equalIn,kX,ed h w]; rfl
theorem JO {t:TypeId} {a b:Value} {r:Bool} {w:World} (h:∀ d,(Op.equalIn (d+1) t a b).run P w = .ok r w):(Op.equal t a b).run P w = .ok r w:=h 9999
theorem bD8 {t:TypeId} (h:a4Q P t=true):P.underlying t=some .bool:=by
 unfold a4Q at h; split at h
 .assumption
 .cases h
theorem TR {t:TypeId} (h:uC P t=true):P.underlying t=some .string:=by
 unfold uC at h; split at h
 .assumption
 .cases h
theorem a4R {t:TypeId} (h:TQ P t=true):∃ e,P.underlying t=some (.pointer e):=by
 unfold TQ at h; split at h
 .rename_i e he; exact ⟨e,he⟩
 .cases h
theorem aK6 {t:TypeId} (h:OH P t=true):∃ a b c,P.underlying t=some (.func a b c):=by
 unfold OH at h; split at h
 .rename_i a b c he; exact ⟨a,b,c,he⟩
 .cases h
theorem KL {op:BinOp} {is:Bool} {p:PV} (h:CJ op is=some p) {t:TypeId} {a b:Value} {w:World} (he:(Op.equal t a b).run P w = .ok is w)
 (hab:∀ op,op = .eql\/op = .neq->binOp op t a b=(if op = .eql then do pure (.bool (<- Op.equal t a b)) else do pure (.bool (!(<- Op.equal t a b))))) :
 ∃ v,(binOp op t a b).run P w = .ok v w/\Rep M B p v/\p.own=false:=by
 cases op<;>simp only[CJ,reduceCtorEq] at h
 .cases h; rw[hab _ (.inl rfl)]; exact ⟨.bool is,by simp[he],jo.2 rfl,rfl⟩
 .cases h; rw[hab _ (.inr rfl)]; exact ⟨.bool (!is),by simp[he],jo.2 rfl,rfl⟩
theorem aDQ {d:Nat} {E:TypeId->PV->PV->Option Bool} (hE:∀ t x y r,E t x y=some r->∀ a b,Rep M B x a->Rep M B y b->∀ w,(Op.equalIn d t a b).run P w = .ok r w) {cs ds:bSH} {xs ys:Array Value} (hx:bC M B cs xs.toList) (hy:bC M B ds ys.toList) (w:World) :
 ∀ (fs:List Field) (r:Bool),RZ P E cs ds fs=some r->(Op.eqFields d xs ys fs).run P w = .ok r w
 | [],r,h=>by simp[RZ] at h; subst h; rfl
 | f::fs,r,h=>by
  rw[RZ] at h;split at h
  .cases h
  .rename_i hn;split at h
   .rename_i I hI;split at h
    .rename_i p q hp hq;split at h
     .rename_i b r' hb hr;injection h with h; subst h
      obtain ⟨i,z,dd,hT⟩:=GH hI;obtain ⟨u,h1,h2,_⟩:=Zq hx hT hp w;obtain ⟨v,h3,h4,_⟩:=Zq hy hT hq w;have h5:=hE _ _ _ _ hb u v h2 h4 w;have ih:=aDQ hE hx hy w fs r' hr;rw[Op.eqFields,aJ hn];simp only[kX,h1,h3,h5,qM];cases b
      .rfl
      .simpa using ih
     .cases h
    .cases h
   .cases h
theorem aDT:∀ (k d:Nat) (t:TypeId) (x y:PV) (r:Bool),NI P k t x y=some r->∀ a b,Rep M B x a->Rep M B y b->∀ w,(Op.equalIn (d+k) t a b).run P w = .ok r w
 | 0,d,t,x,y,r,h,a,b,ha,hb,w=>by rw[NI] at h; cases h
 | k+1,d,t,x,y,r,h,a,b,ha,hb,w=>by
  unfold NI at h;split at h
  .rename_i hu;split at h
   .rename_i e; subst e;injection h with h; subst h
    rw[dS.1 ha,dS.1 hb];exact run_equalIn_int w (d+k) t _ _ _ _ hu
   .cases h
  .rename_i hu;injection h with h; subst h
   rw[jo.1 ha,jo.1 hb];exact run_equalIn_bool w (d+k) t _ _ hu
  .rename_i hu;injection h with h; subst h
   rw[iT.1 ha,iT.1 hb];exact run_equalIn_string w (d+k) t _ _ hu
  .rename_i fs cs ds hu;by_cases hst:P.stoodInHeld t=true
   .rw[aJ hst] at h; cases h
   .rw[aK hst] at h;obtain ⟨xs,rfl,hx⟩:=qG.1 ha;obtain ⟨ys,rfl,hy⟩:=qG.1 hb;have hf:P.fieldsOf t=fs:=by simp[Program.fieldsOf,hu]
    rw[show d+(k+1)=(d+k)+1 from rfl,run_equalIn_struct w (d+k) t xs ys (by rw[hf]; exact hu) (by simpa using hst),hf];exact aDQ (fun t x y r h a b ha hb w=>aDT k d t x y r h a b ha hb w) hx hy w fs.toList r h
  .cases h
theorem aTB {op:BinOp} {t:TypeId} {x y p:PV} (h:BX P op t x y=some p) {a b:Value} (ha:Rep M B x a) (hb:Rep M B y b) (w:World) :
 (∀ X Y:Operand,(eqGuard op t X Y a b).run P w = .ok () w)/\∃ v,(binOp op t a b).run P w = .ok v w/\Rep M B p v/\p.own=false:=by
 unfold BX at h;split at h
 .rename_i k a' k' b';rw[dS.1 ha,dS.1 hb];refine ⟨fun _ _=>Dp ⟨by simp,by simp⟩ w,?_⟩;split at h
  .exact aPT h t w
  .exact aPT h t w
  .rename_i h1 h2;split at h
   .rename_i e; subst e; exact bD6 h ⟨fun e=>h1 e,fun e=>h2 e⟩ t w
   .cases h
 .rw[iT.1 ha,iT.1 hb]; exact ⟨fun _ _=>Dp ⟨by simp,by simp⟩ w,bMK h t w⟩
 .rename_i a' b';rw[jo.1 ha,jo.1 hb];refine ⟨fun _ _=>Dp ⟨by simp,by simp⟩ w,?_⟩;split at h
  .rename_i ht;have hu:=bD8 ht;have he:(Op.equal t (.bool a') (.bool b')).run P w = .ok (a'==b') w:=JO fun d=>aVB hu d a' b' w
   refine KL (is:=a'==b') ?_ he (fun op ho=>by rcases ho with rfl | rfl<;>rfl);unfold a0Y at h; unfold CJ; exact h
  .cases h
 .obtain ⟨c,hc,rfl⟩:=wQ.1 ha;rw[Fp.1 hb];refine ⟨fun _ _=>Dp ⟨by simp,by simp⟩ w,?_⟩;split at h
  .rename_i ht;obtain ⟨e,hu⟩:=a4R ht;refine KL h (JO fun d=>aDR hu d _ w) (fun op ho=>by rcases ho with rfl | rfl<;>rfl)
  .cases h
 .obtain ⟨b',off,rfl,_⟩:=Au.1 ha;rw[Fp.1 hb];refine ⟨fun _ _=>Dp ⟨by simp,by simp⟩ w,?_⟩;split at h
  .rename_i ht;obtain ⟨e,hu⟩:=a4R ht;refine KL h (JO fun d=>aDR hu d _ w) (fun op ho=>by rcases ho with rfl | rfl<;>rfl)
  .cases h
 .rw[Fp.1 ha,Fp.1 hb];refine ⟨fun _ _=>Dp ⟨by simp,by simp⟩ w,?_⟩;split at h
  .rename_i ht;obtain ⟨e,hu⟩:=a4R ht;refine KL h (JO fun d=>aVE hu d w) (fun op ho=>by rcases ho with rfl | rfl<;>rfl)
  .cases h
 .obtain ⟨f,c,rfl,_,_⟩:=zk.1 ha;rw[(CX.1 hb).1];refine ⟨fun _ _=>Dp ⟨by simp,by simp⟩ w,?_⟩;split at h
  .rename_i ht;obtain ⟨e1,e2,e3,hu⟩:=aK6 ht;refine KL h (JO fun d=>aVD hu d _ _ _ w) (fun op ho=>by rcases ho with rfl | rfl<;>rfl)
  .cases h
 .rw[(CX.1 ha).1,(CX.1 hb).1];refine ⟨fun _ _=>Dp ⟨by simp,by simp⟩ w,?_⟩;split at h
  .rename_i ht;obtain ⟨e1,e2,e3,hu⟩:=aK6 ht;refine KL h (JO fun d=>aVC hu d w) (fun op ho=>by rcases ho with rfl | rfl<;>rfl)
  .cases h
 .rename_i cs ds;obtain ⟨xs,e1,_⟩:=qG.1 ha;obtain ⟨ys,e2,_⟩:=qG.1 hb;split at h
  .cases h
  .rename_i hg;cases he:NI P 12 t (.agg cs) (.agg ds) with
   | none=>rw[he] at h; cases h
   | some r =>rw[he] at h;have hr:(Op.equal t a b).run P w = .ok r w:=aDT 12 9988 t _ _ r he a b ha hb w;refine ⟨fun X Y=>by rw[e1,e2]; exact run_eqGuard_agg w op t X Y xs ys (by simpa using hg),KL h hr (fun op ho=>by rw[e1,e2]; rcases ho with rfl | rfl<;>rfl)⟩
 .cases h
end
section
variable {P:Program} {M:Mem} {B:aV}
theorem aVX {ρ:Operand->Value} {o:Oper} {s:Sem Value} {v:Value} {w:World} (h:execOp ρ o=(do pure (.value (<- s)))) (hr:s.run P w = .ok v w):(execOp ρ o).run P w = .ok (.value v) w:=by rw[h]; simp[hr]
theorem bFG {t ty:TypeId} {x p:PV} (h:Yp P t x=some p) {a:Value} (ha:Rep M B x a) (w:World) :
 ∃ v,(Builtin.len_ #[t] ty #[a]).run P w = .ok v w/\Rep M B p v/\p.own=false:=by
 have hsl:∀ {n:Nat} {A:Option Addr} {c:Nat},(xN P t).map (fun _=>PV.int .i64 n)=some p->∃ v,(Builtin.len_ #[t] ty #[.slice A n c]).run P w = .ok v w/\Rep M B p v/\p.own=false:=by
  intro n A c h;unfold xN at h;split at h
  .rename_i e hu;simp at h; subst h;exact ⟨_,by simp[Builtin.len_,ed hu]; rfl,dS.2 rfl,rfl⟩
  .simp at h
 unfold Yp at h;split at h
 .split at h
  .rename_i ht; cases h;rw[iT.1 ha];exact ⟨_,by simp[Builtin.len_,ed (TR ht)]; rfl,dS.2 rfl,rfl⟩
  .cases h
 .obtain ⟨A,cap,rfl,_⟩:=jW.1 ha; exact hsl h
 .obtain ⟨c,cap,_,rfl,_⟩:=tH.1 ha; exact hsl h
 .obtain ⟨A,cap,rfl,_⟩:=EO.1 ha; exact hsl h
 .cases h
theorem bD9 {s:TypeId} (h:OG P s=true):∃ e,P.underlying s=some (.slice e)/\P.underlying e=some (.int .u8):=by
 unfold OG at h;split at h
 .rename_i e hu;split at h
  .rename_i k hk;have:k = .u8:=by simpa using h
   subst this;exact ⟨e,hu,hk⟩
  .cases h
 .cases h
theorem aTL {es:bSH} {b:Nat} {w:World} (hmem:∀ (b o:Nat) (v:Value),M b o=some v->w.cell? ⟨b,o,none⟩=some v/\v.oneCell'=true) (hb:a1A es=true) {off:Nat} (hl:jr M [] 1 es b off) :
 ∀ (j:Nat) v,((es.map WT).map (Value.int .u8))[j]? = some v->w.cell? ⟨b,off+j,none⟩=some v:=by
 intro j v hv;simp only[iU,Option.map_map] at hv;obtain ⟨q,hq,rfl⟩:=J3.1 hv;have hloc:=EH hl hq;have hbq:isByte q=true:=iC.1 hb q (jq hq);cases q<;>simp[isByte] at hbq
 subst hbq;obtain ⟨u,hu,TK⟩:=(yQ rfl (fun cs e=>by cases e)).1 hloc;have hr:u = .int .u8 _:=dS.1 TK;subst hr;have:=(hmem _ _ _ hu).1;rwa [VT] at this
theorem aUP {s d:TypeId} {x p:PV} (h:RN P s d x=some p) {a:Value} (ha:Rep M B x a) (w:World) (hmem:∀ (b o:Nat) (v:Value),M b o=some v->w.cell? ⟨b,o,none⟩=some v/\v.oneCell'=true) :
 ∃ v,(convert s d a).run P w = .ok v w/\Rep M B p v/\p.own=false:=by
 unfold RN at h;split at h
 .rename_i ow sz es;split at h
  .rename_i hc;cases h;obtain ⟨e,hs,he⟩:=bD9 hc.1;obtain ⟨A,cap,rfl,_,hsz,_,hA⟩:=jW.1 ha;refine ⟨.string (strOf es),?_,iT.2 rfl,rfl⟩;rw[run_convert_bytes_string w s d e A es.length cap hs he (TR hc.2.1)];by_cases h0:es = []
   .subst h0;cases A with
    | none=>rfl
    | some A=>exact run_bytesToString w A 0 cap [] (run_loadCells_list (P:=P) w A [] (by simp))
   .obtain ⟨b,off,rfl,hl⟩:=hA h0;have h1:sz=1:=by
     obtain ⟨q,qs,rfl⟩:=List.exists_cons_of_ne_nil h0;have hq:=hsz q (by simp);have hbq:isByte q=true:=iC.1 hc.2.2 q (by simp);cases q<;>simp[isByte] at hbq
     exact hq.symm
    subst h1;have:=run_loadCells_list (P:=P) w ⟨b,off,none⟩ ((es.map WT).map (Value.int .u8)) (fun j v hj=>by rw[add_lit]; exact aTL hmem hc.2.2 hl j v hj);simp only[bM] at this;exact run_bytesToString w ⟨b,off,none⟩ es.length cap (es.map WT) this
  .cases h
 .rename_i k0 n;rw[dS.1 ha];unfold aJ' at h;split at h
  .rename_i k hk;split at hk
   .rename_i k' hu;cases hk;split at h
    .rename_i ds hs;cases h;refine ⟨.int k (k.wrap n),?_,dS.2 rfl,rfl⟩;unfold convert;rw[kX,ed hs w,qM,kX,ed hu w,qM];cases ds<;>rfl
    .cases h
   .cases hk
  .cases h
 .rename_i a';rw[iT.1 ha];split at h
  .rename_i hs hd;cases h;refine ⟨.string a',?_,iT.2 rfl,rfl⟩;unfold convert;rw[kX,ed hs w,qM,kX,ed hd w,qM];rfl
  .cases h
 .cases h
theorem Vu:∀ {l:List (Option PV)} {ps:bSH},jL l=some ps->l=ps.map some
 | [],ps,h=>by simp[jL] at h; subst h; rfl
 | none::_,_,h=>by simp[jL] at h
 | some p::l,ps,h=>by
  rw[jL] at h;cases ha:jL l with
  | none=>simp[ha] at h
  | some qs=>simp[ha] at h; subst h; simp[Vu ha]
theorem Ku {rd:Operand->Option PV} {ρ:Operand->Value} (hrd:∀ x q,rd x=some q->Rep M B q (ρ x)/\q.own=false):∀ {xs:List Operand} {ps:bSH},jL (xs.map rd)=some ps->bC M B ps (xs.map ρ)/\∀ p,p∈ps->p.own=false
 | [],ps,h=>by simp[jL] at h; subst h; exact ⟨eu.2 rfl,by simp⟩
 | x::xs,ps,h=>by
  have h':=Vu h;cases ps with
  | nil=>simp at h'
  | cons p ps =>
   simp only[qm,Lj] at h';obtain ⟨h1,h2⟩:=h';have ih:=Ku hrd (xs:=xs) (ps:=ps) (by
    rw[h2];have:∀ ps:bSH,jL (ps.map some)=some ps:=by
     intro ps; induction ps with
     | nil=>rfl
     | cons a l ih=>simp[jL,ih]
    exact this ps)
   exact ⟨dD.2 ⟨_,_,rfl,(hrd _ _ h1).1,ih.1⟩,fun q hq=>by
    rcases iQ.1 hq with rfl | hq
    .exact (hrd _ _ h1).2
    .exact ih.2 q hq⟩
theorem a96 {p q:PV} {vs:List Value} (h:bC M B [p,q] vs):∃ a b,vs = [a,b]/\Rep M B p a/\Rep M B q b:=by obtain ⟨a,us,rfl,ha,h2⟩:=dD.1 h;obtain ⟨b,wZ,rfl,hb,h3⟩:=dD.1 h2;rw[eu] at h3; subst h3;exact ⟨a,b,rfl,ha,hb⟩
theorem bGY {ts:Array TypeId} {ty:TypeId} {ps:bSH} {p:PV} (h:Z5 ps=some p) {vs:Array Value} (hv:bC M B ps vs.toList) (w:World) :
 ∃ v,(Builtin.min_ ts ty vs).run P w = .ok v w/\Rep M B p v/\p.own=false:=by
 unfold Z5 at h;split at h
 .split at h
  .rename_i e; subst e; cases h;obtain ⟨a,b,e,ha,hb⟩:=a96 hv;rw[dS.1 ha,dS.1 hb] at e;refine ⟨_,?_,dS.2 rfl,rfl⟩;unfold Builtin.min_; rw[e];simp[Builtin.min2]
  .cases h
 .cases h
theorem bGO {ts:Array TypeId} {ty:TypeId} {ps:bSH} {p:PV} (h:Z4 ps=some p) {vs:Array Value} (hv:bC M B ps vs.toList) (w:World) :
 ∃ v,(Builtin.max_ ts ty vs).run P w = .ok v w/\Rep M B p v/\p.own=false:=by
 unfold Z4 at h;split at h
 .split at h
  .rename_i e; subst e; cases h;obtain ⟨a,b,e,ha,hb⟩:=a96 hv;rw[dS.1 ha,dS.1 hb] at e;refine ⟨_,?_,dS.2 rfl,rfl⟩;unfold Builtin.max_; rw[e];simp[Builtin.max2]
  .cases h
 .split at h
  .rename_i e; obtain ⟨rfl,rfl,rfl⟩:=e; cases h;obtain ⟨a,us,e,ha,h2⟩:=dD.1 hv;obtain ⟨b,wZ,rfl,hb,h2⟩:=dD.1 h2;obtain ⟨c,d,rfl,hc,hd⟩:=a96 h2;rw[dS.1 ha,dS.1 hb,dS.1 hc,dS.1 hd] at e;refine ⟨_,?_,dS.2 rfl,rfl⟩;unfold Builtin.max_; rw[e];simp[Builtin.max2]
  .cases h
 .cases h
theorem bO5 {op:UnOp} {x p:PV} (h:a00 op x=some p) {a:Value} (ha:Rep M B x a) (w:World):∃ v,(Op.unary op a).run P w = .ok v w/\Rep M B p v/\p.own=false:=by
 unfold a00 at h;split at h
 .cases h; rw[dS.1 ha]; exact ⟨_,rfl,dS.2 rfl,rfl⟩
 .cases h; rw[jo.1 ha]; exact ⟨_,rfl,jo.2 rfl,rfl⟩
 .cases h
theorem aVY {x p:PV} {i:Nat} (h:XC x i=some p) {a:Value} (ha:Rep M B x a) (w:World):∃ v,(Instr.extract a i).run P w = .ok v w/\Rep M B p v/\p.own=false:=by
 unfold XC at h;split at h
 .rename_i ps;obtain ⟨vs,rfl,hr⟩:=tJ.1 ha;cases hp:ps[i]? with
  | none=>simp[hp] at h
  | some q =>
   simp[hp] at h; subst h;obtain ⟨u,hu,hq⟩:=wS hr hp;have hu':vs[i]? = some u:=by simpa using hu
   exact ⟨u,by simp[Instr.extract,hu'],nU.2 hq,qI q⟩
 .cases h
def Aj (d:Nat):Option PV->Option Int
 | none=>some d
 | some (.int _ n)=>some n
 | _=>none
theorem Ol {d:Nat} {q:Option PV} {n:Int} (h:Aj d q=some n) {x:Option Value} (hx:(q=none/\x=none)\/∃ p v,q=some p/\x=some v/\Rep M B p v) :
 (q=none/\x=none/\n=d)\/∃ k,x=some (.int k n):=by
 rcases hx with ⟨rfl,rfl⟩ | ⟨p,v,rfl,rfl,hr⟩
 .simp[Aj] at h; exact .inl ⟨rfl,rfl,h.symm⟩
 .cases p<;>simp[Aj] at h
  subst h; rw[dS.1 hr]; exact .inr ⟨_,rfl⟩
theorem a0Z {isS:Bool} {len cap:Nat} {lo hi:Option Value} {l h:Int} (hl:(lo=none/\l=0)\/∃ k,lo=some (.int k l)) (hh:(hi=none/\h=len)\/∃ k,hi=some (.int k h))
 (h0:0<=l) (h1:l<=h) (h2:h<=len) (hc:len<=cap) (w:World):(Instr.sliceBounds isS len cap lo hi none).run P w = .ok (l.toNat,h.toNat,cap) w:=by
 have e2:((h.toNat:Nat):Int)=h:=Lh (by omega);rcases hl with ⟨rfl,rfl⟩ | ⟨k,rfl⟩<;>rcases hh with ⟨rfl,rfl⟩ | ⟨k',rfl⟩
 .simp[Instr.sliceBounds]
 .simp[Instr.sliceBounds,QO w k' h cap _ (by omega) (by omega)]
 .simp[Instr.sliceBounds,QO w k l len _ (by omega) (by omega)]
 .simp[Instr.sliceBounds,QO w k' h cap _ (by omega) (by omega),QO w k l h.toNat _ (by omega) (by omega)]
theorem aTF {len cap:Nat} {k1 k2 k3:IntKind} {l h m:Int} (h0:0<=l) (h1:l<=h) (h2:h<=m) (h3:m<=len) (hc:len<=cap) (w:World) :
 (Instr.sliceBounds true len cap (some (.int k1 l)) (some (.int k2 h)) (some (.int k3 m))).run P w = .ok (l.toNat,h.toNat,m.toNat) w:=by
 have e2:((h.toNat:Nat):Int)=h:=Lh (by omega);have e3:((m.toNat:Nat):Int)=m:=Lh (by omega);simp[Instr.sliceBounds,QO w k3 m cap _ (by omega) (by omega),QO w k2 h m.toNat _ (by omega) (by omega),QO w k1 l h.toNat _ (by omega) (by omega)]
theorem bM4 {t:TypeId} {x p pa pb pc:PV} (hs:Zk P t x pa pb pc=some p) {a l h m:Value} (ha:Rep M B x a) (hl:Rep M B pa l) (hh:Rep M B pb h) (hm:Rep M B pc m) (w:World) :
 ∃ v,(Instr.sliceAt t a (some l) (some h) (some m)).run P w = .ok v w/\Rep M B p v/\p.own=false:=by
 unfold Zk at hs;split at hs
 .rename_i o sz es k1 l' k2 h' k3 m';obtain ⟨A,cap,rfl,hle,hsz,hz,hA⟩:=jW.1 ha;obtain rfl:=dS.1 hl;obtain rfl:=dS.1 hh;obtain rfl:=dS.1 hm;split at hs
  .rename_i hc;obtain ⟨ht,b1,b2,b3,b4⟩:=hc;cases hs;obtain ⟨I,hI,hIs⟩:=J3.1 ht;obtain ⟨e,i,z,d,hu,hT⟩:=zH hI;have hu':P.underlying t=some (.slice (P.elem t)):=by rw[hu]; simp[Program.elem,hu]
   have Jn:P.elem t=e:=by simp[Program.elem,hu]
   have hrun:(Instr.sliceAt t (.slice A es.length cap) (some (.int k1 l')) (some (.int k2 h')) (some (.int k3 m'))).run P w = .ok (.slice (if m'.toNat=l'.toNat then A else A.map (·.add (l'.toNat*sz))) (h'.toNat-l'.toNat) (m'.toNat-l'.toNat)) w:=by rw[run_sliceAt_slice (P:=P) w t _ _ _ _ hu',run_slice_any (P:=P) w t A es.length cap hu',aTF (P:=P) b1 b2 b3 b4 hle w,qM,Jn,hT.run_sizeOf w];simp[sliced,hIs]
   refine ⟨_,hrun,jW.2 ⟨_,_,by simp only[uQ,nY]; rw[QJ (by omega)],?_,fun e he=>hsz e (QD (List.mem_of_mem_drop he)),fun h0=>by obtain ⟨x1,x2,x3⟩:=hz h0; subst x1; subst x2; subst x3; simp at b4 ⊢; omega,?_⟩,rfl⟩
   .simp only[uQ,nY]; omega
   .intro hne;have hlen:((es.take h'.toNat).drop l'.toNat).length≠0:=fun e=>hne (qK e)
    simp only[uQ,nY] at hlen;obtain ⟨b,off,rfl,hloc⟩:=hA (fun e=>by rw[e] at hlen; simp at hlen);rw[aK (by omega)];refine ⟨b,off+l'.toNat*sz,by rw[sD,add_lit],Ae fun j p hj => ?_⟩;rw[GZ,iO] at hj;split at hj
    .have:=EH hloc hj;rwa [show off+l'.toNat*sz+j*sz=off+(l'.toNat+j)*sz by rw[oL]; omega]
    .cases hj
  .cases hs
 .cases hs
theorem Zl {t:TypeId} {x p:PV} {lo hi:Option PV} (hs:vF P t x lo hi=some p) {a:Value} (ha:Rep M B x a) {l h:Option Value}
 (hl:(lo=none/\l=none)\/∃ p v,lo=some p/\l=some v/\Rep M B p v) (hh:(hi=none/\h=none)\/∃ p v,hi=some p/\h=some v/\Rep M B p v) (w:World) :
 ∃ v,(Instr.sliceAt t a l h none).run P w = .ok v w/\Rep M B p v/\p.own=false:=by
 have hb:∀ d q,(match q with | none=>some (d:Int) | some (.int _ n)=>some n | _=>none)=Aj d q:=fun d q=>rfl
 unfold vF at hs;simp only at hs;split at hs
 .rename_i s;rw[iT.1 ha];split at hs
  .rename_i l' h' e1 e2;have e1:Aj 0 lo=some l':=e1;have e2:Aj s.size hi=some h':=e2;split at hs
   .rename_i hc;obtain ⟨ht,b1,b2,b3⟩:=hc;cases hs;have hu:=TR ht;have hl':(l=none/\l'=0)\/∃ k,l=some (.int k l'):=by
     rcases Ol e1 hl with ⟨_,r1,r2⟩ | r
     .exact .inl ⟨r1,by simpa using r2⟩
     .exact .inr r
    have hh':(h=none/\h'=s.size)\/∃ k,h=some (.int k h'):=by
     rcases Ol e2 hh with ⟨_,r1,r2⟩ | r
     .exact .inl ⟨r1,r2⟩
     .exact .inr r
    refine ⟨_,?_,iT.2 rfl,rfl⟩;rw[run_sliceAt_string (P:=P) w t _ _ _ _ hu];simp[Instr.slice,ed hu,a0Z (P:=P) (isS:=false) hl' hh' b1 b2 (by omega) (bW _) w]
   .cases hs
  .cases hs
 .rename_i o sz es;obtain ⟨A,cap,rfl,hle,hsz,hz,hA⟩:=jW.1 ha;split at hs
  .rename_i l' h' e1 e2;have e1:Aj 0 lo=some l':=e1;have e2:Aj es.length hi=some h':=e2;split at hs
   .rename_i hc;obtain ⟨ht,b1,b2,b3⟩:=hc;cases hs;obtain ⟨I,hI,hIs⟩:=J3.1 ht;obtain ⟨e,i,z,d,hu,hT⟩:=zH hI;have hu':P.underlying t=some (.slice (P.elem t)):=by rw[hu]; simp[Program.elem,hu]
    have Jn:P.elem t=e:=by simp[Program.elem,hu]
    have hl':(l=none/\l'=0)\/∃ k,l=some (.int k l'):=by
     rcases Ol e1 hl with ⟨_,r1,r2⟩ | r
     .exact .inl ⟨r1,by simpa using r2⟩
     .exact .inr r
    have hh':(h=none/\h'=es.length)\/∃ k,h=some (.int k h'):=by
     rcases Ol e2 hh with ⟨_,r1,r2⟩ | r
     .exact .inl ⟨r1,r2⟩
     .exact .inr r
    have hrun:(Instr.sliceAt t (.slice A es.length cap) l h none).run P w = .ok (.slice (if cap=l'.toNat then A else A.map (·.add (l'.toNat*sz))) (h'.toNat-l'.toNat) (cap-l'.toNat)) w:=by rw[run_sliceAt_slice (P:=P) w t _ _ _ _ hu',run_slice_any (P:=P) w t A es.length cap hu',a0Z (P:=P) (isS:=true) hl' hh' b1 b2 b3 hle w,qM,Jn,hT.run_sizeOf w];simp[sliced,hIs]
    refine ⟨_,hrun,jW.2 ⟨_,_,by simp only[uQ,nY]; rw[QJ (by omega)],?_,fun e he=>hsz e (QD (List.mem_of_mem_drop he)),fun h0=>by obtain ⟨x1,x2,x3⟩:=hz h0; subst x1; subst x2; subst x3; simp,?_⟩,rfl⟩
    .simp only[uQ,nY]; omega
    .intro hne;have hlen:((es.take h'.toNat).drop l'.toNat).length≠0:=fun e=>hne (qK e)
     simp only[uQ,nY] at hlen;obtain ⟨b,off,rfl,hloc⟩:=hA (fun e=>by rw[e] at hlen; simp at hlen);rw[aK (by omega)];refine ⟨b,off+l'.toNat*sz,by rw[sD,add_lit],Ae fun j p hj => ?_⟩;rw[GZ,iO] at hj;split at hj
     .have:=EH hloc hj;rwa [show off+l'.toNat*sz+j*sz=off+(l'.toNat+j)*sz by rw[oL]; omega]
     .cases hj
   .cases hs
  .cases hs
 .rename_i i off n sz;obtain ⟨c,cap,hc',rfl,hle,hfit⟩:=tH.1 ha;split at hs
  .rename_i l' h' e1 e2;have e1:Aj 0 lo=some l':=e1;have e2:Aj n hi=some h':=e2;split at hs
   .rename_i hc;obtain ⟨ht,b1,b2,b3,b4⟩:=hc;obtain ⟨I,hI,hIs⟩:=J3.1 ht;obtain ⟨e,i',z,d,hu,hT⟩:=zH hI;have hu':P.underlying t=some (.slice (P.elem t)):=by rw[hu]; simp[Program.elem,hu]
    have Jn:P.elem t=e:=by simp[Program.elem,hu]
    have hl':(l=none/\l'=0)\/∃ k,l=some (.int k l'):=by
     rcases Ol e1 hl with ⟨_,r1,r2⟩ | r
     .exact .inl ⟨r1,by simpa using r2⟩
     .exact .inr r
    have hh':(h=none/\h'=n)\/∃ k,h=some (.int k h'):=by
     rcases Ol e2 hh with ⟨_,r1,r2⟩ | r
     .exact .inl ⟨r1,r2⟩
     .exact .inr r
    have hrun:(Instr.sliceAt t (.slice (some ⟨c.1,off,none⟩) n cap) l h none).run P w = .ok (.slice (if cap=l'.toNat then some ⟨c.1,off,none⟩ else some ⟨c.1,off+l'.toNat*sz,none⟩) (h'.toNat-l'.toNat) (cap-l'.toNat)) w:=by rw[run_sliceAt_slice (P:=P) w t _ _ _ _ hu',run_slice_any (P:=P) w t _ n cap hu',a0Z (P:=P) (isS:=true) hl' hh' b1 b2 b3 hle w,qM,Jn,hT.run_sizeOf w];simp[sliced,hIs,add_lit]
    split at hs
    .rename_i hlt;cases hs;rw[aK (by omega)] at hrun;refine ⟨_,hrun,tH.2 ⟨c,cap-l'.toNat,hc',rfl,by omega,?_⟩,rfl⟩;have:l'.toNat*sz+(cap-l'.toNat)*sz=cap*sz:=by rw[<- oL]; congr 1; omega
     omega
    .rename_i hlt;cases hs;refine ⟨_,hrun,jW.2 ⟨_,_,by rw[show h'.toNat-l'.toNat=([]:bSH).length by simp; omega],by simp,by simp,fun h=>absurd h (by omega),fun h0=>absurd rfl h0⟩,rfl⟩
   .cases hs
  .cases hs
 .cases hs
end
theorem a2C (off:Nat):∀ (l:List Value) (k:Nat) (cs:Array Value),off+k+l.length<=cs.size ->
 ((l.zipIdx k).foldl (fun (cs:Array Value) (cj:Value×Nat)=>cs.setIfInBounds (off+cj.2) cj.1) cs).toList=cs.toList.take (off+k) ++ l ++ cs.toList.drop (off+k+l.length)
 | [],k,cs,_=>by simp
 | v::l,k,cs,h=>by simp only[List.zipIdx_cons,List.foldl_cons];rw[a2C off l (k+1) _ (by simp at h ⊢; omega),aRD];have:=list_seg_step cs.toList (off+k) v l (by simp at h ⊢; omega);rw[show off+(k+1)=off+k+1 by omega,this];simp[a0D]
section
variable {P:Program} {M:Mem} {B:aV}
theorem zl {ps qs:bSH} {us vs:List Value} (h1:bC M B ps us) (h2:bC M B qs vs):bC M B (ps ++ qs) (us ++ vs):=by
 have l1:=qH h1;refine IZ (by simp[l1,qH h2]) fun j p u hp hu => ?_
 rw[List.getElem?_append] at hp hu;by_cases h:j<ps.length
 .rw[aJ h] at hp; rw[aJ (by omega)] at hu;obtain ⟨u',e,hr⟩:=wS h1 hp;rw[e] at hu; cases hu; exact hr
 .rw[aK h] at hp; rw[aK (by omega),<- l1] at hu;obtain ⟨u',e,hr⟩:=wS h2 hp;rw[e] at hu; cases hu; exact hr
theorem aOP {ps:bSH} {us:List Value} (h:bC M B ps us) (k:Nat):bC M B (ps.take k) (us.take k):=by have:=ZY h 0 k; simpa using this
theorem bKR {ps:bSH} {us:List Value} (h:bC M B ps us) (k:Nat):bC M B (ps.drop k) (us.drop k):=by have:=ZY h k (ps.length-k);have hl:=qH h;rwa [nZ (by simp),nZ (by simp[hl])] at this
theorem Ia {ps:bSH} {us:List Value} (h:bC M B ps us):bC M B (ps.map PV.un) us:=by
 refine IZ (by simp[qH h]) fun j p u hp hu => ?_
 rw[iU] at hp;cases hq:ps[j]? with
 | none=>simp[hq] at hp
 | some q =>simp[hq] at hp; subst hp;obtain ⟨u',e,hr⟩:=wS h hq;rw[e] at hu; cases hu; exact nU.2 hr
theorem EL {p:PV} (h:p.one=true) {v:Value} (hr:Rep M B p v):v.cells = #[v]/\v.oneCell'=true:=by
 cases p with
 | int k n=>rw[dS.1 hr]; exact ⟨rfl,rfl⟩
 | bool b=>rw[jo.1 hr]; exact ⟨rfl,rfl⟩
 | str b=>rw[iT.1 hr]; exact ⟨rfl,rfl⟩
 | nilp=>rw[Fp.1 hr]; exact ⟨rfl,rfl⟩
 | raw u=>obtain ⟨rfl,h1⟩:=CX.1 hr; refine ⟨?_,h1⟩; cases v<;>first | rfl | (simp[Value.oneCell'] at h1)
 | ptr i off=>obtain ⟨c,_,rfl⟩:=wQ.1 hr; exact ⟨rfl,rfl⟩
 | cZ T i =>
  obtain ⟨c,_,h0,h1⟩:=Fj.1 hr;by_cases hT:T=0
  .obtain ⟨_,rfl⟩:=h0 hT; exact ⟨rfl,rfl⟩
  .have h1:=h1 hT;unfold WM at h1;split at h1
   .obtain ⟨_,rfl⟩:=h1; exact ⟨rfl,rfl⟩
   .obtain ⟨_,rfl | rfl⟩:=h1<;>exact ⟨rfl,rfl⟩
 | cst e=>obtain ⟨c,_,rfl,_⟩:=Au.1 hr; exact ⟨rfl,rfl⟩
 | sl o sz es=>obtain ⟨A,c,rfl,_⟩:=jW.1 hr; exact ⟨rfl,rfl⟩
 | slh i off n sz=>obtain ⟨A,c,_,rfl,_⟩:=tH.1 hr; exact ⟨rfl,rfl⟩
 | dB l=>obtain ⟨A,c,rfl,_⟩:=ZX.1 hr; exact ⟨rfl,rfl⟩
 | fJ o n sz cs=>obtain ⟨A,c,rfl,_⟩:=EO.1 hr; exact ⟨rfl,rfl⟩
 | mp l=>obtain ⟨f,rfl,_⟩:=aOK.1 hr; exact ⟨rfl,rfl⟩
 | func fn f c=>obtain ⟨f,c,rfl,_⟩:=zk.1 hr; exact ⟨rfl,rfl⟩
 | agg cs=>simp[PV.one] at h
 | tuple cs=>simp[PV.one] at h
theorem U8 {p:PV} {new:bSH} (h:p.newCells=some new) {v:Value} (hr:Rep M B p v):bC M B new v.cells.toList/\∀ q,q∈new->q.own=false:=by
 unfold PV.newCells at h;split at h
 .split at h
  .cases h;obtain ⟨vs,rfl,hs⟩:=qG.1 hr;exact ⟨Ia hs,fun q hq=>by obtain ⟨x,_,rfl⟩:=qL.1 hq; exact qI x⟩
  .cases h
 .split at h
  .rename_i h1;cases h;rw[(EL h1 hr).1];exact ⟨dD.2 ⟨v,[],rfl,nU.2 hr,eu.2 rfl⟩,fun q hq=>by rw[DK.1 hq]; exact qI p⟩
  .cases h
theorem aMY {p:PV} {new:bSH} (h:p.newCells=some new) {v:Value} (hr:Rep M B p v):∀ u,u∈v.cells.toList->u.oneCell'=true:=by
 have h1:=(U8 h hr).1;have h2:∀ q,q∈new->q.one=true:=by
  unfold PV.newCells at h;split at h
  .split at h
   .rename_i hall;cases h; intro q hq; obtain ⟨x,hx,rfl⟩:=qL.1 hq; rw[aAW]; exact iC.1 hall x hx
   .cases h
  .split at h
   .rename_i ho;cases h; intro q hq; rw[DK.1 hq,aAW]; exact ho
   .cases h
 intro u hu;obtain ⟨j,hj⟩:=DI.1 hu;have hl:=qH h1;have hjl:=(eP.1 hj).1;have hd:new[j]? = some (new[j]'(by omega)):=iM (by omega);obtain ⟨u',e,hr'⟩:=wS h1 hd;rw[e] at hj; cases hj;exact (EL (h2 _ (dw _)) hr').2
theorem a1V {place:Nat->Option (Nat×Nat)}:∀ {ps:List (Nat×PV)} {vs:List (Nat×Value)} {cs:bSH} {us:Array Value} {r:bSH},F6 place cs ps=some r->bC M B cs us.toList ->
 ps.length=vs.length->(∀ (j:Nat) p v,ps[j]? = some p->vs[j]? = some v->p.1=v.1/\Rep M B p.2 v.2)->∃ r',Instr.fill place us vs=some r'/\bC M B r r'.toList
 | [],[],cs,us,r,h,hc,_,_=>by simp[F6] at h; subst h; exact ⟨us,rfl,hc⟩
 | [],_::_,_,_,_,_,_,hl,_=>by simp at hl
 | _::_,[],_,_,_,_,_,hl,_=>by simp at hl
 | (i,p)::ps,(i',v)::vs,cs,us,r,h,hc,hl,hv=>by
  obtain ⟨e,hr⟩:=hv 0 (i,p) (i',v) rfl rfl;simp only at e hr; subst e;rw[F6] at h;split at h
  .rename_i o z new hp hn;split at h
   .rename_i hlen;obtain ⟨hz,hfit⟩:=hlen;have hnr:=(U8 hn hr).1;have hsz:v.cells.size=z:=by have:=qH hnr; simp at this; omega
    have hus:us.size=cs.length:=by have:=qH hc; simp at this; omega
    have hfold:=a2C o v.cells.toList 0 us (by simp; omega);simp only[Ei] at hfold;have ha:(v.cells.zipIdx.foldl (fun cs (c,j)=>cs.setIfInBounds (o+j) c) us)=((v.cells.toList.zipIdx 0).foldl (fun (cs:Array Value) (cj:Value×Nat)=>cs.setIfInBounds (o+cj.2) cj.1) us):=by rw[<- Array.foldl_toList,Array.toList_zipIdx]
    obtain ⟨r',h1,h2⟩:=a1V (ps:=ps) (vs:=vs) (us:=(v.cells.toList.zipIdx 0).foldl (fun (cs:Array Value) (cj:Value×Nat)=>cs.setIfInBounds (o+cj.2) cj.1) us) h (by
     rw[hfold];have:(v.cells.toList.length)=z:=by simpa using hsz
     rw[this];exact zl (zl (aOP hc o) hnr) (bKR hc _)) (by simpa using hl) (fun j p v a b=>hv (j+1) p v (by simpa using a) (by simpa using b))
    refine ⟨r',?_,h2⟩;rw[Instr.fill,hp];simp only;rw[aK (by simp; omega),ha];exact h1
   .cases h
  .cases h
theorem a7G {rd:Operand->Option PV} {ρ:Operand->Value} (hrd:∀ x q,rd x=some q->Rep M B q (ρ x)/\q.own=false):∀ {xs:List (Nat×Operand)} {ps:List (Nat×PV)},uG rd xs=some ps ->
 ps.length=(xs.map fun ix=>(ix.1,ρ ix.2)).length/\∀ (j:Nat) p v,ps[j]? = some p->(xs.map fun ix=>(ix.1,ρ ix.2))[j]? = some v->p.1=v.1/\Rep M B p.2 v.2
 | [],ps,h=>by simp[uG] at h; subst h; simp
 | (i,x)::xs,ps,h=>by
  rw[uG] at h;split at h
  .rename_i p qs hp hq;cases h;obtain ⟨h1,h2⟩:=a7G hrd hq;refine ⟨by simpa using h1,fun j p' v a b => ?_⟩;cases j with
   | zero=>simp at a b; subst a; subst b; exact ⟨rfl,(hrd _ _ hp).1⟩
   | succ j=>exact h2 j p' v (by simpa using a) (by simpa using b)
  .cases h
theorem aRB {z:Value} (h:∀ v,v∈z.cells->v.oneCell'=true):bC M B ((z.cells.toList.map mP).map PV.un) z.cells.toList:=by refine Ia (IZ (by simp) fun j p u hp hu => ?_);rw[iU,hu] at hp;simp at hp; subst hp;exact IY (h u (a04 (by simpa using hu)))
theorem bJT {t:TypeId} {fs:List (Nat×Nat×Bool)} (h:fieldsOf P t=some fs):∃ Fs,P.underlying t=some (.struct Fs)/\Fs.toList.mapM (fun f=>(P.info? f.type).map fun i=>(f.offset,i.size))=some (fs.map fun f=>(f.1,f.2.1)):=by
 unfold fieldsOf at h;split at h
 .rename_i Fs hu;refine ⟨Fs,hu,?_⟩;generalize Fs.toList=L at h;induction L generalizing fs with
  | nil=>simp at h; subst h; rfl
  | cons f L ih =>
   rw[List.mapM_cons] at h ⊢;cases hf:ti P f.type with
   | none=>simp[hf] at h
   | some I =>
    cases hm:L.mapM (fun f=>(ti P f.type).map fun i=>(f.offset,i.size,i.agg)) with
    | none=>simp[hf,hm] at h
    | some bs =>simp[hf,hm] at h;subst h;obtain ⟨i,z,d,hT⟩:=GH hf;rw[ih hm];simp[hT.info,hT.size]
 .cases h
theorem aTI {t:TypeId} {xs:Array (Nat×Operand)} {rd:Operand->Option PV} {ρ:Operand->Value} (hrd:∀ x q,rd x=some q->Rep M B q (ρ x)/\q.own=false) {p:PV} (h:pop P rd (.build t xs)=some p) (w:World) :
 ∃ v,(Instr.build t (xs.map fun (i,x)=>(i,ρ x))).run P w = .ok v w/\Rep M B p v/\p.own=false:=by
 have hxs:(xs.map fun (i,x)=>(i,ρ x)).toList=xs.toList.map fun ix=>(ix.1,ρ ix.2):=by simp
 rw[pop] at h;split at h
 .rename_i I qs hI hq;obtain ⟨i,z,d,hT⟩:=GH hI;obtain ⟨p1,p2⟩:=a7G hrd hq;have hz:bC M B (I.zero.map PV.un) z.cells.toList:=by rw[hT.TT]; exact aRB hT.one
  split at h
  .rename_i fs hf ha;obtain ⟨Fs,hu,hm⟩:=bJT hf;cases Jo:F6 (fun i=>(fs[i]?).map fun f=>(f.1,f.2.1)) (I.zero.map PV.un) qs with
   | none=>simp[Jo] at h
   | some r =>
    simp[Jo] at h; subst h;obtain ⟨r',h1,h2⟩:=a1V Jo hz p1 p2;refine ⟨.agg r',run_build w t _ r' ?_,qG.2 ⟨r',rfl,h2⟩,rfl⟩;have hpl:(fun (j:Nat)=>((fs.map fun f=>(f.1,f.2.1)).toArray)[j]?)=fun (i:Nat)=>(fs[i]?).map fun f=>(f.1,f.2.1):=by funext j; simp
    simp only[Program.built,hT.info,hu,hT.zero,hm];rw[hpl,hxs]; exact h1
  .rename_i n J hf ha;obtain ⟨e,j,z',d',hu,hJ⟩:=Vz ha;cases Jo:F6 (fun i=>some (i*J.size,J.size)) (I.zero.map PV.un) qs with
   | none=>simp[Jo] at h
   | some r =>simp[Jo] at h; subst h;obtain ⟨r',h1,h2⟩:=a1V Jo hz p1 p2;refine ⟨.agg r',run_build w t _ r' ?_,qG.2 ⟨r',rfl,h2⟩,rfl⟩;simp only[Program.built,hT.info,hu,hT.zero,hJ.info];rw[hxs,<- hJ.size]; exact h1
  .cases h
 .cases h
theorem aU5 {c:Call} {ty:TypeId} {rd:Operand->Option PV} {ρ:Operand->Value} (hrd:∀ x q,rd x=some q->Rep M B q (ρ x)/\q.own=false) {p:PV} (h:Fb P rd c=some p) (w:World) :
 ∃ v,(do let d<-resolve ρ c ty; invoke d.target d.args:Sem Next).run P w = .ok (.value v) w/\Rep M B p v/\p.own=false:=by
 obtain ⟨callee,args,argTypes⟩:=c;unfold Fb at h;simp only at h;split at h
 .split at h
  .rename_i x t h1 h2;cases hx:rd x with
   | none=>simp[hx] at h
   | some q =>
    simp[hx] at h;have e1:args = #[x]:=by rw[<- oK]; exact h1
    have e2:argTypes = #[t]:=by rw[<- oK]; exact h2
    subst e1; subst e2;obtain ⟨v,h3,h4⟩:=bFG (ty:=ty) h (hrd _ _ hx).1 w;exact ⟨v,by simp[resolve,invoke,builtin,h3],h4⟩
  .cases h
 .cases ha:jL (args.toList.map rd) with
  | none=>simp[ha] at h
  | some ps =>simp[ha] at h;obtain ⟨h1,_⟩:=Ku hrd ha;obtain ⟨v,h3,h4⟩:=bGY (ts:=argTypes) (ty:=ty) h (vs:=args.map ρ) (by simpa using h1) w;exact ⟨v,by simp only[resolve,invoke,builtin,kX,DN,qM]; rw[h3]; rfl,h4⟩
 .cases ha:jL (args.toList.map rd) with
  | none=>simp[ha] at h
  | some ps =>simp[ha] at h;obtain ⟨h1,_⟩:=Ku hrd ha;obtain ⟨v,h3,h4⟩:=bGO (ts:=argTypes) (ty:=ty) h (vs:=args.map ρ) (by simpa using h1) w;exact ⟨v,by simp only[resolve,invoke,builtin,kX,DN,qM]; rw[h3]; rfl,h4⟩
 .cases h
theorem aJT {t:TypeId} {A:Option Addr} {n cap:Nat} {k:IntKind} {j:Int} {I:TI} {e:TypeId} {i:TypeInfo} {z:Value} {d:TypeDesc} (hu:P.underlying t=some (.slice e)) (hT:qy P e I i z d) {b off:Nat} (hA:A=some ⟨b,off,none⟩)
 (h0:0<=j) (h1:j<n) (w:World):(Instr.indexAt t (.slice A n cap) (.int k j)).run P w = .ok (.pointer (some ⟨b,off+j.toNat*I.size,none⟩)) w:=by
 subst hA;simp[Instr.indexAt,asIntOf,ed hu,h0,h1,hT.run_sizeOf w,add_lit]
theorem bD0 {t:TypeId} {x i:Operand} {rd:Operand->Option PV} {ρ:Operand->Value} (hrd:∀ x q,rd x=some q->Rep M B q (ρ x)/\q.own=false) {p:PV} (h:pop P rd (.indexAddr t x i)=some p) (w:World) :
 ∃ v,(Instr.indexAt t (ρ x) (ρ i)).run P w = .ok v w/\Rep M B p v/\p.own=false:=by
 rw[pop] at h;split at h
 .rename_i o sz es k n hx hi;have hrx:=(hrd _ _ hx).1;rw[dS.1 (hrd _ _ hi).1];split at h
  .rename_i hc;obtain ⟨I,hI,hIs⟩:=J3.1 hc.1;obtain ⟨e,i',z,d,hu,hT⟩:=zH hI;cases hg:es[n.toNat]? with
   | none=>simp[hg] at h
   | some q =>
    simp[hg] at h; subst h;have hlt:=(eP.1 hg).1;obtain ⟨A,cap,e1,hle,hsz,_,hA⟩:=jW.1 hrx
    .obtain ⟨b,off,rfl,hl⟩:=hA (fun e=>by rw[e] at hlt; simp at hlt);rw[e1];refine ⟨_,aJT hu hT rfl hc.2 (by omega) w,Au.2 ⟨b,_,rfl,?_⟩,rfl⟩;rw[hIs]; exact EH hl hg
  .cases h
 .rename_i j off m sz k n hx hi;rw[dS.1 (hrd _ _ hi).1];split at h
  .rename_i hc;cases h;obtain ⟨I,hI,hIs⟩:=J3.1 hc.1;obtain ⟨e,i',z,d,hu,hT⟩:=zH hI;obtain ⟨c,cap,hc',e1,_⟩:=tH.1 (hrd _ _ hx).1;rw[e1];exact ⟨_,aJT hu hT rfl hc.2.1 (by omega) w,wQ.2 ⟨c,hc',by rw[hIs]⟩,rfl⟩
  .cases h
 .rename_i j off k n hx hi;rw[dS.1 (hrd _ _ hi).1];split at h
  .rename_i m I hI;split at h
   .rename_i hc;cases h;obtain ⟨e,i',z,d,hu,hT⟩:=Vz hI;obtain ⟨c,hc',e1⟩:=wQ.1 (hrd _ _ hx).1;rw[e1];refine ⟨_,?_,wQ.2 ⟨c,hc',rfl⟩,rfl⟩;simp[Instr.indexAt,asIntOf,ed hu,hc.1,hc.2,Instr.sureAddr,hT.run_sizeOf w,add_lit]
   .cases h
  .cases h
 .rename_i cs k n hx hi;rw[dS.1 (hrd _ _ hi).1];split at h
  .rename_i m I hI;split at h
   .rename_i hc;obtain ⟨e,i',z,d,hu,hT⟩:=Vz hI;obtain ⟨b,off,e1,hl⟩:=Au.1 (hrd _ _ hx).1;rw[e1];cases hv:wW cs (n.toNat*I.size) I.size I.agg with
    | none=>simp[hv] at h
    | some r =>simp[hv] at h; subst h;refine ⟨_,?_,Au.2 ⟨b,_,rfl,aQL (zV.1 hl) hv⟩,rfl⟩;simp[Instr.indexAt,asIntOf,ed hu,hc.1,hc.2,Instr.sureAddr,hT.run_sizeOf w,add_lit]
   .cases h
  .cases h
 .cases h
theorem bD3 {t:TypeId} {x i:Operand} {rd:Operand->Option PV} {ρ:Operand->Value} (hrd:∀ x q,rd x=some q->Rep M B q (ρ x)/\q.own=false) {p:PV} (h:pop P rd (.index t x i)=some p) (w:World) :
 ∃ v,(Instr.index t (ρ x) (ρ i)).run P w = .ok v w/\Rep M B p v/\p.own=false:=by
 rw[pop] at h;split at h
 .rename_i s k n hx hi;rw[dS.1 (hrd _ _ hi).1,iT.1 (hrd _ _ hx).1];split at h
  .rename_i hc;cases hb:s[n.toNat]? with
   | none=>simp[hb] at h
   | some b =>simp[hb] at h; subst h;refine ⟨.int .u8 b.toNat,?_,dS.2 rfl,rfl⟩;simp[Instr.index,asIntOf,ed (TR hc.1),hc.2,hb]
  .cases h
 .rename_i cs k n hx hi;rw[dS.1 (hrd _ _ hi).1];split at h
  .rename_i m I hI;split at h
   .rename_i hc;obtain ⟨e,i',z,d,hu,hT⟩:=Vz hI;obtain ⟨vs,e1,hv⟩:=qG.1 (hrd _ _ hx).1;rw[e1];obtain ⟨v,h1,h2⟩:=Zq hv hT h w;refine ⟨v,?_,h2⟩;simp[Instr.index,asIntOf,ed hu,hc.1,hc.2,hT.run_sizeOf w,h1]
   .cases h
  .cases h
 .cases h
theorem bJV {rd:Operand->Option PV} {ρ:Operand->Value} (hrd:∀ x q,rd x=some q->Rep M B q (ρ x)/\q.own=false) {o:Oper} {p:PV} (h:pop P rd o.op=some p) (w:World) (hmem:∀ (b o:Nat) (v:Value),M b o=some v->w.cell? ⟨b,o,none⟩=some v/\v.oneCell'=true) :
 ∃ v,(execOp ρ o).run P w = .ok (.value v) w/\Rep M B p v/\p.own=false:=by
 obtain ⟨dst,op,type,pos,after,guard⟩:=o;simp only at h;have fin:∀ {s:Sem Value},(∃ v,s.run P w = .ok v w/\Rep M B p v/\p.own=false)->execOp ρ ⟨dst,op,type,pos,after,guard⟩=(do pure (.value (<- s)))->∃ v,(execOp ρ ⟨dst,op,type,pos,after,guard⟩).run P w = .ok (.value v) w/\Rep M B p v/\p.own=false :=fun ⟨v,h1,h2⟩ he=>⟨v,aVX he h1,h2⟩
 cases op with
 | move x=>exact ⟨ρ x,rfl,hrd _ _ h⟩
 | assign x=>exact ⟨ρ x,rfl,hrd _ _ h⟩
 | pick c a b =>
  rw[pop] at h;split at h
  .rename_i cc hc;have e:=jo.1 (hrd _ _ hc).1;cases cc with
   | true=>exact ⟨ρ a,by simp[execOp,e,asBool],hrd _ _ (by simpa using h)⟩
   | false=>exact ⟨ρ b,by simp[execOp,e,asBool],hrd _ _ (by simpa using h)⟩
  .cases h
 | fieldAddr s x f =>
  rw[pop] at h;split at h
  .rename_i fs q hf hq;cases hj:fs[f]? with
   | none=>simp[hj] at h
   | some ozg =>
    obtain ⟨o,z,g⟩:=ozg;simp only[hj,xA] at h;split at h
    .cases h
    .rename_i hz;exact fin (bMQ (hrd _ _ hq).1 hf hj hz h w) rfl
  .cases h
 | field s x f =>
  rw[pop] at h;split at h
  .rename_i fs cs hf hq;cases hj:fs[f]? with
   | none=>simp[hj] at h
   | some ozg =>obtain ⟨o,z,g⟩:=ozg;simp only[hj,xA] at h;obtain ⟨Fs,F,I,i,zv,d,hu,hF,ho,hT,hsz,hg⟩:=aEA hf hj;subst ho; subst hsz; subst hg;obtain ⟨vs,e,hv⟩:=qG.1 (hrd _ _ hq).1;obtain ⟨v,h1,h2⟩:=Zq hv hT h w;refine fin ⟨v,?_,h2⟩ rfl;rw[e];simp[Instr.field,ed hu,hF,asAgg,h1]
  .cases h
 | indexAddr t x i=>exact fin (bD0 hrd h w) rfl
 | index t x i=>exact fin (bD3 hrd h w) rfl
 | slice t x lo hi mx =>
  cases mx with
  | some m =>
   cases lo with
   | none=>simp[pop] at h
   | some l =>
    cases hi with
    | none=>simp[pop] at h
    | some b =>
     rw[pop] at h;split at h
     .rename_i q pa pb pc hx ha hb hc;exact fin (bM4 h (hrd _ _ hx).1 (hrd _ _ ha).1 (hrd _ _ hb).1 (hrd _ _ hc).1 w) rfl
     .cases h
  | none =>
   rw[pop] at h;cases hx:rd x with
   | none=>simp[hx] at h
   | some q =>
    cases lo with
    | none =>
     cases hi with
     | none=>simp[hx] at h; exact fin (Zl h (hrd _ _ hx).1 (.inl ⟨rfl,rfl⟩) (.inl ⟨rfl,rfl⟩) w) rfl
     | some b =>
      cases hb:rd b with
      | none=>simp[hx,hb] at h
      | some pb=>simp[hx,hb] at h; exact fin (Zl h (hrd _ _ hx).1 (.inl ⟨rfl,rfl⟩) (.inr ⟨_,_,rfl,rfl,(hrd _ _ hb).1⟩) w) rfl
    | some a =>
     cases ha:rd a with
     | none=>cases hi<;>simp[hx,ha] at h
     | some pa =>
      cases hi with
      | none=>simp[hx,ha] at h; exact fin (Zl h (hrd _ _ hx).1 (.inr ⟨_,_,rfl,rfl,(hrd _ _ ha).1⟩) (.inl ⟨rfl,rfl⟩) w) rfl
      | some b =>
       cases hb:rd b with
       | none=>simp[hx,ha,hb] at h
       | some pb=>simp[hx,ha,hb] at h; exact fin (Zl h (hrd _ _ hx).1 (.inr ⟨_,_,rfl,rfl,(hrd _ _ ha).1⟩) (.inr ⟨_,_,rfl,rfl,(hrd _ _ hb).1⟩) w) rfl
 | binOp op t x y yt =>
  rw[pop] at h;split at h
  .rename_i a b ha hb;obtain ⟨h1,v,h2,h3⟩:=aTB h (hrd _ _ ha).1 (hrd _ _ hb).1 w;refine fin (s:=do eqGuard op t x y (ρ x) (ρ y); binOp op t (ρ x) (ρ y)) ⟨v,?_,h3⟩ rfl;rw[kX,h1 x y,qM,h2]
  .cases h
 | unOp op t x =>
  rw[pop] at h;cases hx:rd x with
  | none=>simp[hx] at h
  | some q=>simp[hx] at h; exact fin (bO5 h (hrd _ _ hx).1 w) rfl
 | convert s d x =>
  rw[pop] at h;cases hx:rd x with
  | none=>simp[hx] at h
  | some q=>simp[hx] at h; exact fin (aUP h (hrd _ _ hx).1 w hmem) rfl
 | makeFunc fn first caps =>
  rw[pop] at h;split at h
  .rename_i f c hf hc;cases h;exact fin (s:=Instr.makeFunc fn (first.map ρ) (caps.map ρ)) ⟨_,rfl,zk.2 ⟨_,_,rfl,by simpa using (Ku hrd hf).1,by simpa using (Ku hrd hc).1⟩,rfl⟩ rfl
  .cases h
 | extract x i =>
  rw[pop] at h;cases hx:rd x with
  | none=>simp[hx] at h
  | some q=>simp[hx] at h; exact fin (aVY h (hrd _ _ hx).1 w) rfl
 | nilCheck x =>
  rw[pop] at h;split at h
  .rename_i i o hx;cases h;obtain ⟨c,_,e⟩:=wQ.1 (hrd _ _ hx).1;exact ⟨ρ x,by simp[execOp,e],(hrd _ _ hx)⟩
  .rename_i q hx;cases h;obtain ⟨b,off,e,_⟩:=Au.1 (hrd _ _ hx).1;exact ⟨ρ x,by simp[execOp,e],(hrd _ _ hx)⟩
  .rename_i f a b hx;cases h;obtain ⟨f',c',e,_,_⟩:=zk.1 (hrd _ _ hx).1;exact ⟨ρ x,by simp[execOp,e],(hrd _ _ hx)⟩
  .cases h
 | build t ps=>exact fin (aTI hrd h w) rfl
 | call c =>obtain ⟨v,h1,h2⟩:=aU5 (ty:=type) hrd (by simpa[pop] using h) w;exact ⟨v,h1,h2⟩
 | _=>simp[pop] at h
end
structure AE where
 P:Program
 n:Nat
 vars:List Nat
 mv:List Nat
 mu:List Nat
 sz:List (Nat×List Nat) := []
 jt:List (Nat×List Nat) := []
 lt:List (Nat×List Nat) := []
 pt:List (Nat×List Nat) := []
 fz:List Nat := []
 ft:List (Nat×List Nat) := []
 sy:List Nat := []
 ln:List Nat := []
def ASt.ev (Z:ASt):Operand->Option PV
 | .tmp t=>bU t Z.s
 | .const v=>ZE v
 | .func f=>some (.func (.func f) [] [])
 | .global _=>none
def ASt.rd (Z:ASt) (x:Operand):Option PV:=(Z.ev x).map PV.un
def ASt.rdT (zs:List Nat) (Z:ASt) (x:Operand):Option PV:=(Z.rd x).map (PV.zn zs)
def elT (P:Program) (t:TypeId):List Nat:=match xN P t with | some e=>N9 P 8 e | none => []
def ASt.clr (Z:ASt):Operand->ASt
 | .tmp t=>match bU t Z.s with
  | some p => { Z with s:=iF t p.un Z.s }
  | none=>Z
 | _=>Z
def ASt.put (E:AE) (dst:Option Nat) (p:PV) (Z:ASt):Option ASt :=
 match dst with
 | none=>some Z
 | some d=>if d<E.n then some { Z with s:=iF d p Z.s } else none
def dC (l:List Nat):Option Nat->Bool
 | some d=>l.contains d
 | none=>false
def nM (mv:Bool) (I:TI) (q:PV) (Z:ASt):Option (PV×ASt) :=
 match q with
 | .cst e=>if e.isAgg=I.agg/\e.size=I.size then some (e.un,Z) else none
 | .ptr i off=>match Z.h[i]? with
  | some (some cs) =>
   if I.agg then (if off+I.size<=cs.length then some (.agg (((cs.drop off).take I.size).map PV.un),Z) else none)
   else match cs[off]? with
    | some p=>if mv then some (p,{ Z with h:=Z.h.set i (some (cs.set off p.un)) }) else some (p.un,Z)
    | none=>none
  | _=>none
 | _=>none
def vG (I:TI) (a x:PV) (Z:ASt):Option ASt :=
 match a with
 | .ptr i off=>match Z.h[i]? with
  | some (some cs)=>match x with
   | .agg ds=>if ds.length=I.size/\off+I.size<=cs.length/\ds.all PV.one then some { Z with h:=Z.h.set i (some (cs.take off ++ ds.map PV.un ++ cs.drop (off+I.size))) } else none
   | p=>if p.one/\I.size=1/\off<cs.length then some { Z with h:=Z.h.set i (some (cs.set off p)) } else none
  | _=>none
 | _=>none
def PV.okE:PV->Bool
 | .agg ds=>ds.all PV.one&&PV.flats ds
 | p=>p.one&&p.flat
theorem bHL {p:PV} (h:p.okE=true):p.flat=true:=by
 cases p with
 | agg ds=>simp only[PV.okE,au] at h; exact h.2
 | _=>first | (simp only[PV.okE,au] at h; exact h.2) | (simp[PV.okE,PV.one] at h; done)
def Dn (sz:Nat):Nat->List (Nat×PV)->Option (bSH)
 | _,[]=>some []
 | k,(i,p)::ps=>if i=k/\p.size=sz/\p.okE then (Dn sz (k+1) ps).map (p.un :: ·) else none
def dW:bSH->bSH
 | [] => []
 | .agg ds::ps=>ds.map PV.un ++ dW ps
 | p::ps=>p.un::dW ps
def NU (q:PV):Option PV:=match q.newCells with
 | some cs=>if q.flat=true then some (match q with | .agg _ => .agg cs | _=>q) else none
 | none=>none
def JH (b:Bool) (t:Nat) (i:Nat) (cs:bSH):bSH:=match b,cs with
 | true,[.nilp,.sl true 0 []]=>(match Nat.beq t 0||Nat.beq t DU with | true=>cs | false => [.cZ t i,.dB []])
 | _,cs=>cs
theorem aTE (b:Bool) (t:TypeId) (i:Nat) (cs:bSH):(JH b t i cs).length=cs.length:=by
 unfold JH; split
 .split<;>rfl
 .rfl
theorem aTD {b:Bool} {t:TypeId} {i:Nat} {cs:bSH} {j:Nat} {p:PV} (h:(JH b t i cs)[j]? = some p):cs[j]? = some p\/(j=0/\p = .cZ t i/\cs[0]? = some .nilp/\cs.length=2/\(t≠0/\Nat.beq t DU=false))\/(j=1/\p = .dB []/\cs[1]? = some (.sl true 0 [])):=by
 unfold JH at h;split at h
 .split at h
  .exact .inl h
  .rename_i ht;rw[Ld] at ht;match j with
   | 0=>simp at h; exact .inr (.inl ⟨rfl,h.symm,rfl,rfl,fun e=>by subst e; exact absurd ht.1 (by decide),ht.2⟩)
   | 1=>simp at h; exact .inr (.inr ⟨rfl,h.symm,rfl⟩)
   | j+2=>simp at h
 .exact .inl h
def vM (I:TI):PV:=match I.agg with
 | true => .agg (I.zero.map PV.un)
 | false=>match I.zero with | [p]=>p.un | _ => .nilp
def wo (n:Nat) (I:TI):bSH:=match I.zero with
 | [p]=>List.replicate n p
 | zs=>(List.replicate n zs).flatten
theorem bP4 (n:Nat) (I:TI):wo n I=(List.replicate n I.zero).flatten:=by
 unfold wo;split
 .rename_i p h;rw[h];induction n with
  | zero=>rfl
  | succ n ih=>rw[VO,VO,aB6,<- ih]; rfl
 .rfl
def Ij (b:ByteArray):bSH:=b.data.toList.map fun x => .int .u8 x.toNat
theorem bMM (b:ByteArray):(Ij b).length=b.size:=by rw[Ij,bM,Array.length_toList]; rfl
theorem bML (b:ByteArray):Ij b=mF b.data.toList:=rfl
theorem aCZ (a b:bSI):mF (a ++ b)=mF a ++ mF b:=ry
theorem WU (a:bSI):(mF a).length=a.length:=bM _
def aNF (l:List Nat):PV->Bool
 | .cst _=>true
 | .ptr i _=>dC l (some (1000000+i))
 | _=>false
def zg:Operand->Option Nat
 | .tmp t=>some t
 | _=>none
def PS (mu ln:List Nat) (d:Option Nat) (q:Option PV):Bool:=match dC mu d with
 | true=>(match q with | some (.ptr i _) => !dC ln (some (1000000+i)) | _=>false)
 | false=>true
def UJ:bSH->Option Int
 | [.int .u8 c]=>some c
 | _=>none
theorem bHQ {es:bSH} {c:Int} (h:UJ es=some c):es = [.int .u8 c]:=by
 unfold UJ at h; split at h
 .cases h; rfl
 .cases h
theorem bHP {c:Int} (h0:0<=c) (h1:c<256):mF [UInt8.ofNat c.toNat] = [.int .u8 c]:=by have:(UInt8.ofNat c.toNat).toNat=c.toNat:=UInt8.toNat_ofNat_of_lt' (by show c.toNat<256; omega);simp only[mF,qm,QC,this];rw[Lh h0]
def Dl (Z:ASt) (sz:Nat):PV->Option (Nat×bSH)
 | .sl _ sz' es=>(match Nat.beq sz' sz||Nat.beq sz' 0 with | true=>some (es.length,dW es) | false=>none)
 | .slh j off m sz'=>(match Z.h[j]? with
  | some (some cs)=>if sz'=sz/\off+m*sz<=cs.length then some (m,((cs.drop off).take (m*sz)).map PV.un) else none
  | _=>none)
 | _=>none
def aKU (P:Program) (k:TypeId):Option (Option IntKind):=match P.underlying k with
 | some .string=>some none
 | some (.int kd)=>some (some kd)
 | _=>none
def zeroOf:Value->PV
 | .agg cs => .agg ((cs.toList.map mP).map PV.un)
 | v=>(mP v).un
def VK:Value->Bool
 | .agg cs=>cs.toList.all (·.oneCell')
 | v=>v.oneCell'
def CB (P:Program) (t:TypeId):Option (Option IntKind×PV):=match P.underlying t with
 | some (.map k e)=>(match aKU P k,(P.info? e).bind (·.zero) with
  | some s,some z=>(match VK z with | true=>some (s,zeroOf z) | false=>none)
  | _,_=>none)
 | _=>none
def eqK (s:Option IntKind) (a b:PV):Option Bool:=match s,a,b with
 | some kd,.int k x,.int k' y=>(match decide (k=kd)&&decide (k'=kd) with | true=>some (x==y) | false=>none)
 | none,.str x,.str y=>some (x.data.toList==y.data.toList)
 | _,_,_=>none
def xY (s:Option IntKind):bSH->PV->Option (Option PV)
 | k::v::L,q=>(match eqK s q k with
  | some true=>some (some v)
  | some false=>xY s L q
  | none=>none)
 | [],_=>some none
 | [_],_=>none
def qB (s:Option IntKind):bSH->PV->Bool
 | k::_::L,q=>(match eqK s q k with | some _=>true | none=>false)&&qB s L q
 | [],_=>true
 | [_],_=>false
def qX (s:Option IntKind):bSH->PV->Bool
 | k::_::L,q=>(match eqK s q k with | some true=>true | _=>qX s L q)
 | _,_=>false
def mg (s:Option IntKind):bSH->PV->PV->bSH
 | k::v::L,q,x=>(match eqK s q k with | some true=>q::x::L | _=>k::v::mg s L q x)
 | L,_,_=>L
def nO:PV->PV->Bool
 | .str a,.str b=>Df a.data.toList b.data.toList
 | _,_=>false
def o8:bSH->PV->PV->bSH
 | k::v::L,q,x=>(match nO q k with | true=>q::x::k::v::L | false=>k::v::o8 L q x)
 | _,q,x => [q,x]
def jO (s:Option IntKind) (L:bSH) (q x:PV):bSH:=match qX s L q with
 | true=>mg s L q x
 | false=>o8 L q x
def nP (b:Bool) (L:bSH):PV:=match b with | true => .mp L | false => .func (.yield Gj) L []
def Af:bSH->Option (Bool×bSH)
 | [.func (.yield n) L []]=>(match Nat.beq n Gj with | true=>some (false,L) | false=>none)
 | [.mp L]=>some (true,L)
 | _=>none
theorem aME {cs L:bSH} {b:Bool} (h:Af cs=some (b,L)):cs = [nP b L]:=by
 unfold Af at h;split at h
 .split at h
  .rename_i hn; cases h; rw[lm hn]; rfl
  .cases h
 .cases h; rfl
 .cases h
def zO (s:ByteArray) (p:Int):PV := .func (.yield Vb) [.str s,.int .i64 p] []
def OI:bSH->Option (ByteArray×Int)
 | [.func (.yield n) [.str s,.int .i64 p] []]=>(match Nat.beq n Vb with | true=>some (s,p) | false=>none)
 | _=>none
theorem aK9 {cs:bSH} {s:ByteArray} {p:Int} (h:OI cs=some (s,p)):cs = [zO s p]:=by
 unfold OI at h;split at h
 .split at h
  .rename_i hn; cases h; rw[lm hn]; rfl
  .cases h
 .cases h
def OJ (s:ByteArray) (p:Int):Int:=p+((Utf8.decode s p.toNat).2:Int)
def Ya (s:ByteArray) (p:Int):Int:=((Utf8.decode s p.toNat).1:Int)
def U4 (b:Bool) (B:aV):aV:=match b with | true => [] | false=>B
theorem ZW {M:Mem} {B:aV} {b:Bool} {L:bSH} {v:Value}:Rep M B (nP b L) v↔∃ f,v = .func (.yield Gj) f #[]/\bC M (U4 b B) L f.toList:=by
 cases b with
 | true=>exact aOK
 | false =>
  refine zk.trans ⟨?_,?_⟩
  .rintro ⟨f,c,rfl,h1,h2⟩;rw[eu] at h2;have:c = #[]:=by rw[<- oK]; exact h2
   subst this;exact ⟨f,rfl,h1⟩
  .rintro ⟨f,rfl,h1⟩;exact ⟨f,#[],rfl,h1,eu.2 rfl⟩
theorem OZ (b:Bool) (L:bSH):(nP b L).own=false:=by cases b<;>rfl
def yM (s:Option IntKind) (q:PV):Bool:=match s,q with
 | some kd,.int k _=>decide (k=kd)
 | none,.str _=>true
 | _,_=>false
def Bv (ok:Bool) (z:PV):Option PV->PV
 | some p=>(match ok with | true => .tuple [p.un,.bool true] | false=>p.un)
 | none=>(match ok with | true => .tuple [z,.bool false] | false=>z)
def bD2 (mu:List Nat) (d:Option Nat):Bool:=dC mu (d.map (5000000 + ·))
def Za (l:List Nat) (n:Nat):Bool:=l.all fun k=>match Nat.ble 1000000 k with | true=>Nat.blt (k-1000000) n | false=>true
def Ul (mu ln:List Nat) (d:Option Nat) (q:Option PV):Bool:=match dC mu (d.map (6000000 + ·)) with
 | true=>(match q with | some (.cZ _ i) => !dC ln (some (1000000+i)) | _=>false)
 | false=>true
def bY (E:AE) (o:Oper) (Z:ASt):Option (PV×ASt) :=
 match o.op with
 | .move x=>if dC E.mv o.dst then (Z.ev x).map fun p=>(p,Z.clr x) else (Z.rd x).map fun p=>(p,Z)
 | .assign x=>(Z.ev x).map fun p=>(p,Z.clr x)
 | .alloc t=>match dC E.ln o.dst && !Za E.ln Z.h.length with
  | true=>none
  | false=>(ti E.P t).map fun I=>(.ptr Z.h.length 0,{ Z with h:=Z.h ++ [some (JH (dC E.mu o.dst) t Z.h.length I.zero)] })
 | .box _ x=>if dC E.fz o.dst then ((Z.rd x).bind NU).map fun e=>(.cst e,Z) else ((Z.rd x).bind PV.newCells).map fun cs=>(.ptr Z.h.length 0,{ Z with h:=Z.h ++ [some cs] })
 | .load t a=>match ti E.P t,Z.rd a with
  | some I,some q=>(match dC E.ln o.dst with | true=>(match aNF E.ln q with | true=>nM false I q Z | false=>none) | false=>nM (dC E.mv o.dst) I q Z)
  | _,_=>none
 | .store t a x=>match PS E.mu E.ln (zg a) (Z.rd a) with
  | false=>none
  | true=>match ti E.P t,Z.rd a,Z.ev x,o.dst with
   | some I,some q,some p,none=>(vG I q p (Z.clr x)).map fun Z'=>(.tuple [],Z')
   | _,_,_,_=>none
 | .buildSlice t len ps=>match jh E.P t,uG (Z.rdT (elT E.P t)) ps.toList with
  | some I,some qs=>match Dn I.size 0 qs with
   | some es=>if es.length=len/\0<I.size/\len*I.size<=16777216 then
    (if dC E.mu o.dst then some (.slh Z.h.length 0 len I.size,{ Z with h:=Z.h ++ [some (dW es)] }) else (match bD2 E.mu o.dst with
     | true=>(match (dW es).all PV.lit with | true=>some (.fJ true len I.size (dW es),Z) | false=>none)
     | false=>some (.sl true I.size es,Z))) else none
   | none=>none
  | _,_=>none
 | .makeSlice t l c=>match jh E.P t,Z.rd l,Z.rd c with
  | some I,some (.int _ n),some (.int _ n')=>if n=n'/\0<=n/\n<=1073741824/\0<I.size/\I.bytes<=1024 then
   (if dC E.mu o.dst then some (.slh Z.h.length 0 n.toNat I.size,{ Z with h:=Z.h ++ [some (wo n.toNat I)] }) else if (vM I).size=I.size/\(vM I).okE=true then some (.sl true I.size (List.replicate n.toNat (vM I)),Z) else none) else none
  | _,_,_=>none
 | .makeMap t r=>match dC E.ln o.dst && !Za E.ln Z.h.length with
  | true=>none
  | false=>(match CB E.P t,r with
   | some _,none=>some (.cZ 0 Z.h.length,{ Z with h:=Z.h ++ [some [nP (dC E.mu o.dst) []]] })
   | _,_=>none)
 | .lookup t m k ok=>match CB E.P t,Z.rd m,Z.rd k with
  | some (s,z),some (.cZ 0 i),some q=>(match Z.h[i]? with
   | some (some cs)=>(match Af cs with
    | some (_,L)=>(match yM s q,xY s L q with
     | true,some r=>some (Bv ok z r,Z)
     | _,_=>none)
    | none=>none)
   | _=>none)
  | _,_,_=>none
 | .mapUpdate t m k v=>match CB E.P t,Z.rd m,Z.rd k,Z.rd v,o.dst with
  | some (s,_),some (.cZ 0 i),some q,some x,none=>(match Z.h[i]? with
   | some (some cs)=>(match Af cs with
    | some (b,L)=>(match yM s q&&(qB s L q&&(!b||x.flat)) with
     | true=>some (.tuple [],{ Z with h:=Z.h.set i (some [nP b (jO s L q x)]) })
     | false=>none)
    | none=>none)
   | _=>none)
  | _,_,_,_,_=>none
 | .insert t m k v=>match Ul E.mu E.ln (zg m) (Z.rd m) with
  | false=>none
  | true=>match CB E.P t,Z.rd m,Z.rd k,Z.rd v,o.dst with
   | some (s,_),some (.cZ 0 i),some q,some x,none=>(match Z.h[i]? with
    | some (some cs)=>(match Af cs with
     | some (b,L)=>(match yM s q&&(qB s L q&&(!b||x.flat)) with
      | true=>some (.tuple [],{ Z with h:=Z.h.set i (some [nP b (jO s L q x)]) })
      | false=>none)
     | none=>none)
    | _=>none)
   | _,_,_,_,_=>none
 | .range t x=>match uC E.P t,Z.rd x with
  | true,some (.str s)=>some (.cZ DU Z.h.length,{ Z with h:=Z.h ++ [some [zO s 0]] })
  | _,_=>none
 | .next x b=>match b,Z.rd x with
  | true,some (.cZ T i)=>(match Z.h[i]? with
   | some (some cs)=>(match OI cs with
    | some (s,p)=>(match Nat.beq T DU&&decide (0<=p) with
     | true=>(match decide (p<(s.size:Int)) with
      | true=>some (.tuple [.bool true,.int .i64 p,.int .i32 (Ya s p)],{ Z with h:=Z.h.set i (some [zO s (OJ s p)]) })
      | false=>some (.tuple [.bool false],Z))
     | false=>none)
    | none=>none)
   | _=>none)
  | _,_=>none
 | .call c=>match c.callee with
  | .builtin .copy=>(match c.args.toList,c.argTypes.toList with
   | [x,y],[t,_]=>(match jh E.P t,Z.rd x,Z.rd y with
    | some I,some (.slh i off n sz),some q=>(match Z.h[i]?,Dl Z sz q with
     | some (some cs),some (m,cells)=>if I.size=sz/\0<sz/\off+n*sz<=cs.length then some (.int .i64 ((Nat.min m n:Nat):Int),{ Z with h:=Z.h.set i (some (cs.take off ++ cells.take (Nat.min m n*sz) ++ cs.drop (off+Nat.min m n*sz))) }) else none
     | _,_=>none)
    | _,_,_=>none)
   | _,_=>none)
  | .builtin .clear=>(match c.args.toList,c.argTypes.toList,o.dst with
   | [x],[t],none=>(match jh E.P t,Z.rd x with
    | some I,some (.slh i off n sz)=>(match Z.h[i]? with
     | some (some cs)=>if I.size=sz/\off+n*sz<=cs.length then some (.tuple [],{ Z with h:=Z.h.set i (some (cs.take off ++ (wo n I).map PV.un ++ cs.drop (off+n*sz))) }) else none
     | _=>none)
    | some _,some (.sl _ _ [])=>some (.tuple [],Z)
    | _,_=>none)
   | _,_,_=>none)
  | .builtin .append=>(match c.args.toList,c.argTypes.toList with
   | [s,x],[t,u]=>(match jh E.P t,Z.ev s,Z.rd x with
    | some I,some (.sl ow sz es),some (.sl _ sz' es')=>if (ow=true\/sz=0)/\t=u/\0<I.size/\I.bytes<=1024/\(sz=I.size\/sz=0)/\(sz'=I.size\/sz'=0) then some (.sl true I.size (es ++ es'),Z.clr s) else none
    | some I,some (.sl ow sz es),some (.str b)=>if (ow=true\/sz=0)/\OG E.P t=true/\uC E.P u=true/\I.size=1/\I.bytes<=1024/\(sz=I.size\/sz=0) then some (.sl true I.size (es ++ Ij b),Z.clr s) else none
    | some I,some (.fJ true k sz cs),some (.sl _ sz' es')=>if t=u/\0<I.size/\I.bytes<=1024/\sz=I.size/\(sz'=I.size\/sz'=0)/\(dW es').all PV.lit=true then some (.fJ true (k+es'.length) I.size (cs ++ dW es'),Z.clr s) else none
    | some I,some (.dB l),some (.str b)=>if xN E.P t=some Gz/\uC E.P u=true/\I.size=1/\I.bytes<=1024 then some (.dB (l ++ b.data.toList),Z.clr s) else none
    | some I,some (.dB l),some (.sl _ sz' es')=>(match UJ es' with
     | some c=>if xN E.P t=some Gz/\t=u/\I.size=1/\I.bytes<=1024/\sz'=1 then some (.dB (l ++ [UInt8.ofNat c.toNat]),Z.clr s) else none
     | none=>none)
    | _,_,_=>none)
   | _,_=>none)
  | _=>(Fb E.P Z.rd c).map fun p=>(p,Z)
 | op=>(pop E.P Z.rd op).map fun p=>(p,Z)
def jQ (E:AE) (o:Oper) (Z:ASt):Prop :=
 match o.op with
 | .call c=>match c.callee with
  | .builtin .append=>(match c.args.toList with
   | [s,x]=>(match Z.ev s,Z.rd x with
    | some (.sl _ _ es),some (.sl _ _ es')=>es.length+es'.length<=aQ
    | some (.sl _ _ es),some (.str b)=>es.length+b.size<=aQ
    | some (.fJ _ k _ _),some (.sl _ _ es')=>k+es'.length<=aQ
    | some (.dB l),some (.str b)=>l.length+b.size<=aQ
    | some (.dB l),some (.sl _ _ es')=>(match UJ es' with | some c=>l.length+1<=aQ/\0<=c/\c<256 | none=>True)
    | _,_=>True)
   | _=>True)
  | _=>True
 | _=>True
section
variable {n:Nat} {out:Nat->Nat} {M:Mem} {B:aV} {Z:ASt} {a:Act} {w:World} {E:AE}
theorem Inv.ev (hI:Inv n M B out Z a.tmps w) {x:Operand} {p:PV} (h:Z.ev x=some p):Rep M B p (a.eval x)/\Tl M w p (a.eval x):=by
 cases x with
 | tmp t=>exact (hI.slots t p h).2
 | const v=>obtain ⟨h1,_,h3⟩:=aNE (M:=M) (B:=B) h; exact ⟨h1,h3 w⟩
 | func f=>cases h; exact ⟨zk.2 ⟨_,_,rfl,eu.2 rfl,eu.2 rfl⟩,fG rfl⟩
 | global g=>cases h
theorem Inv.rd (hI:Inv n M B out Z a.tmps w) (x:Operand) (q:PV) (h:Z.rd x=some q):Rep M B q (a.eval x)/\q.own=false:=by
 unfold ASt.rd at h;cases he:Z.ev x with
 | none=>simp[he] at h
 | some p=>simp[he] at h; subst h; exact ⟨nU.2 (hI.ev he).1,qI p⟩
theorem Inv.rdT (hI:Inv n M B out Z a.tmps w) (zs:List Nat) (x:Operand) (q:PV) (h:Z.rdT zs x=some q):Rep M B q (a.eval x)/\q.own=false:=by
 unfold ASt.rdT at h;cases he:Z.rd x with
 | none=>simp[he] at h
 | some p=>simp[he] at h; subst h; obtain ⟨h1,h2⟩:=hI.rd x p he; exact ⟨Ub zs h1,by rw[aOT]; exact h2⟩
theorem Inv.Wj (hI:Inv n M B out Z a.tmps w) {x:Operand} {p:PV} (h:Z.ev x=some p):Inv n M B out (Z.clr x) a.tmps w/\(∀ b,fp B (Z.clr x) a.tmps w b+bI p (a.eval x) b=fp B Z a.tmps w b)/\(Z.clr x).h=Z.h:=by
 cases x with
 | tmp t =>have h':bU t Z.s=some p:=h;have:=hI.clr h';simp only[ASt.clr,h'];exact ⟨this.1,this.2,trivial⟩
 | const v=>exact ⟨hI,fun b=>by rw[show a.eval (.const v)=v from rfl,(aNE (M:=M) (B:=B) h).2.1]; rfl,rfl⟩
 | func f=>cases h; exact ⟨hI,fun b=>by simp[bI,PV.own,ASt.clr],rfl⟩
 | global g=>cases h
structure Pre (n:Nat) (out:Nat->Nat) (M:Mem) (B:aV) (Z:ASt) (t:Array Value) (w:World) (M':Mem) (B':aV) (Z':ASt) (w':World) (p:PV) (v:Value):Prop where
 inv:Inv n M' B' out Z' t w'
 le:dJ M M' B B'
 fr:Fr (fp B Z t w) M w M' w'
 own:∀ b,b<w.heap.size->fp B' Z' t w' b+bI p v b<=fp B Z t w b
 rep:Rep M' B' p v
 tl:Tl M' w' p v
 cnt:∀ b,fp B' Z' t w' b+bI p v b+out b<=1
 new:∀ b,w'.heap.size<=b->bI p v b=0
theorem Pre.put {M':Mem} {B':aV} {Z1 Z':ASt} {w':World} {p:PV} {v:Value} (h:Pre E.n out M B Z a.tmps w M' B' Z1 w' p v) {dst:Option Nat} (hp:ASt.put E dst p Z1=some Z') :
 Good E.n out M B Z a.tmps w M' B' Z' (a.put dst v).tmps w':=by
 cases dst with
 | none =>simp only[ASt.put] at hp; cases hp;exact ⟨h.inv,h.le,h.fr,fun b hb=>by have:=h.own b hb; show fp B' Z1 a.tmps w' b<=_; omega⟩
 | some d =>
  simp only[ASt.put] at hp;split at hp
  .rename_i hd;cases hp;obtain ⟨h1,h2⟩:=h.inv.bK6 hd h.rep h.tl h.cnt h.new;exact ⟨h1,h.le,h.fr,fun b hb=>oM (h2 b) (h.own b hb)⟩
  .cases hp
theorem Pre.plain (hI:Inv n M B out Z a.tmps w) {p:PV} {v:Value} (hr:Rep M B p v) (ho:∀ b,bI p v b=0) (hT:Tl M w p v):Pre n out M B Z a.tmps w M B Z w p v :=⟨hI,dJ.refl _ _,Fr.refl _ _ _,fun b _=>by rw[ho]; exact bW _,hr,hT,fun b=>by rw[ho]; exact hI.cnt b,fun b _=>ho b⟩
theorem Pre.Ak {M':Mem} {B':aV} {Z':ASt} {w':World} (h:Good n out M B Z a.tmps w M' B' Z' a.tmps w') {p:PV} {v:Value} (hr:Rep M' B' p v) (ho:p.own=false):Pre n out M B Z a.tmps w M' B' Z' w' p v :=⟨h.inv,h.le,h.fr,fun b hb=>by rw[dO ho]; exact h.own b hb,hr,fG ho,fun b=>by rw[dO ho]; exact h.inv.cnt b,fun b _=>dO ho v b⟩
theorem Pre.moved (hI:Inv n M B out Z a.tmps w) {x:Operand} {p:PV} (h:Z.ev x=some p):Pre n out M B Z a.tmps w M B (Z.clr x) w p (a.eval x):=by obtain ⟨h1,h2,h3⟩:=hI.Wj h;obtain ⟨r1,r2⟩:=hI.ev h;exact ⟨h1,dJ.refl _ _,Fr.refl _ _ _,fun b _=>by rw[h2]; exact bW _,r1,r2,fun b=>by rw[h2]; exact hI.cnt b,fun b hb=>by have:=h2 b; have:=hI.new b hb; omega⟩
theorem aSL {P:Program} {t:TypeId} {I:TI} (h:ti P t=some I) (w:World):∃ vs:Array Value,(Instr.alloc t true (.tuple #[])).run P w = .ok (.pointer (some ⟨w.heap.size,0,none⟩)) (w.alloc (.cells vs t))/\vs.size=I.size/\I.zero=vs.toList.map mP/\∀ v,v∈vs->v.oneCell'=true:=by obtain ⟨i,z,d,hT⟩:=GH h;refine ⟨z.cells,?_,by rw[hT.Iy,hT.size],hT.TT,hT.one⟩;simp only[Instr.alloc,kX,hT.bLB w,qM,newVar,newRow,run_newObj];rfl
theorem Wh:∀ {ps:bSH} {b o:Nat},Cells M B ps b o->∃ vs:List Value,bC M B ps vs/\∀ (j:Nat) v,vs[j]? = some v->M b (o+j)=some v
 | [],_,_,_=>⟨[],eu.2 rfl,by simp⟩
 | p::ps,b,o,h=>by
  obtain ⟨⟨u,hu,hr⟩,h2⟩:=a1F.1 h;obtain ⟨vs,h3,h4⟩:=Wh h2;refine ⟨u::vs,dD.2 ⟨u,vs,rfl,hr,h3⟩,fun j v hv => ?_⟩;cases j with
  | zero=>simp at hv; subst hv; exact hu
  | succ j=>have:=h4 j v (by simpa using hv); rwa [show o+(j+1)=o+1+j by omega]
theorem Yy {P:Program} {t:TypeId} {I:TI} (h:ti P t=some I) {b off:Nat} {w:World} :
 (I.agg=true->∀ vs:List Value,vs.length=I.size->(∀ (j:Nat) v,vs[j]? = some v->w.cell? ⟨b,off+j,none⟩=some v)->(Instr.loadAt t (.pointer (some ⟨b,off,none⟩))).run P w = .ok (.agg vs.toArray) w) /\
 (I.agg=false->∀ v,w.cell? ⟨b,off,none⟩=some v->(Instr.loadAt t (.pointer (some ⟨b,off,none⟩))).run P w = .ok v w):=by
 obtain ⟨i,z,d,hT⟩:=GH h;constructor
 .intro hg vs hl hv;have:=run_loadCells_list (P:=P) w ⟨b,off,none⟩ vs (fun j v hj=>by rw[add_lit]; exact hv j v hj);rw[hl] at this;simp[Instr.loadAt,Instr.sureAddr,loadVar,hT.a9D w,hg,hT.run_sizeOf w,this]
 .intro hg v hv;simp[Instr.loadAt,Instr.sureAddr,loadVar,hT.a9D w,hg,hv]
theorem a5Z (hI:Inv n M B out Z a.tmps w) {P:Program} {t:TypeId} {I:TI} (h:ti P t=some I) {x:Operand} {q:PV} (hq:Z.rd x=some q) {mv:Bool} {p:PV} {Z1:ASt} (hl:nM mv I q Z=some (p,Z1)) :
 ∃ v,(Instr.loadAt t (a.eval x)).run P w = .ok v w/\Pre n out M B Z a.tmps w M B Z1 w p v:=by
 have hr:=(hI.rd x q hq).1;unfold nM at hl;split at hl
 .rename_i e;split at hl
  .rename_i hc;cases hl;obtain ⟨b,off,e1,hloc⟩:=Au.1 hr;have hloc:=hloc.mono (dJ.zero M B);rw[e1];cases hg:I.agg with
   | true =>
    rw[hg] at hc;cases e<;>simp[PV.isAgg] at hc
    rename_i cs;obtain ⟨vs,h1,h2⟩:=Wh (zV.1 hloc);have hlen:=qH h1;refine ⟨_,(Yy h).1 hg vs (by rw[<- hlen]; simpa[PV.size] using hc) (fun j v hv=>(hI.mem _ _ _ (h2 j v hv)).1),Pre.plain hI (qG.2 ⟨_,rfl,by simpa using h1⟩) (fun b=>dO rfl _ _) (fG rfl)⟩
   | false =>
    rw[hg] at hc;have h1:e.isAgg=false:=hc.1;have h2:∀ cs,e ≠ .tuple cs:=fun cs e'=>by subst e'; exact Yz.1 hloc
    obtain ⟨u,hu,TK⟩:=(yQ h1 h2).1 hloc;exact ⟨u,(Yy h).2 hg u (hI.mem _ _ _ hu).1,Pre.plain hI (nU.2 TK) (fun b=>KR _ _ _) (fG (qI _))⟩
  .cases hl
 .rename_i i off;obtain ⟨c,⟨hc,hcm⟩,e1⟩:=wQ.1 hr;rw[e1];split at hl
  .rename_i cs hcs;obtain ⟨vs,ty,r1,o2,o3,o4,o5⟩:=hI.heap.at hcs hc;obtain ⟨ty,rfl,o1⟩:=ER r1 (by rw[o2.2]; exact hcm);have hcell:∀ (j:Nat) v,vs[j]? = some v->w.cell? ⟨c.1,j,none⟩=some v:=fun j v hv=>by simp[World.cell?,o1,hv]
   split at hl
   .rename_i hg;split at hl
    .rename_i hfit;cases hl;have Jp:bC M B (((cs.drop off).take I.size).map PV.un) ((vs.toList.drop off).take I.size):=by
      refine Ia (ZY (cs:=cs.take cs.length) (vs:=vs.toList.take cs.length) (IZ (by simp; omega) fun j p u hp hu => ?_) off I.size |> fun h=>by
       have e1:(List.drop off (List.take cs.length cs)).take I.size=(cs.drop off).take I.size:=by rw[nZ (bW _)]
       have e2:(List.drop off (List.take cs.length vs.toList)).take I.size=(vs.toList.drop off).take I.size:=by rw[List.drop_take,List.take_take,QJ (by omega)]
       rw[e1,e2] at h; exact h)
      rw[iO] at hp hu;split at hp
      .rename_i hlt;rw[aJ hlt] at hu;obtain ⟨v,hv,hr',_⟩:=o4 j p hp;have hu':vs[j]? = some u:=by simpa using hu
       rw[hv] at hu'; cases hu'; exact hr'
      .cases hp
     refine ⟨_,(Yy h).1 hg ((vs.toList.drop off).take I.size) (by simp; omega) (fun j v hv => ?_),Pre.plain hI (qG.2 ⟨_,rfl,by simpa using Jp⟩) (fun b=>dO rfl _ _) (fG rfl)⟩;rw[iO] at hv;split at hv
     .rw[GZ] at hv;exact hcell _ _ (by simpa using hv)
     .cases hv
    .cases hl
   .rename_i hg;have hg':I.agg=false:=by simpa using hg
    cases hp:cs[off]? with
    | none=>simp[hp] at hl
    | some p0 =>
     simp only[hp] at hl;obtain ⟨v,hv,hrv,hTv,hone⟩:=o4 off p0 hp;have hrun:=(Yy (P:=P) (b:=c.1) (off:=off) (w:=w) h).2 hg' v (hcell _ _ hv);cases mv with
     | false =>simp at hl;obtain ⟨rfl,rfl⟩:=hl;exact ⟨v,hrun,Pre.plain hI (nU.2 hrv) (fun b=>KR _ _ _) (fG (qI _))⟩
     | true =>
      simp at hl;obtain ⟨rfl,rfl⟩:=hl;have hlt:=(eP.1 hp).1;have hset:w.setCell ⟨c.1,off,none⟩ v=w:=by
       have:=setCell_eq_setRow w c.1 off vs ty (0,0) v o1;rw[this];have e2:vs.setIfInBounds off v=vs:=by
        apply Array.ext (by simp);intro i h1 h2;by_cases e:off=i
        .subst e; have:=(wu.1 hv).2; simp[this]
        .rw[Q4 (by simpa using h1),aK e]
       rw[e2]; exact setRow_self w c.1 vs ty (0,0) o1
      have hcu:∀ b,bI p0.un v b=0:=fun b=>KR _ _ _
      obtain ⟨s1,s2,s3,_,_⟩:=hI.setCell hcs hc hcm hlt (nU.2 hrv) (fG (qI _)) hone (fun b=>by rw[hcu]; exact hI.cnt b) (fun b _=>hcu b);rw[hset] at s1 s2 s3;have hfp:∀ b,fp B { Z with h:=Z.h.set i (some (cs.set off p0.un)) } a.tmps w b+bI p0 v b<=fp B Z a.tmps w b:=fun b=>by
       have key:∀ (cs:bSH) (us:List Value) (j:Nat),cs[j]? = some p0->us[j]? = some v->dN (cs.set j p0.un) us b+bI p0 v b=dN cs us b:=by
        intro cs;induction cs with
        | nil=>intro us j h; simp at h
        | cons q qs ih =>
         intro us j h1 h2;cases us with
         | nil=>simp at h2
         | cons u us =>
          cases j with
          | zero=>simp at h1 h2; subst h1; subst h2; simp only[Eh,dN,KR]; omega
          | succ j=>have:=ih us j (by simpa using h1) (by simpa using h2); simp only[yz,dN]; omega
       have TU:∀ (h:aI) (B:aV) (i:Nat),h[i]? = some (some cs)->B[i]? = some c->aU w (h.set i (some (cs.set off p0.un))) B b+bI p0 v b=aU w h B b:=by
        intro h;induction h with
        | nil=>intro B i h1; simp at h1
        | cons x h ih =>
         intro B i h1 h2;cases B with
         | nil=>simp at h2
         | cons d B =>
          cases i with
          | zero =>simp at h1 h2; subst h1; subst h2;have:=key cs (gZ w d.1) off hp (by rw[oW r1]; simpa using hv);simp only[Eh,aU]; omega
          | succ i =>simp at h1 h2;have:=ih B i h1 h2;cases x<;>simp only[yz,aU]<;>omega
       have:=TU Z.h B i hcs hc;simp only[fp]; omega
      exact ⟨v,hrun,s1,dJ.refl _ _,Fr.refl _ _ _,fun b _=>hfp b,hrv,hTv,fun b=>by have:=hfp b; have:=hI.cnt b; omega,fun b hb=>by have:=hfp b; have:=hI.new b hb; omega⟩
  .cases hl
 .cases hl
end
section
variable {n:Nat} {out:Nat->Nat} {M:Mem} {B:aV} {Z:ASt} {a:Act} {w:World} {t:Array Value}
theorem Zo {P:Program} {i:Nat} {c:Nat×Nat×TypeId} (hc:B[i]? = some c) (hcm:c.2.2≠0) {off:Nat}:∀ (ds:bSH) (us:List Value) (k:Nat) (cs:bSH) (Z:ASt) (w:World),Inv n M B out Z t w->Z.h[i]? = some (some cs) ->
 bC M B ds us->(∀ d,d∈ds->d.own=false)->(∀ u,u∈us->u.oneCell'=true)->off+k+ds.length<=cs.length ->
 ∃ w',(storeCells ⟨c.1,off,none⟩ us k).run P w = .ok () w'/\Good n out M B Z t w M B { Z with h:=Z.h.set i (some (cs.take (off+k) ++ ds ++ cs.drop (off+k+ds.length))) } t w'
 | [],us,k,cs,Z,w,hI,hi,hr,_,_,_=>by
  rw[eu] at hr; subst hr;refine ⟨w,rfl,?_⟩;have:Z.h.set i (some (cs.take (off+k) ++ [] ++ cs.drop (off+k+([]:bSH).length)))=Z.h:=by
   simp only[zy,bG,Ei,QE];apply Ll;intro j;by_cases e:i=j
   .subst e; rw[ql (eP.1 hi).1,hi]
   .rw[lN e]
  rw[this]; exact Good.refl hI
 | d::ds,us,k,cs,Z,w,hI,hi,hr,hown,hone,hfit=>by
  obtain ⟨u,us,rfl,h1,h2⟩:=dD.1 hr;have ho:=hown d (by simp);have hu1:=hone u (by simp);simp only[aY] at hfit;obtain ⟨s1,s2,s3,s4,s5⟩:=hI.setCell hi hc hcm (by omega:off+k<cs.length) h1 (fG ho) hu1 (fun b=>by rw[dO ho]; exact hI.cnt b) (fun b _=>dO ho _ _);have hst:(store ((⟨c.1,off,none⟩:Addr).add k) u).run P w = .ok () (w.setCell ⟨c.1,off+k,none⟩ u):=by rw[add_lit,run_store P w _ u _ hu1];obtain ⟨x,hx⟩:=aRF.1 s5;simp[hx,s4]
  have hi':({ Z with h:=Z.h.set i (some (cs.set (off+k) d)) }:ASt).h[i]? = some (some (cs.set (off+k) d)):=ql (eP.1 hi).1;obtain ⟨w',hw,hG⟩:=Zo (P:=P) (off:=off) hc hcm ds us (k+1) (cs.set (off+k) d) _ _ s1 hi' h2 (fun e he=>hown e (by simp[he])) (fun v hv=>hone v (by simp[hv])) (by rw[Eg]; omega);refine ⟨w',by simp only[storeCells,kX,hst,qM,hw],?_⟩;have hG1:Good n out M B Z t w M B { Z with h:=Z.h.set i (some (cs.set (off+k) d)) } t (w.setCell ⟨c.1,off+k,none⟩ u) :=⟨s1,dJ.refl _ _,s3,fun b _=>by have:=s2 b; rw[dO ho] at this; exact this⟩;have:=hG1.trans hG;have e:(cs.set (off+k) d).take (off+(k+1)) ++ ds ++ (cs.set (off+k) d).drop (off+(k+1)+ds.length)=cs.take (off+k) ++ (d::ds) ++ cs.drop (off+k+(d::ds).length):=by
   have e1:(cs.set (off+k) d).take (off+(k+1))=cs.take (off+k) ++ [d]:=by
    apply Ll;intro j;simp only[iO,List.getElem?_set,List.getElem?_append,nY];by_cases hj:j<off+k
    .rw[aJ (by omega),aK (by omega),aJ (by omega),aJ hj]
    .by_cases hj2:j=off+k
     .subst hj2;rw[aJ (by omega),aJ rfl,aJ (by omega),aK (by omega),QJ (by omega)]; simp
     .rw[aK (by omega),aK (by omega),ww (by simp; omega)]
   have e2:(cs.set (off+k) d).drop (off+(k+1)+ds.length)=cs.drop (off+k+(d::ds).length):=by rw[List.drop_set_of_lt (by omega)];congr 1; simp; omega
   rw[e1,e2]; simp
  rw[List.set_set,e] at this;exact this
theorem aOO {ds:bSH} {us:List Value} (h:bC M B ds us) (ho:∀ d,d∈ds->d.one=true):∀ u,u∈us->u.oneCell'=true:=by intro u hu;obtain ⟨j,hj⟩:=DI.1 hu;have hl:=qH h;have hjl:=(eP.1 hj).1;have hd:ds[j]? = some ds[j]:=iM (by omega);obtain ⟨u',e,hr⟩:=wS h hd;rw[e] at hj; cases hj;exact (EL (ho _ (dw _)) hr).2
theorem bMJ (hI:Inv n M B out Z a.tmps w) {P:Program} {ty:TypeId} {I:TI} (h:ti P ty=some I) {x y:Operand} {q p:PV} (hq:Z.rd x=some q) (hp:Z.ev y=some p) {Z1:ASt} (hs:vG I q p (Z.clr y)=some Z1) :
 ∃ w' M' B',(Instr.storeAt ty (a.eval x) (a.eval y)).run P w = .ok () w'/\Pre n out M B Z a.tmps w M' B' Z1 w' (.tuple []) undef:=by
 have hr:=(hI.rd x q hq).1;obtain ⟨hpr,hpT⟩:=hI.ev hp;obtain ⟨i',z,d,hT⟩:=GH h;obtain ⟨c1,c2,c3⟩:=hI.Wj hp;have aJO:Rep M B (.tuple []) undef:=tJ.2 ⟨#[],rfl,eu.2 rfl⟩;unfold vG at hs;split at hs
 .rename_i i off;obtain ⟨c,⟨hc,hcm⟩,e1⟩:=wQ.1 hr;rw[e1];split at hs
  .rename_i cs hcs;split at hs
   .rename_i ds;split at hs
    .rename_i hlen;cases hs;obtain ⟨vs,e2,hv⟩:=qG.1 hpr;have hvs:vs.size=I.size:=by have:=qH hv; simp at this; omega
     have hone:∀ d,d∈ds->d.one=true:=fun d hd=>iC.1 hlen.2.2 d hd
     .obtain ⟨w',hw,hG⟩:=Zo (P:=P) hc hcm (off:=off) (ds.map PV.un) vs.toList 0 cs _ _ c1 hcs (Ia hv) (fun d hd=>by obtain ⟨x,_,rfl⟩:=qL.1 hd; exact qI x) (aOO hv hone) (by simp; omega);refine ⟨w',M,B,?_,?_⟩
      .rw[e2];have hsz:(Value.agg vs).cells.size=I.size:=hvs;simp only[Instr.storeAt,Instr.sureAddr,kX,DN,qM,storeVar,hT.run_sizeOf w];rw[aK (by rw[hsz]; simp)];exact hw
      .have hp0:∀ b,bI (.agg ds) (a.eval y) b=0:=fun b=>dO rfl _ _
       have hfp:∀ b,fp B (Z.clr y) a.tmps w b=fp B Z a.tmps w b:=fun b=>by have:=c2 b; rw[hp0] at this; exact this
       have e3:({ Z.clr y with h:=(Z.clr y).h.set i (some (cs.take (off+0) ++ ds.map PV.un ++ cs.drop (off+0+(ds.map PV.un).length))) }:ASt) = { Z.clr y with h:=(Z.clr y).h.set i (some (cs.take off ++ ds.map PV.un ++ cs.drop (off+I.size))) }:=by simp only[Ei,bM,hlen.1]
       rw[e3] at hG;exact ⟨hG.inv,hG.le,hG.fr.mono fun b _ h0=>by rw[hfp]; exact h0,fun b hb=>by have:=hG.own b hb; rw[hfp] at this; simpa[bI,PV.own] using this,aJO,fG rfl,fun b=>by have:=hG.inv.cnt b; simpa[bI,PV.own] using this,fun b _=>by simp[bI,PV.own]⟩
    .cases hs
   .split at hs
    .rename_i p bQ5 hcond;cases hs;obtain ⟨h1,h2,h3⟩:=hcond;obtain ⟨k1,k2⟩:=EL h1 hpr;obtain ⟨s1,s2,s3,s4,s5⟩:=c1.setCell hcs hc hcm h3 hpr hpT k2 (fun b=>by rw[c2]; exact hI.cnt b) (fun b hb=>by have:=c2 b; have:=hI.new b hb; omega);refine ⟨_,M,B,?_,s1,dJ.refl _ _,s3.mono fun b _ h0=>by have:=c2 b; omega,fun b _=>by have:=s2 b; have:=c2 b; simp only[bI,PV.own]; simp; omega,aJO,fG rfl,fun b=>by have:=s1.cnt b; simpa[bI,PV.own] using this,fun b _=>by simp[bI,PV.own]⟩;have hst:(store ((⟨c.1,off,none⟩:Addr).add 0) (a.eval y)).run P w = .ok () (w.setCell ⟨c.1,off,none⟩ (a.eval y)):=by rw[add_lit,run_store P w _ _ _ k2];obtain ⟨x,hx⟩:=aRF.1 s5;simp[hx,s4]
     simp only[Instr.storeAt,Instr.sureAddr,kX,DN,qM,storeVar,hT.run_sizeOf w,k1];rw[aK (by simp; omega)];simp only[kX,DN,qM,storeCells,hst]
    .cases hs
  .cases hs
 .cases hs
end
section
variable {n:Nat} {out:Nat->Nat} {M M':Mem} {B:aV} {Z:ASt} {a:Act} {w:World} {t:Array Value}
theorem aEB (sz:Nat):∀ (vs:List (Nat×Value)) (k:Nat) (done rest:List Value),(∀ (j:Nat) v,vs[j]? = some v->v.1=k+j/\v.2.cells.size=sz)->done.length=k*sz->rest.length=vs.length*sz ->
 Instr.fill (fun i=>some (i*sz,sz)) (done ++ rest).toArray vs=some (done ++ vs.flatMap fun v=>v.2.cells.toList).toArray
 | [],k,done,rest,_,_,hr=>by have:rest = []:=qK (by simpa using hr);subst this; simp[Instr.fill]
 | v::vs,k,done,rest,h,hd,hr=>by
  obtain ⟨e1,e2⟩:=h 0 v rfl;obtain ⟨i,v⟩:=v;simp only[Ei] at e1 e2;subst e1;have hfold:=a2C (i*sz) v.cells.toList 0 (done ++ rest).toArray (by simp[hd,e2]; rw[hr]; simp[oL]);have ha:(v.cells.zipIdx.foldl (fun cs (c,j)=>cs.setIfInBounds (i*sz+j) c) (done ++ rest).toArray)=((v.cells.toList.zipIdx 0).foldl (fun (cs:Array Value) (cj:Value×Nat)=>cs.setIfInBounds (i*sz+cj.2) cj.1) (done ++ rest).toArray):=by rw[<- Array.foldl_toList,Array.toList_zipIdx]
  have hl:v.cells.toList.length=sz:=by simpa using e2
  simp only[Ei,hl,<- hd] at hfold;rw[List.take_left,<- a06,List.drop_left] at hfold;rw[Instr.fill];simp only;rw[aK (by simp[e2,hd,hr,oL]),ha];have harr:(v.cells.toList.zipIdx 0).foldl (fun (cs:Array Value) (cj:Value×Nat)=>cs.setIfInBounds (i*sz+cj.2) cj.1) (done ++ rest).toArray=((done ++ v.cells.toList) ++ rest.drop sz).toArray:=by rw[<- oK,<- hd,hfold]
  rw[harr,aEB sz vs (i+1) (done ++ v.cells.toList) (rest.drop sz) (fun j x hx=>by obtain ⟨a1,a2⟩:=h (j+1) x (by simpa using hx);exact ⟨by omega,a2⟩) (by simp[hd,hl,oL]) (by simp[hr,oL])];simp
theorem bG5 {p:PV} {b o b' o':Nat} (h:Loc M B p b o) (hle:∀ (b o:Nat) (v:Value),M b o=some v->M' b o=some v) (hc:∀ j,j<p.size->∀ v,M b (o+j)=some v->M' b' (o'+j)=some v):Loc M' B p b' o':=by
 have hm:dJ M M' B B:=⟨hle,fun _ _ h=>h⟩;by_cases ha:p.isAgg=true
 .cases p<;>simp[PV.isAgg] at ha
  rename_i cs;refine zV.2 (H5 fun j q hq => ?_);obtain ⟨u,hu,hr⟩:=ND (zV.1 h) hq;exact ⟨u,hc j (eP.1 hq).1 u hu,hr.mono hm⟩
 .have ha':p.isAgg=false:=by simpa using ha
  have ht:∀ cs,p ≠ .tuple cs:=fun cs e=>by subst e; exact Yz.1 h
  obtain ⟨u,hu,hr⟩:=(yQ ha' ht).1 h;have hsz:p.size=1:=by cases p<;>first | rfl | (simp[PV.isAgg] at ha')
  refine (yQ ha' ht).2 ⟨u,?_,hr.mono hm⟩;have:=hc 0 (by omega) u (by simpa using hu);simpa using this
theorem bG7 {ps:bSH} {sz b o b' o':Nat} (h:jr M B sz ps b o) (hs:∀ p,p∈ps->p.size=sz) (hle:∀ (b o:Nat) (v:Value),M b o=some v->M' b o=some v) (hc:∀ j,j<ps.length*sz->∀ v,M b (o+j)=some v->M' b' (o'+j)=some v):jr M' B sz ps b' o' :=
 Ae fun j p hp=>bG5 (EH h hp) hle fun i hi v hv=>by
  have hj:=(eP.1 hp).1;have hsz:=hs p (jq hp);have:j*sz+i<ps.length*sz:=by have:(j+1)*sz<=ps.length*sz:=vT _ hj;rw[oL] at this; omega
  have:=hc (j*sz+i) this v (by rwa [show o+(j*sz+i)=o+j*sz+i by omega]);rwa [show o'+(j*sz+i)=o'+j*sz+i by omega] at this
theorem bG6 {p:PV} {b o:Nat} (h:Loc M B p b o):∃ vs:List Value,vs.length=p.size/\∀ (j:Nat) v,vs[j]? = some v->M b (o+j)=some v:=by
 by_cases ha:p.isAgg=true
 .cases p<;>simp[PV.isAgg] at ha
  rename_i cs;obtain ⟨vs,h1,h2⟩:=Wh (zV.1 h);exact ⟨vs,(qH h1).symm,h2⟩
 .have ha':p.isAgg=false:=by simpa using ha
  have ht:∀ cs,p ≠ .tuple cs:=fun cs e=>by subst e; exact Yz.1 h
  obtain ⟨u,hu,hr⟩:=(yQ ha' ht).1 h;have hsz:p.size=1:=by cases p<;>first | rfl | (simp[PV.isAgg] at ha')
  refine ⟨[u],by simp[hsz],fun j v hv => ?_⟩;cases j with
  | zero=>simp at hv; subst hv; exact hu
  | succ j=>simp at hv
theorem aM4:∀ {ps:bSH} {sz b o:Nat},jr M B sz ps b o->(∀ p,p∈ps->p.size=sz)->∃ vs:List Value,vs.length=ps.length*sz/\∀ (j:Nat) v,vs[j]? = some v->M b (o+j)=some v
 | [],_,_,_,_,_=>⟨[],by simp,by simp⟩
 | p::ps,sz,b,o,h,hs=>by
  obtain ⟨h1,h2⟩:=KF.1 h;obtain ⟨us,u1,u2⟩:=bG6 h1;obtain ⟨vs,v1,v2⟩:=aM4 h2 fun q hq=>hs q (by simp[hq])
  have hp:=hs p (by simp);refine ⟨us ++ vs,by simp[u1,v1,hp,oL]; omega,fun j v hv => ?_⟩;rcases lq j us.length with hj | hj
  .exact u2 j v (by rwa [lF hj] at hv)
  .have:=v2 (j-us.length) v (by rwa [vO hj] at hv);rwa [show o+sz+(j-us.length)=o+j by omega] at this
theorem aDM {sz:Nat}:∀ {qs:List (Nat×PV)} {k:Nat} {es:bSH},Dn sz k qs=some es->es.length=qs.length/\∀ (j:Nat) q,qs[j]? = some q->q.1=k+j/\q.2.size=sz/\q.2.okE=true/\es[j]? = some q.2.un
 | [],k,es,h=>by simp[Dn] at h; subst h; simp
 | (i,p)::qs,k,es,h=>by
  rw[Dn] at h;split at h
  .rename_i hc;cases he:Dn sz (k+1) qs with
   | none=>simp[he] at h
   | some es' =>
    simp[he] at h; subst h;obtain ⟨h1,h2⟩:=aDM he;refine ⟨by simp[h1],fun j q hq => ?_⟩;cases j with
    | zero=>simp at hq; subst hq; exact ⟨hc.1,hc.2.1,hc.2.2,rfl⟩
    | succ j =>obtain ⟨a1,a2,a3,a4⟩:=h2 j q (by simpa using hq);exact ⟨by omega,a2,a3,by simpa using a4⟩
  .cases h
theorem aW3 {vs:List (Nat×Value)} {sz:Nat} (hs:∀ (j:Nat) v,vs[j]? = some v->v.2.cells.size=sz):∀ {j:Nat} {v:Nat×Value},vs[j]? = some v->∀ i,i<sz->(vs.flatMap fun v=>v.2.cells.toList)[j*sz+i]? = v.2.cells.toList[i]? := by
 induction vs with
 | nil=>intro j v h; simp at h
 | cons u us ih =>
  intro j v h i hi;have hu:u.2.cells.toList.length=sz:=by simpa using hs 0 u rfl
  rw[VM];cases j with
  | zero=>simp at h; subst h; rw[lF (by rw[hu]; omega)]; simp
  | succ j =>rw[vO (by rw[hu,oL]; omega),hu,show (j+1)*sz+i-sz=j*sz+i by rw[oL]; omega];exact ih (fun j v h=>hs (j+1) v (by simpa using h)) (by simpa using h) i hi
theorem aW4 {vs:List (Nat×Value)} {sz:Nat} (hs:∀ (j:Nat) v,vs[j]? = some v->v.2.cells.size=sz):(vs.flatMap fun v=>v.2.cells.toList).length=vs.length*sz:=by
 induction vs with
 | nil=>simp
 | cons u us ih =>
  rw[VM,aP,ih (fun j v h=>hs (j+1) v (by simpa using h))];have hu:u.2.cells.toList.length=sz:=by simpa using hs 0 u rfl
  rw[hu]; simp[oL]; omega
theorem bF' {P:Program} {ty:TypeId} {I:TI} (hI':jh P ty=some I) {len:Nat} {parts:Array (Nat×Value)} (hl:parts.size=len) (hs:∀ (j:Nat) v,parts.toList[j]? = some v->v.1=j/\v.2.cells.size=I.size) (hpos:0<I.size) (hsm:len*I.size<=16777216) (w:World) :
 ∃ e,(Instr.buildSlice ty len parts).run P w = .ok (.slice (some ⟨w.heap.size,0,none⟩) len len) (w.alloc (.cells (parts.toList.flatMap fun v=>v.2.cells.toList).toArray e)):=by
 obtain ⟨e,i,z,d,hu,hT⟩:=zH hI';refine ⟨e,?_⟩;have hsz:=hT.size;by_cases h0:len=0
 .subst h0;have hp:parts = #[]:=by apply Array.eq_empty_of_size_eq_zero hl
  subst hp;simp[Instr.buildSlice,ed hu,hT.run_sizeOf w,Instr.fill,newRow];have:(Array.range 0) = #[]:=by simp
  rw[this,Array.map_empty]
 .refine run_buildSlice w ty e len parts _ i z hu hT.info hT.zero (by rw[<- hsz]; omega) (by rw[<- hsz]; exact Nat.mul_ne_zero h0 (by omega)) ?_;have:=aEB i.size parts.toList 0 [] ((List.range (len*i.size)).map (z.cells[· % z.cells.size]!)) (fun j v hv=>by obtain ⟨a1,a2⟩:=hs j v hv; exact ⟨by omega,by omega⟩) (by simp) (by simp[<- hl]);have e:(Array.range (len*i.size)).map (z.cells[· % z.cells.size]!)=([] ++ (List.range (len*i.size)).map (z.cells[· % z.cells.size]!)).toArray:=by apply oK.1; simp
  rw[e,this]; rfl
theorem aTH {rd:Operand->Option PV} {ρ:Operand->Value} (hrd:∀ x q,rd x=some q->Rep M B q (ρ x)/\q.own=false) {ps:Array (Nat×Operand)} {qs:List (Nat×PV)} (hq:uG rd ps.toList=some qs) {sz:Nat} {es:bSH} (he:Dn sz 0 qs=some es) :
 (∀ (j:Nat) v,(ps.map fun (i,x)=>(i,ρ x)).toList[j]? = some v->v.1=j/\v.2.cells.size=sz/\∃ q:Nat×PV,qs[j]? = some q/\es[j]? = some q.2.un/\q.2.size=sz/\Rep M B q.2 v.2/\q.2.okE=true)/\(ps.map fun (i,x)=>(i,ρ x)).size=es.length:=by
 obtain ⟨p1,p2⟩:=a7G hrd hq;obtain ⟨e1,e2⟩:=aDM he;have hps:(ps.map fun (i,x)=>(i,ρ x)).toList=ps.toList.map fun ix=>(ix.1,ρ ix.2):=by simp
 refine ⟨fun j v hv => ?_,by rw[e1,p1]; simp⟩;rw[hps] at hv;have hj:=(eP.1 hv).1;have hq':qs[j]? = some (qs[j]'(by rw[p1]; exact hj)):=iM _;obtain ⟨a1,a2⟩:=p2 j _ v hq' hv;obtain ⟨b1,b2,b3,b4⟩:=e2 j _ hq';refine ⟨by omega,?_,_,hq',b4,b2,a2,b3⟩;generalize qs[j]'(by rw[p1]; exact hj)=q at *;cases hq2:q.2 with
 | agg cs =>rw[hq2] at a2 b2;obtain ⟨vs,hv2,hr⟩:=qG.1 a2;have:=qH hr;rw[hv2];simp[PV.size] at b2;simp at this;show vs.size=sz;omega
 | tuple cs=>rw[hq2] at b3; simp[PV.okE,PV.one] at b3
 | _ =>rw[(EL (p:=q.2) (by rw[hq2]; rfl) a2).1,<- b2,hq2]; rfl
theorem bKL {p:PV} {v:Value} (h:Rep M B p v) (hg:p.okE=true):∀ u,u∈v.cells.toList->u.oneCell'=true:=by
 have key:p.one=true->∀ u,u∈v.cells.toList->u.oneCell'=true:=fun ho u hu=>by
  rw[(EL ho h).1] at hu;have:u=v:=by simpa using hu
  subst this; exact (EL ho h).2
 cases p with
 | agg cs =>obtain ⟨vs,rfl,hr⟩:=qG.1 h;simp only[PV.okE,au] at hg;exact aOO hr (iC.1 hg.1)
 | tuple cs=>simp[PV.okE,PV.one] at hg
 | _=>exact key rfl
end
section
variable {n:Nat} {out:Nat->Nat} {M:Mem} {B:aV} {Z:ASt} {a:Act} {w:World} {E:AE}
theorem Ox {p:PV} {b0 off m c:Nat} {b:Nat}:bI p (.slice (some ⟨b0,off,none⟩) m c) b<=if b0=b then 1 else 0:=by
 unfold bI; split
 .simp
 .omega
theorem Pre.newRow (hI:Inv n M B out Z a.tmps w) {vs:Array Value} {ty:TypeId} {sz k:Nat} {es:bSH} {cap:Nat} (hpos:0<sz) (h1:∀ v,v∈vs->v.oneCell'=true) (hk:k=es.length*sz) (hcap:es.length<=cap) (hcap2:cap*sz<=vs.size)
 (hs:∀ e,e∈es->e.size=sz) (hl:jr (laid M w.heap.size (vs.toList.take k)) [] sz es w.heap.size 0) :
 Pre n out M B Z a.tmps w (laid M w.heap.size (vs.toList.take k)) B Z (w.alloc (.cells vs ty)) (.sl true sz es) (.slice (some ⟨w.heap.size,0,none⟩) es.length cap):=by
 obtain ⟨hG,hfp⟩:=hI.lay vs ty k h1;have h0:=fun b (hb:w.heap.size<=b)=>hI.new b hb
 refine ⟨hG.inv,hG.le,hG.fr,fun b hb => ?_,jW.2 ⟨_,cap,rfl,hcap,hs,fun h=>absurd h (by omega),fun _=>⟨_,_,rfl,hl⟩⟩,?_,fun b => ?_,fun b hb => ?_⟩
 .rw[hfp];have:=Ox (p := .sl true sz es) (b0:=w.heap.size) (off:=0) (m:=es.length) (c:=cap) (b:=b);rw[aK (by omega)] at this; omega
 .refine PW (fun l h=>by cases h) ?_;intro sz' es' x n' cap' e ev;cases e; cases ev;refine ⟨by simp,fun h=>absurd h (by omega),fun x hx => ?_⟩;cases hx;refine ⟨vs,ty,QM w _,by simpa using hcap2,fun o ho => ?_,rfl,rfl⟩;simp only at ho;rw[yO (yP hI),aJ rfl,ww];rw[nY]; omega
 .rw[hfp];have:=Ox (p := .sl true sz es) (b0:=w.heap.size) (off:=0) (m:=es.length) (c:=cap) (b:=b);have:=hI.cnt b;by_cases e:w.heap.size=b
  .subst e; have:=h0 _ (bW _); rw[aJ rfl] at *; omega
  .rw[aK e] at *; omega
 .have:=Ox (p := .sl true sz es) (b0:=w.heap.size) (off:=0) (m:=es.length) (c:=cap) (b:=b);simp at hb;rw[aK (by omega)] at this; omega
theorem aL' {M:Mem} {B:aV} {p:PV} {u:Value} (h:p.lit=true) (hr:Rep M B p u):Rep KP [] p u:=by
 cases p with
 | int k n=>exact dS.2 (dS.1 hr)
 | bool b=>exact jo.2 (jo.1 hr)
 | str s=>exact iT.2 (iT.1 hr)
 | _=>simp[PV.lit] at h
theorem aLZ {M:Mem} {B:aV} {p:PV} {u:Value} (h:p.lit=true) (hr:Rep KP [] p u):Rep M B p u:=by
 cases p with
 | int k n=>exact dS.2 (dS.1 hr)
 | bool b=>exact jo.2 (jo.1 hr)
 | str s=>exact iT.2 (iT.1 hr)
 | _=>simp[PV.lit] at h
theorem a6A {M:Mem} {sz b:Nat}:∀ {es:bSH} {o:Nat},jr M [] sz es b o->(∀ e,e∈es->e.size=sz)->∀ {j:Nat} {p:PV},(dW es)[j]? = some p->∃ u,M b (o+j)=some u/\Rep M [] p u
 | [],_,_,_,j,p,h=>by simp[dW] at h
 | e::es,o,hl,hs,j,p,h=>by
  obtain ⟨h1,h2⟩:=KF.1 hl;have ih:=fun {j:Nat} {p:PV}=>a6A (es:=es) (o:=o+sz) h2 (fun e he=>hs e (by simp[he])) (j:=j) (p:=p)
  have hz:=hs e (by simp);cases e with
  | agg ds =>
   rw[dW] at h;simp only[PV.size] at hz;rcases lq j ds.length with hj | hj
   .rw[lF (by simpa using hj),iU] at h;cases hd:ds[j]? with
    | none=>simp[hd] at h
    | some q =>simp[hd] at h; subst h;obtain ⟨u,hu,hr⟩:=ND (zV.1 h1) hd;exact ⟨u,hu,nU.2 hr⟩
   .rw[vO (by simpa using hj)] at h;obtain ⟨u,hu,hr⟩:=ih h;exact ⟨u,by rw[<- hu]; congr 1; simp; omega,hr⟩
  | tuple ds=>exact (Yz.1 h1).elim
  | _ =>
   rw[dW] at h
   .simp only[PV.size] at hz;subst hz;cases j with
    | zero =>simp at h; subst h;obtain ⟨u,hu,hr⟩:=(Bq rfl).1 h1;exact ⟨u,hu,nU.2 hr⟩
    | succ j =>simp at h;obtain ⟨u,hu,hr⟩:=ih h;exact ⟨u,by rw[<- hu]; congr 1; omega,hr⟩
   .simp
theorem XH {sz:Nat}:∀ {es:bSH},(∀ e,e∈es->e.size=sz)->(dW es).length=es.length*sz
 | [],_=>by simp[dW]
 | e::es,hs=>by
  have ih:=XH (es:=es) fun e he=>hs e (by simp[he])
  have hz:=hs e (by simp);rw[aY,Ej];cases e with
  | agg ds=>simp only[PV.size] at hz; rw[dW,aP,bM,ih,hz,VR]
  | _=>simp only[PV.size] at hz; rw[dW,aY,ih,hz]; simp
theorem Pre.aN0 (hI:Inv n M B out Z a.tmps w) {vs:Array Value} {ty:TypeId} {sz k:Nat} {cs:bSH} {cap:Nat} (hpos:0<sz) (h1:∀ v,v∈vs->v.oneCell'=true) (hk:cs.length=k*sz) (hcap:k<=cap) (hcap2:cap*sz<=vs.size)
 (hc:∀ (j:Nat) p,cs[j]? = some p->p.lit=true/\∃ u,vs[j]? = some u/\Rep KP [] p u/\u.oneCell'=true) :
 Pre n out M B Z a.tmps w (laid M w.heap.size (vs.toList.take 0)) B Z (w.alloc (.cells vs ty)) (.fJ true k sz cs) (.slice (some ⟨w.heap.size,0,none⟩) k cap):=by
 obtain ⟨hG,hfp⟩:=hI.lay vs ty 0 h1;have h0:=fun b (hb:w.heap.size<=b)=>hI.new b hb
 refine ⟨hG.inv,hG.le,hG.fr,fun b hb => ?_,EO.2 ⟨_,cap,rfl,hcap⟩,?_,fun b => ?_,fun b hb => ?_⟩
 .rw[hfp];have:=Ox (p := .fJ true k sz cs) (b0:=w.heap.size) (off:=0) (m:=k) (c:=cap) (b:=b);rw[aK (by omega)] at this; omega
 .refine aA3 ?_;intro k' sz' cs' x m' cap' e ev;cases e; cases ev;refine ⟨⟨hk,hpos⟩,by simp,fun x hx => ?_⟩;cases hx;refine ⟨vs,ty,QM w _,hcap2,hc,fun o => ?_,rfl,rfl⟩;rw[yO (yP hI),aJ rfl]; simp
 .rw[hfp];have:=Ox (p := .fJ true k sz cs) (b0:=w.heap.size) (off:=0) (m:=k) (c:=cap) (b:=b);have:=hI.cnt b;by_cases e:w.heap.size=b
  .subst e; have:=h0 _ (bW _); rw[aJ rfl] at *; omega
  .rw[aK e] at *; omega
 .have:=Ox (p := .fJ true k sz cs) (b0:=w.heap.size) (off:=0) (m:=k) (c:=cap) (b:=b);simp at hb;rw[aK (by omega)] at this; omega
theorem flat_get:∀ {es:bSH} {p:PV},p∈dW es->p.own=false
 | [],p,h=>by simp[dW] at h
 | e::es,p,h=>by
  cases e with
  | agg ds =>
   rw[dW] at h;rcases yA.1 h with h | h
   .obtain ⟨x,_,rfl⟩:=qL.1 h; exact qI x
   .exact flat_get h
  | _ =>
   rw[dW] at h
   .rcases iQ.1 h with rfl | h
    .exact qI _
    .exact flat_get h
   .simp
theorem a2B:∀ {es:bSH} {vs:List (Nat×Value)},es.length=vs.length->(∀ (j:Nat) e v,es[j]? = some e->vs[j]? = some v->Rep M B e v.2/\e.okE=true)->bC M B (dW es) (vs.flatMap fun v=>v.2.cells.toList)
 | [],[],_,_=>eu.2 rfl
 | [],_::_,h,_=>by simp at h
 | _::_,[],h,_=>by simp at h
 | e::es,v::vs,hl,h=>by
  obtain ⟨h1,h2⟩:=h 0 e v rfl rfl;have ih:=a2B (es:=es) (vs:=vs) (by simpa using hl) fun j e v a b=>h (j+1) e v (by simpa using a) (by simpa using b)
  rw[VM];cases e with
  | agg ds =>obtain ⟨us,e1,hr⟩:=qG.1 h1;rw[dW,e1];exact zl (Ia hr) ih
  | tuple ds=>simp[PV.okE,PV.one] at h2
  | _ =>
   rw[dW]
   .rw[(EL rfl h1).1];exact dD.2 ⟨_,_,rfl,nU.2 h1,ih⟩
   .simp
theorem bO4 (p:PV):p.un.okE=p.okE:=by cases p<;>rfl
theorem bG0 (hI:Inv n M B out Z a.tmps w) {zs:List Nat} {P:Program} {ty:TypeId} {I:TI} (hT:jh P ty=some I) {ps:Array (Nat×Operand)} {qs:List (Nat×PV)} (hq:uG (Z.rdT zs) ps.toList=some qs) {es:bSH} (he:Dn I.size 0 qs=some es) {len:Nat} (hlen:es.length=len) (hpos:0<I.size) (hsm:len*I.size<=16777216) :
 (∃ v w' M' B',(Instr.buildSlice ty len (ps.map fun (i,x)=>(i,a.eval x))).run P w = .ok v w'/\Pre n out M B Z a.tmps w M' B' Z w' (.sl true I.size es) v) /\
 (∃ v w' M' B',(Instr.buildSlice ty len (ps.map fun (i,x)=>(i,a.eval x))).run P w = .ok v w'/\Pre n out M B Z a.tmps w M' B' { Z with h:=Z.h ++ [some (dW es)] } w' (.slh Z.h.length 0 len I.size) v) /\
 ((dW es).all PV.lit=true->∃ v w' M' B',(Instr.buildSlice ty len (ps.map fun (i,x)=>(i,a.eval x))).run P w = .ok v w'/\Pre n out M B Z a.tmps w M' B' Z w' (.fJ true len I.size (dW es)) v):=by
 subst hlen;obtain ⟨hp,hsz⟩:=aTH (M:=M) (B:=B) (hI.rdT zs) hq he;obtain ⟨e,hrun⟩:=bF' hT hsz (fun j v hv=>by obtain ⟨h1,h2,_⟩:=hp j v hv; exact ⟨h1,h2⟩) hpos hsm w;generalize hps:(ps.map fun (i,x)=>(i,a.eval x))=parts at *;have hfl:=aW4 (vs:=parts.toList) (sz:=I.size) fun j v hv=>(hp j v hv).2.1
 have hpl:parts.toList.length=es.length:=by simpa using hsz
 rw[hpl] at hfl;have hes:∀ (j:Nat) e v,es[j]? = some e->parts.toList[j]? = some v->Rep M B e v.2/\e.okE=true/\e.size=I.size:=fun j e v h1 h2=>by obtain ⟨_,_,q,_,h3,h4,h5,h6⟩:=hp j v h2;rw[h1] at h3; cases h3;exact ⟨nU.2 h5,by rw[bO4]; exact h6,by rw[aAX]; exact h4⟩
 have hone:∀ v,v∈(parts.toList.flatMap fun v=>v.2.cells.toList)->v.oneCell'=true:=by intro u hu;obtain ⟨v,hv,hu⟩:=List.mem_flatMap.1 hu;obtain ⟨j,hj⟩:=DI.1 hv;obtain ⟨_,_,q,_,_,_,h5,h6⟩:=hp j v hj;exact bKL h5 h6 u hu
 refine ⟨?_,?_,?_⟩
 .refine ⟨_,_,_,_,hrun,Pre.newRow hI (k:=es.length*I.size) hpos (by simpa using hone) rfl (bW _) (by simp[hfl]) (fun e he => ?_) (Ae fun j p hj => ?_)⟩
  .obtain ⟨j,hj⟩:=DI.1 he;have hlt:=(eP.1 hj).1;exact (hes j e _ hj (iM (by omega))).2.2
  .have hlt:=(eP.1 hj).1;have hv:parts.toList[j]? = some (parts.toList[j]'(by omega)):=iM (by omega);generalize parts.toList[j]'(by omega)=v at hv;obtain ⟨r1,r2,r3⟩:=hes j p v hj hv;have r1:=r1.flat [] (bHL r2);have hm:=(Tj hI ((parts.toList.flatMap fun v=>v.2.cells.toList).toArray.toList.take (es.length*I.size))).none;have hcell:∀ i,i<I.size->∀ u,v.2.cells.toList[i]? = some u->laid M w.heap.size ((parts.toList.flatMap fun v=>v.2.cells.toList).toArray.toList.take (es.length*I.size)) w.heap.size (0+j*I.size+i)=some u:=fun i hi u hu=>by rw[yO (yP hI),aJ rfl,iO,aJ (by have:(j+1)*I.size<=es.length*I.size:=vT _ hlt;rw[oL] at this; omega)];show (parts.toList.flatMap fun v=>v.2.cells.toList)[0+j*I.size+i]? = some u;rw[kW,aW3 (fun j v hv=>(hp j v hv).2.1) hv i hi]; exact hu
   cases p with
   | agg ds =>obtain ⟨us,e1,hr⟩:=qG.1 r1;refine zV.2 (H5 fun i q hq => ?_);obtain ⟨u,hu,TK⟩:=wS hr hq;have hi:=(eP.1 hq).1;simp[PV.size] at r3;exact ⟨u,hcell i (by omega) u (by rw[e1]; exact hu),TK.mono hm⟩
   | tuple ds=>simp[PV.okE,PV.one] at r2
   | _ =>refine (Bq rfl).2 ⟨v.2,?_,r1.mono hm⟩;have:=hcell 0 (by simp[PV.size] at r3; omega) v.2 (by rw[(EL rfl r1).1]; rfl);simpa using this
 .have hfr:bC M B (dW es) (parts.toList.flatMap fun v=>v.2.cells.toList):=a2B hpl.symm fun j e v h1 h2=>⟨(hes j e v h1 h2).1,(hes j e v h1 h2).2.1⟩
  have hG:=hI.newObj (parts.toList.flatMap fun v=>v.2.cells.toList).toArray e (dW es) (by have:=qH hfr; simpa using Nat.le_of_eq this) (fun j p hj=>by obtain ⟨u,hu,hr⟩:=wS hfr hj;have ho:=flat_get (jq hj);exact ⟨u,by simpa using hu,hr,fG ho,hone u (jq hu),fun b=>dO ho _ _⟩);refine ⟨_,_,_,_,hrun,Pre.Ak hG (tH.2 ⟨(w.heap.size,(parts.toList.flatMap fun v=>v.2.cells.toList).toArray.size,e+1),es.length,⟨by rw[hI.heap.1]; simp,by simp⟩,rfl,bW _,by simp[hfl]⟩) rfl⟩
 .intro TJ;have hfr:bC M B (dW es) (parts.toList.flatMap fun v=>v.2.cells.toList):=a2B hpl.symm fun j e v h1 h2=>⟨(hes j e v h1 h2).1,(hes j e v h1 h2).2.1⟩
  refine ⟨_,_,_,_,hrun,Pre.aN0 hI (k:=es.length) hpos (by simpa using hone) (by have:=qH hfr; omega) (bW _) (by simp[hfl]) fun j p hj => ?_⟩;obtain ⟨u,hu,hr⟩:=wS hfr hj;have hp:=iC.1 TJ p (jq hj);exact ⟨hp,u,by simpa using hu,aL' hp hr,hone u (jq hu)⟩
end
section
variable {n:Nat} {out:Nat->Nat} {M:Mem} {B:aV} {Z:ASt} {a:Act} {w:World}
theorem aCK {P:Program} {t ty e:TypeId} {i:TypeInfo} {z:Value} (ht:P.underlying t=some (.slice e)) (hi:P.info? e=some i) (hz:i.zero=some z) {base A':Option Addr} {sLen sCap m c:Nat} {olds news:List Value}
 (hfo:(Builtin.firstCells i.size sLen (.slice base sLen sCap)).run P w.drew = .ok olds.toArray w.drew) (hfn:(Builtin.firstCells i.size m (.slice A' m c)).run P w.drew = .ok news.toArray w.drew)
 (hg:sCap<sLen+m) (h63:sLen+m<=aQ) (hb:i.bytes<=1024) :
 (Builtin.append_ #[t,t] ty #[.slice base sLen sCap,.slice A' m c]).run P w =
  .ok (.slice (some ⟨w.heap.size,0,none⟩) (sLen+m) (grownCap w (sLen+m) sCap e)) (w.drew.alloc (.cells (olds.toArray ++ news.toArray ++ Builtin.zeroCells z.cells (grownCap w (sLen+m) sCap e-(sLen+m))) e)):=by
 unfold aQ at h63;have hn:¬ (sLen+m<=sCap):=by omega
 have h63':¬ (9223372036854775807<((sLen:Int)+(m:Int))):=by omega
 have hb2:(sLen+m)*i.bytes<=140737488355328:=oM (Nat.mul_le_mul h63 hb) (by decide);have h48':¬ (281474976710656<Builtin.nextslicecap (sLen+m) sCap*i.bytes):=by have:=growslice_fits hg hb2; omega
 simp[Builtin.append_,ed ht,sizeOf,typeInfo,zeroValue,hi,hz,Builtin.lenOf,hn,h63',h48',Question.forced,hfo,hfn,newRow,grownCap];congr 2
 apply Q3;simp[jc]
theorem aCM {P:Program} {t ty e:TypeId} {i:TypeInfo} (ht:P.underlying t=some (.slice e)) (hi:P.info? e=some i) {g off:Nat} {A':Option Addr} {sLen sCap m c:Nat} {news:List Value}
 (hfn:(Builtin.firstCells i.size m (.slice A' m c)).run P w = .ok news.toArray w) {cur:Array Value} {ty':TypeId} (hh:w.heap[g]? = some (.cells cur ty' (0,0))) (hroom:sLen+m<=sCap) (h1:∀ u,u∈news->u.oneCell'=true) (hfit:off+sLen*i.size+news.length<=cur.size) :
 (Builtin.append_ #[t,t] ty #[.slice (some ⟨g,off,none⟩) sLen sCap,.slice A' m c]).run P w =
  .ok (.slice (some ⟨g,off,none⟩) (sLen+m) sCap) (w.setRow g (cur.toList.take (off+sLen*i.size) ++ news ++ cur.toList.drop (off+sLen*i.size+news.length)).toArray):=by
 have hst:=run_storeCells_at P g (off+sLen*i.size) ty' news 0 cur w hh (by simpa using hfit) h1;simp only[Ei] at hst;simp[Builtin.append_,ed ht,sizeOf,typeInfo,hi,Builtin.lenOf,hroom,hfn,add_lit,hst]
theorem aCL {P:Program} {t ty e:TypeId} {i:TypeInfo} (ht:P.underlying t=some (.slice e)) (hi:P.info? e=some i) {A':Option Addr} {c:Nat} {news:List Value}
 (hfn:(Builtin.firstCells i.size 0 (.slice A' 0 c)).run P w = .ok news.toArray w) :
 (Builtin.append_ #[t,t] ty #[.slice none 0 0,.slice A' 0 c]).run P w = .ok (.slice none 0 0) w:=by
 simp[Builtin.append_,ed ht,sizeOf,typeInfo,hi,Builtin.lenOf,hfn]
theorem XK {t:Array Value} {b:Nat}:fp B Z t w.drew b=fp B Z t w b:=by simp only[fp]; rw[FW (w':=w.drew) (w:=w) b (fun _ _ _ _ _=>rfl)]
theorem a1X {P:Program} {sz:Nat} {es:bSH} {A:Option Addr} {cap:Nat} (hs:∀ e,e∈es->e.size=sz) (hle:es.length<=cap) (hA:es ≠ []->∃ b off,A=some ⟨b,off,none⟩/\jr M [] sz es b off) (hmem:∀ (b o:Nat) (v:Value),M b o=some v->w.cell? ⟨b,o,none⟩=some v/\v.oneCell'=true) :
 ∃ vs:List Value,vs.length=es.length*sz/\(∀ w',(∀ (b o:Nat) (v:Value),M b o=some v->w'.cell? ⟨b,o,none⟩=some v)->(Builtin.firstCells sz es.length (.slice A es.length cap)).run P w' = .ok vs.toArray w')/\(∀ u,u∈vs->u.oneCell'=true) /\
  ∀ (M':Mem) (b' o':Nat),(∀ (b o:Nat) (v:Value),M b o=some v->M' b o=some v)->(∀ (j:Nat) v,vs[j]? = some v->M' b' (o'+j)=some v)->jr M' [] sz es b' o':=by
 cases A with
 | none =>
  have:es = []:=by
   rcases es with _ | ⟨e,es⟩
   .rfl
   .obtain ⟨_,_,h,_⟩:=hA (by simp); cases h
  subst this;exact ⟨[],by simp,fun w' _=>by simp[Builtin.firstCells],by simp,fun _ _ _ _ _=>KG⟩
 | some x =>
  by_cases hcc:es = []
  .subst hcc;exact ⟨[],by simp,fun w' _=>VU (P:=P) w' sz 0 x 0 cap [] (by simp) (fun j v hv=>by simp at hv),by simp,fun _ _ _ _ _=>KG⟩
  obtain ⟨b,off,hx,hl⟩:=hA hcc;cases hx;obtain ⟨vs,h1,h2⟩:=aM4 hl hs;refine ⟨vs,h1,fun w' hw=>VU (P:=P) w' sz es.length ⟨b,off,none⟩ es.length cap vs h1 (fun j v hv=>by rw[add_lit]; exact hw _ _ _ (h2 j v hv)),fun u hu => ?_,fun M' b' o' hM hc=>bG7 hl hs hM fun j hj v hv => ?_⟩
  .obtain ⟨j,hj⟩:=DI.1 hu;exact (hmem _ _ _ (h2 j u hj)).2
  .have hj':vs[j]? = some (vs[j]'(by omega)):=iM (by omega);have:=h2 j _ hj';rw[hv] at this; injection this with this
   exact hc j v (by rw[hj',this])
theorem Ua {M:Mem} {B:aV} {o o':Bool} {sz:Nat} {es:bSH} {v:Value}:Rep M B (.sl o sz es) v↔Rep M B (.sl o' sz es) v:=by rw[jW,jW]
theorem aPX {ow:Bool} {sz:Nat} {es:bSH} {v:Value} (how:ow=true\/sz=0) (hr:Rep M B (.sl ow sz es) v) (hTl:Tl M w (.sl ow sz es) v):∀ A cap,v = .slice A es.length cap->(A=none->cap=0)/\(sz=0->A=none)/\∀ a,A=some a->(PV.sl ow sz es).own=true/\∃ cs ty,w.heap[a.block]? = some (.cells cs ty (0,0))/\a.off+cap*sz<=cs.size/\(∀ o,a.off+es.length*sz<=o->M a.block o=none)/\a.spot=none/\a.off=0:=fun A cap e1=>by
 obtain ⟨A',cap',e2,_,_,hzz,_⟩:=jW.1 hr;rw[e1] at e2; injection e2 with e3 _ e4; subst e3; subst e4
 by_cases h0:sz=0
 .obtain ⟨_,h6,h7⟩:=hzz h0;exact ⟨fun _=>h7,fun _=>h6,fun a ha=>by rw[h6] at ha; cases ha⟩
 .have:=how.resolve_right h0;subst this;obtain ⟨h1,h2,h3⟩:=hTl.s sz es _ _ _ rfl e1;exact ⟨h1,h2,fun a ha=>⟨rfl,h3 a ha⟩⟩
def Vg (w w':World) (e:TypeId) (size:Nat) (v0 v:Value):Prop:=∀ A n cap,v = .slice (some A) n cap->∃ cs ty,w'.heap[A.block]? = some (.cells cs ty (0,0))/\((ty=e/\cs.size=cap*size/\cap<=maxLen)\/∃ A0 n0 cs0,v0 = .slice (some A0) n0 cap/\w.heap[A0.block]? = some (.cells cs0 ty (0,0))/\cs.size=cs0.size)
theorem aCN (hI:Inv n M B out Z a.tmps w) {P:Program} {t u ty e:TypeId} {I:TI} {i:TypeInfo} {z:Value} {d:TypeDesc} (iY:qy P e I i z d) {s:Operand} {X:Value} {sz:Nat} {es es':bSH} {p0:PV} (hs:Z.ev s=some p0) (hr:Rep M B (.sl true sz es) (a.eval s))
 (hrow:∀ A cap,a.eval s = .slice A es.length cap->(A=none->cap=0)/\(sz=0->A=none)/\∀ a,A=some a->p0.own=true/\∃ cs ty,w.heap[a.block]? = some (.cells cs ty (0,0))/\a.off+cap*sz<=cs.size/\(∀ o,a.off+es.length*sz<=o->M a.block o=none)/\a.spot=none/\a.off=0)
 (hpos:0<I.size) (hby:I.bytes<=1024) (hsz0:sz=I.size\/sz=0) (hs2:∀ p,p∈es'->p.size=I.size) (hlim:es.length+es'.length<=aQ)
 {news:List Value} (n1:news.length=es'.length*I.size) (n3:∀ u,u∈news->u.oneCell'=true)
 (n4:∀ (M':Mem) (b' o':Nat),(∀ (b o:Nat) (v:Value),M b o=some v->M' b o=some v)->(∀ (j:Nat) v,news[j]? = some v->M' b' (o'+j)=some v)->jr M' [] I.size es' b' o')
 (bL0:es' = []->(Builtin.append_ #[t,u] ty #[.slice none 0 0,X]).run P w = .ok (.slice none 0 0) w)
 (bL5:∀ {g off sLen sCap:Nat} {cur:Array Value} {ty':TypeId},w.heap[g]? = some (.cells cur ty' (0,0))->sLen+es'.length<=sCap->off+sLen*i.size+news.length<=cur.size ->
  (Builtin.append_ #[t,u] ty #[.slice (some ⟨g,off,none⟩) sLen sCap,X]).run P w = .ok (.slice (some ⟨g,off,none⟩) (sLen+es'.length) sCap) (w.setRow g (cur.toList.take (off+sLen*i.size) ++ news ++ cur.toList.drop (off+sLen*i.size+news.length)).toArray))
 (bKZ:∀ {base:Option Addr} {sLen sCap:Nat} {olds:List Value},(Builtin.firstCells i.size sLen (.slice base sLen sCap)).run P w.drew = .ok olds.toArray w.drew->sCap<sLen+es'.length->sLen+es'.length<=aQ ->
  (Builtin.append_ #[t,u] ty #[.slice base sLen sCap,X]).run P w = .ok (.slice (some ⟨w.heap.size,0,none⟩) (sLen+es'.length) (grownCap w (sLen+es'.length) sCap e)) (w.drew.alloc (.cells (olds.toArray ++ news.toArray ++ Builtin.zeroCells z.cells (grownCap w (sLen+es'.length) sCap e-(sLen+es'.length))) e))) :
 ∃ v w' M' B',(Builtin.append_ #[t,u] ty #[a.eval s,X]).run P w = .ok v w'/\Pre n out M B Z a.tmps w M' B' (Z.clr s) w' (.sl true I.size (es ++ es')) v/\Vg w w' e i.size (a.eval s) v:=by
 have hsi:=iY.size;have hbi:=iY.bytes;obtain ⟨c1,c2,c3⟩:=hI.Wj hs;obtain ⟨A,cap,e1,hle,hss,hzz,hA⟩:=jW.1 hr;obtain ⟨hn,hz,hTl⟩:=hrow A cap e1;have hsz:sz=I.size\/es = []:=hsz0.imp id fun h=>(hzz h).1
 have hs1:∀ p,p∈es->p.size=I.size:=fun p hp=>by
  rcases hsz with h | h
  .rw[<- h]; exact hss p hp
  .rw[h] at hp; simp at hp
 have hA1:es ≠ []->∃ b off,A=some ⟨b,off,none⟩/\jr M [] I.size es b off:=fun hc=>by
  obtain ⟨b,off,h1,h2⟩:=hA hc;refine ⟨b,off,h1,?_⟩;rcases hsz with h | h
  .rw[<- h]; exact h2
  .rw[h]; exact KG
 obtain ⟨olds,o1,o2,o3,o4⟩:=a1X (P:=P) hs1 hle hA1 hI.mem;have aJM:∀ p,p∈es ++ es'->p.size=I.size:=fun p hp=>by
  rcases yA.1 hp with h | h
  .exact hs1 p h
  .exact hs2 p h
 rw[e1];by_cases hroom:es.length+es'.length<=cap
 .cases A with
  | none =>
   have hc0:=hn rfl;have h1:es = []:=qK (by omega);have h2:es' = []:=qK (by omega);subst h1; subst h2; subst hc0;refine ⟨.slice none 0 0,w,M,B,bL0 rfl,⟨c1,dJ.refl _ _,Fr.refl _ _ _,fun b _ => ?_,jW.2 ⟨none,0,rfl,bW _,by simp,fun _=>⟨rfl,rfl,rfl⟩,by simp⟩,PW (fun l h=>by cases h) fun _ _ _ _ _ _ e=>by cases e; exact ⟨fun _=>rfl,fun _=>rfl,fun _ h=>by cases h⟩,fun b => ?_,fun b _=>by simp[bI]⟩,fun A n cap e=>by cases e⟩
   .have:=c2 b; simp[bI] at *; omega
   .have:=c2 b; have:=hI.cnt b; simp[bI] at *; omega
  | some ad =>
   obtain ⟨g,off,rfl,hloc⟩:∃ b off,ad=⟨b,off,none⟩/\jr M [] I.size es b off:=by
    by_cases hc:es = []
    .obtain ⟨_,_,_,_,_,_,hsp⟩:=hTl ad rfl;have hsp:=hsp.1;exact ⟨ad.block,ad.off,by cases ad; simp at hsp; subst hsp; rfl,by rw[hc]; exact KG⟩
    .obtain ⟨b,off,h1,h2⟩:=hA1 hc;cases h1;exact ⟨b,off,rfl,h2⟩
   obtain ⟨hpo,cur,ty',t1,t2,t3,_,aJK⟩:=hTl _ rfl;simp only at t1 t2 t3 aJK;have hown:∀ b,bI p0 (a.eval s) b=if g=b then 1 else 0:=fun b=>by rw[e1]; simp[bI,hpo]
   have hg1:fp B Z a.tmps w g=1/\out g=0/\fp B (Z.clr s) a.tmps w g=0:=by have:=hI.cnt g; have:=c2 g; rw[hown,aJ rfl] at this; omega
   have hfree:∀ o,off+es.length*I.size<=o->M g o=none:=fun o ho=>t3 o (by
    rcases hsz with h | h
    .rw[h]; exact ho
    .rw[h] at ho ⊢; simpa using ho)
   have hszI:sz=I.size:=hsz0.resolve_right fun h=>by have:=hz h; cases this
   rw[hszI] at t2;have hfit:off+es.length*I.size+news.length<=cur.size:=by rw[n1];have:(es.length+es'.length)*I.size<=cap*I.size:=vT _ hroom;rw[oL] at this; omega
   have hrun:=bL5 (g:=g) (off:=off) (sLen:=es.length) (sCap:=cap) t1 hroom (by rw[<- hsi]; exact hfit);rw[<- hsi] at hrun;generalize hk:off+es.length*I.size=k at *;have hlt:g<w.heap.size:=(wu.1 t1).1;generalize Jm:(cur.toList.take k ++ news ++ cur.toList.drop (k+news.length)).toArray=cur' at *;have hsz2:cur'.size=cur.size:=by rw[<- Jm]; simp; omega
   have hnew:∀ j,j<news.length->cur'[k+j]? = news[j]? := fun j hj=>by
    rw[<- Jm];rw[a09];have hl:(cur.toList.take k).length=k:=by simp; omega
    rw[jc,vO (by omega),hl,QF,lF hj]
   have hold:∀ o,o<k->cur'[o]? = cur[o]? := fun o ho=>by
    rw[<- Jm];rw[a09];have hl:(cur.toList.take k).length=k:=by simp; omega
    rw[jc,lF (by omega),iO,aJ ho]; simp
   have hM:∀ (b o:Nat) (v:Value),M b o=some v->(if b=g/\k<=o/\o<k+news.length then news[o-k]? else M b o)=some v:=fun b o v h=>by
    by_cases hc:b=g/\k<=o/\o<k+news.length
    .obtain ⟨rfl,h1,_⟩:=hc;rw[hfree o h1] at h; cases h
    .rw[aK hc]; exact h
   have hheap:(w.setRow g cur').heap[g]? = some (.cells cur' ty' (0,0)):=setRow_heap w g cur _ ty' (0,0) t1;have hoth:∀ b,b≠g->(w.setRow g cur').heap[b]? = w.heap[b]? := fun b hb=>setRow_other w g b _ hb
   obtain ⟨M2,hM2⟩:∃ M2:Mem,∀ b o,M2 b o=if b=g/\k<=o/\o<k+news.length then news[o-k]? else M b o:=⟨CG _ _,EJ fun b o v h=>hM b o v (M.g _ _ _ h)⟩
   have hle2:dJ M M2 B B:=⟨fun b o v h=>by rw[hM2]; exact hM b o v h,fun _ _ h=>h⟩;obtain ⟨f1,f2⟩:=c1.ext (w':=w.setRow g cur') hle2 (fun b o v h=>by
    by_cases hb:b=g
    .subst hb;have hcell:(w.setRow b cur').cell? ⟨b,o,none⟩=cur'[o]? := by simp[World.cell?,hheap]
     rw[hcell];by_cases hc:k<=o/\o<k+news.length
     .rw[hM2,aJ ⟨rfl,hc⟩] at h;have:=hnew (o-k) (by omega);rw[show k+(o-k)=o by omega] at this;exact ⟨by rw[this,h],n3 v (jq h)⟩
     .rw[hM2,aK (fun x=>hc x.2)] at h;have hm:=hI.mem b o v h;have:o<k:=by
       rcases lq o k with h' | h'
       .exact h'
       .rw[hfree o h'] at h; cases h
      have h3:w.cell? ⟨b,o,none⟩=cur[o]? := by simp[World.cell?,t1]
      exact ⟨by rw[hold o this,<- h3]; exact hm.1,hm.2⟩
    .rw[hM2,aK (fun x=>hb x.1)] at h;have hm:=hI.mem b o v h;exact ⟨(Lt (w:=w) (a:=⟨b,o,none⟩) (hoth b hb)).trans hm.1,hm.2⟩) (fun b hb=>by
    have hbg:b≠g:=fun e=>by subst e; omega
    exact ⟨hoth b hbg,fun o=>by rw[hM2,aK (fun x=>hbg x.1)]⟩) (by simp[World.setRow])
   have hcnt2:∀ b,bI (.sl true I.size (es ++ es')) (.slice (some ⟨g,off,none⟩) (es.length+es'.length) cap) b=if g=b then 1 else 0:=fun b=>by simp[bI,PV.own]
   refine ⟨_,_,_,_,hrun,⟨f1,hle2,⟨rfl,rfl,rfl,by simp[World.setRow],fun b hb h0 => ?_⟩,fun b hb => ?_,jW.2 ⟨_,cap,by rw[aP],by rw[aP]; exact hroom,aJM,fun h=>absurd h (by omega),fun _ => ?_⟩,?_,fun b => ?_,fun b hb => ?_⟩,fun A2 n2' cap2 e2=>by cases e2;exact ⟨cur',ty',hheap,.inr ⟨⟨g,off,none⟩,es.length,cur,rfl,t1,hsz2⟩⟩⟩
   .have hbg:b≠g:=fun e=>by subst e; omega
    exact ⟨hoth b hbg,fun o=>by rw[hM2,aK (fun x=>hbg x.1)]⟩
   .rw[f2,hcnt2]; have:=c2 b; rw[hown] at this; omega
   .refine ⟨g,off,rfl,aM2 (hloc.mono hle2.none) ?_⟩;rw[hk];refine n4 _ _ _ hle2.mem fun j v hv => ?_
    have hj:=(eP.1 hv).1;rw[hM2,aJ ⟨rfl,by omega,by omega⟩,QF]; exact hv
   .refine PW (fun l h=>by cases h) ?_;intro Zu es2 x2 n2' cap2 e3 e4;cases e3; cases e4;refine ⟨by simp,fun h=>absurd h (by omega),fun x hx => ?_⟩;cases hx;refine ⟨cur',ty',hheap,by rw[hsz2]; exact t2,fun o ho => ?_,rfl,aJK⟩;simp only at ho;have hkk:off+(es ++ es').length*I.size=k+news.length:=by rw[aP,oL,n1]; omega
    show M2 g o=none;rw[hM2,aK (fun x=>by omega)];exact hfree o (by omega)
   .rw[f2,hcnt2]; have:=c2 b; rw[hown] at this; have:=hI.cnt b; omega
   .rw[hcnt2,aK];simp[World.setRow] at hb;omega
 .have hrun:=bKZ (base:=A) (sLen:=es.length) (sCap:=cap) (olds:=olds) (by rw[<- hsi]; exact o2 w.drew fun b o v h=>(hI.mem b o v h).1) (by omega) hlim;obtain ⟨d1,d2⟩:=c1.drew;have hge:=grownCap_ge w (es.length+es'.length) cap e;have hlen:(es ++ es').length*I.size=olds.length+news.length:=by rw[o1,n1,aP,oL]
  have htake:((olds.toArray ++ news.toArray ++ Builtin.zeroCells z.cells (grownCap w (es.length+es'.length) cap e-(es.length+es'.length))).toList.take ((es ++ es').length*I.size))=olds ++ news:=by rw[hlen];simp only[Array.toList_append];rw[<- aP]; exact List.take_left
  have hone:∀ v,v∈(olds.toArray ++ news.toArray ++ Builtin.zeroCells z.cells (grownCap w (es.length+es'.length) cap e-(es.length+es'.length)))->v.oneCell'=true:=fun v hv=>by
   rcases Ee.1 hv with hv | hv
   .rcases Ee.1 hv with hv | hv
    .exact o3 v (by simpa using hv)
    .exact n3 v (by simpa using hv)
   .unfold Builtin.zeroCells at hv;obtain ⟨j,hj,rfl⟩:=Array.mem_map.1 hv;by_cases h0:z.cells.size=0
    .rw[h0] at hj; simp at hj
    .have:j % z.cells.size<z.cells.size:=Nat.mod_lt _ (by omega);rw[getElem!_pos z.cells _ this];exact iY.one _ (Array.getElem_mem _)
  have hmem:=d1.mem;have hpre:=Pre.newRow (a:=a) d1 (ty:=e) (sz:=I.size) (k:=(es ++ es').length*I.size) (es:=es ++ es') (cap:=grownCap w (es.length+es'.length) cap e) hpos hone rfl (by rw[aP]; exact hge) (by
   simp only[Array.size_append,aBA,size_zeroCells,iY.Iy,<- hsi,o1,n1];rw[<- oL,<- oL];exact vT _ (by omega)) aJM (by
   rw[htake];have hle:=Tj d1 (olds ++ news);refine aM2 (o4 _ _ _ hle.mem fun j v hv => ?_) (n4 _ _ _ hle.mem fun j v hv => ?_)
   .show laid M w.drew.heap.size (olds ++ news) w.drew.heap.size (0+j)=some v;rw[yO (yP d1),aJ rfl,kW,lF (eP.1 hv).1]; exact hv
   .show laid M w.drew.heap.size (olds ++ news) w.drew.heap.size (0+es.length*I.size+j)=some v;rw[yO (yP d1),aJ rfl,kW,<- o1,vO (Nat.le_add_right _ _),QF]; exact hv)
  rw[aP] at hpre;refine ⟨_,_,_,_,hrun,⟨hpre.inv,hpre.le,?_,fun b hb => ?_,hpre.rep,hpre.tl,hpre.cnt,hpre.new⟩,fun A2 n2' cap2 e2=>by
   cases e2;refine ⟨_,e,QM w.drew _,.inl ⟨rfl,?_,grownCap_le_maxLen w _ cap e (by unfold aQ at hlim; unfold maxLen; omega)⟩⟩;simp only[Array.size_append,aBA,size_zeroCells,iY.Iy,o1,n1,hsi];rw[<- oL,<- oL];congr 1
   omega⟩
  .refine (Fr.trans (f:=fp B Z a.tmps w) (g:=fp B (Z.clr s) a.tmps w.drew) (M':=M) (w':=w.drew) ⟨rfl,rfl,rfl,bW _,fun _ _ _=>⟨rfl,fun _=>rfl⟩⟩ hpre.fr fun b hb h0 => ?_);have:=c2 b;rw[XK];omega
  .have h1:=hpre.own b hb;have h2:=c2 b;rw[XK] at h1;exact oM h1 (by omega)
def a0L (M:Mem) (w:World) (p0:PV) (sz:Nat) (es:bSH) (v:Value):Prop:=∀ A cap,v = .slice A es.length cap->(A=none->cap=0)/\(sz=0->A=none)/\∀ a,A=some a->p0.own=true/\∃ cs ty,w.heap[a.block]? = some (.cells cs ty (0,0))/\a.off+cap*sz<=cs.size/\(∀ o,a.off+es.length*sz<=o->M a.block o=none)/\a.spot=none/\a.off=0
theorem aMA {α:Type} {p:α->World->Prop} {q:α->World->Mem->aV->Prop} {r r':α->World->Prop} (hm:∀ v w',r v w'->r' v w') (h:∃ v w' M' B',p v w'/\q v w' M' B'/\r v w'):∃ v w' M' B',p v w'/\q v w' M' B'/\r' v w':=let ⟨v,w',M',B',h1,h2,h3⟩:=h; ⟨v,w',M',B',h1,h2,hm v w' h3⟩
theorem aDK {α:Type} {p:α->World->Prop} {q:α->World->Mem->aV->Prop} {r:α->World->Prop} (h:∃ v w' M' B',p v w'/\q v w' M' B'/\r v w'):∃ v w' M' B',p v w'/\q v w' M' B':=let ⟨v,w',M',B',h1,h2,_⟩:=h; ⟨v,w',M',B',h1,h2⟩
theorem aCO (hI:Inv n M B out Z a.tmps w) {P:Program} {t ty:TypeId} {I:TI} (hT:jh P t=some I) {s x:Operand} {sz sz':Nat} {es es':bSH} {o:Bool} {p0:PV} (hs:Z.ev s=some p0) (hrs:Rep M B (.sl true sz es) (a.eval s)) (hrow:a0L M w p0 sz es (a.eval s)) (hx:Z.rd x=some (.sl o sz' es'))
 (hpos:0<I.size) (hby:I.bytes<=1024) (hsz0:sz=I.size\/sz=0) (TL:sz'=I.size\/sz'=0) (hlim:es.length+es'.length<=aQ) :
 ∃ v w' M' B',(Builtin.append_ #[t,t] ty #[a.eval s,a.eval x]).run P w = .ok v w'/\Pre n out M B Z a.tmps w M' B' (Z.clr s) w' (.sl true I.size (es ++ es')) v/\∃ e,P.underlying t=some (.slice e)/\Vg w w' e I.size (a.eval s) v:=by
 obtain ⟨e,i,z,d,hu,iY⟩:=zH hT;have hsi:=iY.size;have hbi:=iY.bytes;have hr':=(hI.rd x _ hx).1;obtain ⟨A',cap',e2,a4M,a4O,hz',hA'⟩:=jW.1 hr';have hsz':sz'=I.size\/es' = []:=TL.imp id fun h=>(hz' h).1
 have hs2:∀ p,p∈es'->p.size=I.size:=fun p hp=>by
  rcases hsz' with h | h
  .rw[<- h]; exact a4O p hp
  .rw[h] at hp; simp at hp
 have hA2:es' ≠ []->∃ b off,A'=some ⟨b,off,none⟩/\jr M [] I.size es' b off:=fun hc=>by
  obtain ⟨b,off,h1,h2⟩:=hA' hc;refine ⟨b,off,h1,?_⟩;rcases hsz' with h | h
  .rw[<- h]; exact h2
  .rw[h]; exact KG
 obtain ⟨news,n1,n2,n3,n4⟩:=a1X (P:=P) hs2 a4M hA2 hI.mem;rw[e2];refine aMA (fun v w' h=>⟨e,hu,hsi▸h⟩) (aCN (ty:=ty) (u:=t) hI iY hs hrs hrow hpos hby hsz0 hs2 hlim n1 n3 n4 (X := .slice A' es'.length cap') (fun h0 => ?_) (fun hh hroom hfit => ?_) (fun hfo hg h63 => ?_))
 .subst h0;exact aCL hu iY.info (by rw[<- hsi]; exact n2 w fun b o v h=>(hI.mem b o v h).1)
 .exact aCM hu iY.info (by rw[<- hsi]; exact n2 w fun b o v h=>(hI.mem b o v h).1) hh hroom n3 hfit
 .exact aCK hu iY.info iY.zero hfo (by rw[<- hsi]; exact n2 w.drew fun b o v h=>(hI.mem b o v h).1) hg h63 (by rw[<- hbi]; exact hby)
theorem aSV (hI:Inv n M B out Z a.tmps w) {P:Program} {t ty:TypeId} {I:TI} (hT:jh P t=some I) {s x:Operand} {sz sz':Nat} {es es':bSH} {o ow:Bool} (how:ow=true\/sz=0) (hs:Z.ev s=some (.sl ow sz es)) (hx:Z.rd x=some (.sl o sz' es'))
 (hpos:0<I.size) (hby:I.bytes<=1024) (hsz0:sz=I.size\/sz=0) (TL:sz'=I.size\/sz'=0) (hlim:es.length+es'.length<=aQ) :
 ∃ v w' M' B',(Builtin.append_ #[t,t] ty #[a.eval s,a.eval x]).run P w = .ok v w'/\Pre n out M B Z a.tmps w M' B' (Z.clr s) w' (.sl true I.size (es ++ es')) v:=by
 obtain ⟨hrs,hTl⟩:=hI.ev hs;exact aDK (aCO hI hT hs (Ua.1 hrs) (aPX how hrs hTl) hx hpos hby hsz0 TL hlim)
theorem aSQ {P:Program} {t u ty e:TypeId} {i:TypeInfo} {z:Value} (ht:P.underlying t=some (.slice e)) (hu:P.underlying u=some .string) (hi:P.info? e=some i) (hz:i.zero=some z) {base:Option Addr} {sLen sCap:Nat} {olds:List Value} {s:ByteArray}
 (hfo:(Builtin.firstCells i.size sLen (.slice base sLen sCap)).run P w.drew = .ok olds.toArray w.drew) (hg:sCap<sLen+s.size) (h63:sLen+s.size<=aQ) (hb:i.bytes<=1024) :
 (Builtin.append_ #[t,u] ty #[.slice base sLen sCap,.string s]).run P w =
  .ok (.slice (some ⟨w.heap.size,0,none⟩) (sLen+s.size) (grownCap w (sLen+s.size) sCap e)) (w.drew.alloc (.cells (olds.toArray ++ (Lib.strCells s).toArray ++ Builtin.zeroCells z.cells (grownCap w (sLen+s.size) sCap e-(sLen+s.size))) e)):=by
 unfold aQ at h63;have hn:¬ (sLen+s.size<=sCap):=by omega
 have h63':¬ (9223372036854775807<((sLen:Int)+(s.size:Int))):=by omega
 have hb2:(sLen+s.size)*i.bytes<=140737488355328:=oM (Nat.mul_le_mul h63 hb) (by decide);have h48':¬ (281474976710656<Builtin.nextslicecap (sLen+s.size) sCap*i.bytes):=by have:=growslice_fits hg hb2; omega
 have hfn:=aRE (P:=P) w.drew i.size s;simp[Builtin.append_,ed ht,ed hu,sizeOf,typeInfo,zeroValue,hi,hz,Builtin.lenOf,hn,h63',h48',Question.forced,hfo,hfn,newRow,grownCap];congr 2
 apply Q3;simp[jc]
theorem aSR {P:Program} {t u ty e:TypeId} {i:TypeInfo} (ht:P.underlying t=some (.slice e)) (hu:P.underlying u=some .string) (hi:P.info? e=some i) {s:ByteArray} (h0:s.size=0) :
 (Builtin.append_ #[t,u] ty #[.slice none 0 0,.string s]).run P w = .ok (.slice none 0 0) w:=by
 have hfn:=aRE (P:=P) w i.size s;rw[h0,show Lib.strCells s = [] from qK (by rw[Lib.strCells_length]; exact h0)] at hfn;simp[Builtin.append_,ed ht,ed hu,sizeOf,typeInfo,hi,Builtin.lenOf,h0,hfn]
theorem aCP (hI:Inv n M B out Z a.tmps w) {P:Program} {t u ty:TypeId} {I:TI} (hT:jh P t=some I) (hst:uC P u=true) {s x:Operand} {sz:Nat} {es:bSH} {b:ByteArray} {p0:PV} (hs:Z.ev s=some p0) (hrs:Rep M B (.sl true sz es) (a.eval s)) (hrow:a0L M w p0 sz es (a.eval s)) (hx:Z.rd x=some (.str b))
 (hsz1:I.size=1) (hby:I.bytes<=1024) (hsz0:sz=I.size\/sz=0) (hlim:es.length+b.size<=aQ) :
 ∃ v w' M' B',(Builtin.append_ #[t,u] ty #[a.eval s,a.eval x]).run P w = .ok v w'/\Pre n out M B Z a.tmps w M' B' (Z.clr s) w' (.sl true I.size (es ++ Ij b)) v/\∃ e,P.underlying t=some (.slice e)/\Vg w w' e I.size (a.eval s) v:=by
 obtain ⟨e,i,z,d,hu,iY⟩:=zH hT;have hsi:=iY.size;have hbi:=iY.bytes;have hus:=TR hst;rw[iT.1 (hI.rd x _ hx).1];have hpl:=bMM b;refine aMA (fun v w' h=>⟨e,hu,hsi▸h⟩) (aCN (ty:=ty) (u:=u) (t:=t) (X := .string b) hI iY hs hrs hrow (es':=Ij b) (by omega) hby hsz0 (fun p hp => ?_) (by rw[hpl]; exact hlim) (news:=Lib.strCells b) (by rw[Lib.strCells_length,hpl,hsz1,VT]) (Lib.strCells_oneCell b) (fun M' b' o' hM hc => ?_) (fun h0 => ?_) (fun {g off sLen sCap cur ty'} hh hroom hfit => ?_) (fun hfo hg h63 => ?_))
 .obtain ⟨x,_,rfl⟩:=qL.1 hp;rw[hsz1]; rfl
 .rw[hsz1];refine Ae fun j p hj => ?_
  unfold Ij at hj;rw[iU] at hj;cases hv:b.data.toList[j]? with
  | none=>simp[hv] at hj
  | some v =>simp[hv] at hj; subst hj;refine (Bq rfl).2 ⟨_,?_,dS.2 rfl⟩;rw[VT];exact hc j _ (by simp[Lib.strCells,hv])
 .exact aSR hu hus iY.info (by rw[<- hpl,h0]; rfl)
 .rw[hpl] at hroom ⊢;have hst2:=run_storeCells_at P g (off+sLen*i.size) ty' (Lib.strCells b) 0 cur w hh (by simpa using hfit) (Lib.strCells_oneCell b);simp only[Ei] at hst2;have hfn:=aRE (P:=P) w i.size b;simp[Builtin.append_,ed hu,ed hus,sizeOf,typeInfo,iY.info,Builtin.lenOf,hroom,hfn,add_lit,hst2]
 .rw[hpl] at hg h63 ⊢;exact aSQ hu hus iY.info iY.zero hfo hg h63 (by rw[<- hbi]; exact hby)
theorem aSW (hI:Inv n M B out Z a.tmps w) {P:Program} {t u ty:TypeId} {I:TI} (hT:jh P t=some I) (hbt:OG P t=true) (hst:uC P u=true) {s x:Operand} {sz:Nat} {es:bSH} {b:ByteArray} {ow:Bool} (how:ow=true\/sz=0) (hs:Z.ev s=some (.sl ow sz es)) (hx:Z.rd x=some (.str b))
 (hsz1:I.size=1) (hby:I.bytes<=1024) (hsz0:sz=I.size\/sz=0) (hlim:es.length+b.size<=aQ) :
 ∃ v w' M' B',(Builtin.append_ #[t,u] ty #[a.eval s,a.eval x]).run P w = .ok v w'/\Pre n out M B Z a.tmps w M' B' (Z.clr s) w' (.sl true I.size (es ++ Ij b)) v:=by
 obtain ⟨hrs,hTl⟩:=hI.ev hs;exact aDK (aCP hI hT hst hs (Ua.1 hrs) (aPX how hrs hTl) hx hsz1 hby hsz0 hlim)
theorem aPW {l:bSI} {v:Value} (hTl:TlT M w (.dB l) v):a0L M w (.dB l) 1 (mF l) v:=fun A cap e=>by obtain ⟨h1,h2⟩:=hTl l A _ cap rfl e;refine ⟨h1,fun h=>absurd h (by omega),fun x hx=>⟨rfl,?_⟩⟩;obtain ⟨cs,g1,g2,_,g4,g5,g6⟩:=h2 x hx;exact ⟨cs,Gz,g1,by rw[g6]; omega,fun o ho=>g4 o (by rw[WU,g6] at ho; omega),g5,g6⟩
theorem Pre.dB {M':Mem} {B':aV} {Z':ASt} {w':World} {v v0:Value} {l l':bSI} {es:bSH} {ts:Array Value} (he:es=mF l') (h:Pre n out M B Z ts w M' B' Z' w' (.sl true 1 (mF l ++ es)) v) (h1:Vg w w' Gz 1 v0 v) (h0:TlT M w (.dB l) v0) :
 Pre n out M B Z ts w M' B' Z' w' (.dB (l ++ l')) v:=by
 subst he;have ho:∀ b,bI (.dB (l ++ l')) v b=bI (.sl true 1 (mF l ++ mF l')) v b:=fun b=>by unfold bI; rfl
 refine ⟨h.inv,h.le,h.fr,fun b hb=>by rw[ho]; exact h.own b hb,?_,⟨(fun _ _ _ _ _ e=>by cases e),fun l2 A m cap e ev => ?_,fun _ _ _ _ _ _ e _=>by cases e⟩,fun b=>by rw[ho]; exact h.cnt b,fun b hb=>by rw[ho]; exact h.new b hb⟩
 .refine Uc.1 ?_;rw[aCZ];exact Ua.1 h.rep
 .cases e;obtain ⟨t1,_,t3⟩:=h.tl.s 1 _ A m cap rfl ev;refine ⟨t1,fun x hx => ?_⟩;obtain ⟨cs,ty,g1,g2,g3,g4,g5⟩:=t3 x hx;subst hx;obtain ⟨cs',ty',k1,k2⟩:=h1 x m cap ev;rw[g1] at k1;injection k1 with k1; injection k1 with k1 k3 _; subst k1; subst k3
  have hf:∀ o,(l ++ l').length<=o->M' x.block o=none:=fun o ho=>g3 o (by rw[<- aCZ,WU,g5]; omega)
  rcases k2 with ⟨rfl,q1,q2⟩ | ⟨A0,n0,cs0,q1,q2,q3⟩
  .exact ⟨cs,g1,by omega,q2,hf,g4,g5⟩
  .obtain ⟨_,z2⟩:=h0 l (some A0) n0 cap rfl q1;obtain ⟨cs1,z3,z4,z5,_⟩:=z2 A0 rfl;rw[q2] at z3;injection z3 with z3; injection z3 with z3 z6 _; subst z3; subst z6
   exact ⟨cs,g1,by omega,z5,hf,g4,g5⟩
theorem aDL {P:Program} {t e:TypeId} (h:xN P t=some e):P.underlying t=some (.slice e):=by
 unfold xN at h; split at h
 .rename_i e' he; cases h; exact he
 .cases h
theorem aST (hI:Inv n M B out Z a.tmps w) {P:Program} {t u ty:TypeId} {I:TI} (hT:jh P t=some I) (hbt:xN P t=some Gz) (hst:uC P u=true) {s x:Operand} {l:bSI} {b:ByteArray} (hs:Z.ev s=some (.dB l)) (hx:Z.rd x=some (.str b))
 (hsz1:I.size=1) (hby:I.bytes<=1024) (hlim:l.length+b.size<=aQ) :
 ∃ v w' M' B',(Builtin.append_ #[t,u] ty #[a.eval s,a.eval x]).run P w = .ok v w'/\Pre n out M B Z a.tmps w M' B' (Z.clr s) w' (.dB (l ++ b.data.toList)) v:=by
 obtain ⟨hrs,hTl⟩:=hI.ev hs;obtain ⟨v,w',M',B',h1,h2,e,h3,h4⟩:=aCP (ty:=ty) hI hT hst hs (Ua.1 (Uc.2 hrs)) (aPW hTl.t) hx hsz1 hby (.inl hsz1.symm) (by rw[WU]; exact hlim);rw[aDL hbt] at h3; cases h3;rw[hsz1] at h2 h4;exact ⟨v,w',M',B',h1,h2.dB (bML b) h4 hTl.t⟩
theorem aSS (hI:Inv n M B out Z a.tmps w) {P:Program} {t ty:TypeId} {I:TI} (hT:jh P t=some I) (hbt:xN P t=some Gz) {s x:Operand} {l:bSI} {o:Bool} {c:Int} (hs:Z.ev s=some (.dB l)) (hx:Z.rd x=some (.sl o 1 [.int .u8 c]))
 (hsz1:I.size=1) (hby:I.bytes<=1024) (hlim:l.length+1<=aQ) (h0:0<=c) (h256:c<256) :
 ∃ v w' M' B',(Builtin.append_ #[t,t] ty #[a.eval s,a.eval x]).run P w = .ok v w'/\Pre n out M B Z a.tmps w M' B' (Z.clr s) w' (.dB (l ++ [UInt8.ofNat c.toNat])) v:=by
 obtain ⟨hrs,hTl⟩:=hI.ev hs;obtain ⟨v,w',M',B',h1,h2,e,h3,h4⟩:=aCO (ty:=ty) hI hT hs (Ua.1 (Uc.2 hrs)) (aPW hTl.t) hx (by omega) hby (.inl hsz1.symm) (.inl hsz1.symm) (by rw[WU]; exact hlim);rw[aDL hbt] at h3; cases h3;rw[hsz1] at h2 h4;exact ⟨v,w',M',B',h1,h2.dB (bHP h0 h256).symm h4 hTl.t⟩
theorem aSU (hI:Inv n M B out Z a.tmps w) {P:Program} {t ty:TypeId} {I:TI} (hT:jh P t=some I) {s x:Operand} {k sz':Nat} {cs es':bSH} {o:Bool} (hs:Z.ev s=some (.fJ true k I.size cs)) (hx:Z.rd x=some (.sl o sz' es'))
 (hpos:0<I.size) (hby:I.bytes<=1024) (TL:sz'=I.size\/sz'=0) (TJ:(dW es').all PV.lit=true) (hlim:k+es'.length<=aQ) :
 ∃ v w' M' B',(Builtin.append_ #[t,t] ty #[a.eval s,a.eval x]).run P w = .ok v w'/\Pre n out M B Z a.tmps w M' B' (Z.clr s) w' (.fJ true (k+es'.length) I.size (cs ++ dW es')) v:=by
 obtain ⟨e,i,z,d,hu,iY⟩:=zH hT;have hsi:=iY.size;have hbi:=iY.bytes;have hr':=(hI.rd x _ hx).1;obtain ⟨A',cap',e2,a4M,a4O,hz',hA'⟩:=jW.1 hr';have hsz':sz'=I.size\/es' = []:=TL.imp id fun h=>(hz' h).1
 have hs2:∀ p,p∈es'->p.size=I.size:=fun p hp=>by
  rcases hsz' with h | h
  .rw[<- h]; exact a4O p hp
  .rw[h] at hp; simp at hp
 have hA2:es' ≠ []->∃ b off,A'=some ⟨b,off,none⟩/\jr M [] I.size es' b off:=fun hc=>by
  obtain ⟨b,off,h1,h2⟩:=hA' hc;refine ⟨b,off,h1,?_⟩;rcases hsz' with h | h
  .rw[<- h]; exact h2
  .rw[h]; exact KG
 obtain ⟨news,n1,n2,n3,n4⟩:=a1X (P:=P) hs2 a4M hA2 hI.mem;have hnl:(dW es').length=news.length:=by rw[XH hs2,n1]
 have hnew:∀ (j:Nat) p,(dW es')[j]? = some p->p.lit=true/\∃ u,news[j]? = some u/\Rep KP [] p u/\u.oneCell'=true:=fun j p hj=>by
  have hl:=n4 (laid M w.heap.size news) w.heap.size 0 (Tj hI news).mem fun j v hv=>by rw[yO (yP hI),aJ rfl,kW]; exact hv
  obtain ⟨u,hu,hr⟩:=a6A hl hs2 hj;rw[yO (yP hI),aJ rfl,kW] at hu;have hp:=iC.1 TJ p (jq hj);exact ⟨hp,u,hu,aL' hp hr,n3 u (jq hu)⟩
 obtain ⟨hrs,hTl⟩:=hI.ev hs;obtain ⟨A,cap,e1,hle⟩:=EO.1 hrs;obtain ⟨⟨hcl,_⟩,hn,hrow⟩:=hTl.p _ _ _ _ _ _ rfl e1;obtain ⟨c1,c2,c3⟩:=hI.Wj hs;rw[e1,e2];have hall:(cs ++ dW es').length=(k+es'.length)*I.size:=by rw[aP,hcl,XH hs2,oL]
 by_cases hroom:k+es'.length<=cap
 .cases A with
  | none =>
   have hc0:=hn rfl;have h1:k=0:=by omega
   have h2:es' = []:=qK (by omega);subst h1; subst h2; subst hc0;have h3:cs = []:=qK (by simpa using hcl);subst h3;refine ⟨.slice none 0 0,w,M,B,aCL hu iY.info (by rw[<- hsi]; exact n2 w fun b o v h=>(hI.mem b o v h).1),⟨c1,dJ.refl _ _,Fr.refl _ _ _,fun b _ => ?_,EO.2 ⟨none,0,rfl,bW _⟩,aA3 fun k' sz' cs' A m cap e ev => ?_,fun b => ?_,fun b _=>by simp[bI]⟩⟩
   .have:=c2 b; simp[bI] at *; omega
   .cases e; cases ev; exact ⟨⟨by simp[dW],hpos⟩,fun _=>rfl,fun a h=>by cases h⟩
   .have:=c2 b; have:=hI.cnt b; simp[bI] at *; omega
  | some ad =>
   obtain ⟨cur,ty',t1,t2,t3,t4,t5,t6⟩:=hrow ad rfl;obtain ⟨g,off,spot⟩:=ad;simp only at t1 t4 t5 t6;subst t5; subst t6;have hown:∀ b,bI (.fJ true k I.size cs) (a.eval s) b=if g=b then 1 else 0:=fun b=>by rw[e1]; simp[bI,PV.own]
   have hg1:fp B Z a.tmps w g=1/\out g=0/\fp B (Z.clr s) a.tmps w g=0:=by have:=hI.cnt g; have:=c2 g; rw[hown,aJ rfl] at this; omega
   have hfit:0+k*I.size+news.length<=cur.size:=by rw[n1];have:(k+es'.length)*I.size<=cap*I.size:=vT _ hroom;rw[oL] at this; omega
   have hrun:=aCM (P:=P) (ty:=ty) (g:=g) (off:=0) (sLen:=k) (sCap:=cap) (m:=es'.length) (A':=A') (c:=cap') hu iY.info (by rw[<- hsi]; exact n2 w fun b o v h=>(hI.mem b o v h).1) t1 hroom n3 (by rw[<- hsi]; exact hfit);rw[<- hsi,kW] at hrun;rw[kW] at hfit;generalize Jm:(cur.toList.take (k*I.size) ++ news ++ cur.toList.drop (k*I.size+news.length)).toArray=cur' at *;have hsz2:cur'.size=cur.size:=by rw[<- Jm]; simp; omega
   have hnw:∀ j,j<news.length->cur'[k*I.size+j]? = news[j]? := fun j hj=>by
    rw[<- Jm,a09];have hl:(cur.toList.take (k*I.size)).length=k*I.size:=by simp; omega
    rw[jc,vO (by omega),hl,QF,lF hj]
   have hold:∀ o,o<k*I.size->cur'[o]? = cur[o]? := fun o ho=>by
    rw[<- Jm,a09];have hl:(cur.toList.take (k*I.size)).length=k*I.size:=by simp; omega
    rw[jc,lF (by omega),iO,aJ ho]; simp
   have hheap:(w.setRow g cur').heap[g]? = some (.cells cur' ty' (0,0)):=setRow_heap w g cur _ ty' (0,0) t1;have hoth:∀ b,b≠g->(w.setRow g cur').heap[b]? = w.heap[b]? := fun b hb=>setRow_other w g b _ hb
   obtain ⟨f1,f2⟩:=c1.ext (M':=M) (w':=w.setRow g cur') (dJ.refl _ _) (fun b o v h=>by
    have hb:b≠g:=fun e=>by subst e; rw[t4] at h; cases h
    have hm:=hI.mem b o v h;exact ⟨(Lt (w:=w) (a:=⟨b,o,none⟩) (hoth b hb)).trans hm.1,hm.2⟩) (fun b hb=>by
    have hbg:b≠g:=fun e=>by subst e; omega
    exact ⟨hoth b hbg,fun o=>rfl⟩) (by simp[World.setRow])
   have hcnt2:∀ b,bI (.fJ true (k+es'.length) I.size (cs ++ dW es')) (.slice (some ⟨g,0,none⟩) (k+es'.length) cap) b=if g=b then 1 else 0:=fun b=>by simp[bI,PV.own]
   have hlt:g<w.heap.size:=(wu.1 t1).1;refine ⟨_,_,M,B,hrun,⟨f1,dJ.refl _ _,⟨rfl,rfl,rfl,by simp[World.setRow],fun b hb h0=>⟨hoth b fun e=>by subst e; omega,fun _=>rfl⟩⟩,fun b hb => ?_,EO.2 ⟨_,cap,rfl,hroom⟩,aA3 fun k' Zu cs' A2 m cap2 e3 e4 => ?_,fun b => ?_,fun b hb => ?_⟩⟩
   .rw[f2,hcnt2]; have:=c2 b; rw[hown] at this; omega
   .cases e3; cases e4;refine ⟨⟨hall,hpos⟩,by simp,fun x hx => ?_⟩;cases hx;refine ⟨cur',ty',hheap,by rw[hsz2]; exact t2,fun j p hj => ?_,t4,rfl,rfl⟩;rcases lq j cs.length with hjl | hjl
    .rw[lF hjl] at hj;rw[hold j (by omega)]; exact t3 j p hj
    .rw[vO hjl] at hj;obtain ⟨q1,u,q2,q3⟩:=hnew _ p hj;refine ⟨q1,u,?_,q3⟩;have:=hnw (j-cs.length) (by have:=(eP.1 hj).1; omega);rw[<- hcl,show cs.length+(j-cs.length)=j by omega] at this;rw[this]; exact q2
   .rw[f2,hcnt2]; have:=c2 b; rw[hown] at this; have:=hI.cnt b; omega
   .rw[hcnt2,aK (by simp[World.setRow] at hb; omega)]
 ·
  obtain ⟨olds,o1,o2,o3⟩:∃ olds:List Value,olds.length=k*I.size/\(Builtin.firstCells I.size k (.slice A k cap)).run P w.drew = .ok olds.toArray w.drew/\(∀ (j:Nat) p,cs[j]? = some p->p.lit=true/\∃ u,olds[j]? = some u/\Rep KP [] p u/\u.oneCell'=true)/\∀ u,u∈olds->u.oneCell'=true:=by
   cases A with
   | none =>
    have hc0:=hn rfl;have h1:k=0:=by omega
    subst h1;have h3:cs = []:=qK (by simpa using hcl);subst h3;exact ⟨[],by simp,by simp[Builtin.firstCells],fun j p h=>by simp at h,by simp⟩
   | some ad =>
    obtain ⟨cur,ty',t1,t2,t3,t4,t5,t6⟩:=hrow ad rfl;obtain ⟨g,off,spot⟩:=ad;simp only at t1 t4 t5 t6;subst t5; subst t6;have hkc:k*I.size<=cur.size:=oM (vT _ hle) t2;have hget:∀ (j:Nat) v,(cur.toList.take (k*I.size))[j]? = some v->j<k*I.size/\cur[j]? = some v:=fun j v hv=>by
     rw[iO] at hv;split at hv
     .rename_i hj; exact ⟨hj,by simpa using hv⟩
     .cases hv
    refine ⟨cur.toList.take (k*I.size),by simp; omega,VU (P:=P) w.drew I.size k ⟨g,0,none⟩ k cap _ (by simp; omega) (fun j v hv => ?_),fun j p hj => ?_,fun u hu => ?_⟩
    .rw[add_lit,kW];have:=(hget j v hv).2;show w.cell? ⟨g,j,none⟩=some v;simp[World.cell?,t1,this]
    .obtain ⟨q1,u,q2,q3⟩:=t3 j p hj;refine ⟨q1,u,?_,q3⟩;rw[iO,aJ (by have:=(eP.1 hj).1; omega)];simpa using q2
    .obtain ⟨j,hj⟩:=DI.1 hu;obtain ⟨h1,h2⟩:=hget j u hj;obtain ⟨q1,u',q2,q3,q4⟩:=t3 j _ (iM (by omega:j<cs.length));rw[h2] at q2; cases q2; exact q4
  obtain ⟨o3,o4⟩:=o3;have hrun:=aCK (P:=P) (ty:=ty) (base:=A) (A':=A') (sLen:=k) (sCap:=cap) (m:=es'.length) (c:=cap') (olds:=olds) (news:=news) hu iY.info iY.zero (by rw[<- hsi]; exact o2) (by rw[<- hsi]; exact n2 w.drew fun b o v h=>(hI.mem b o v h).1) (by omega) hlim (by rw[<- hbi]; exact hby);obtain ⟨d1,d2⟩:=c1.drew;have hge:=grownCap_ge w (k+es'.length) cap e;have hone:∀ v,v∈(olds.toArray ++ news.toArray ++ Builtin.zeroCells z.cells (grownCap w (k+es'.length) cap e-(k+es'.length)))->v.oneCell'=true:=fun v hv=>by
   rcases Ee.1 hv with hv | hv
   .rcases Ee.1 hv with hv | hv
    .exact o4 v (by simpa using hv)
    .exact n3 v (by simpa using hv)
   .unfold Builtin.zeroCells at hv;obtain ⟨j,hj,rfl⟩:=Array.mem_map.1 hv;by_cases h0:z.cells.size=0
    .rw[h0] at hj; simp at hj
    .have:j % z.cells.size<z.cells.size:=Nat.mod_lt _ (by omega);rw[getElem!_pos z.cells _ this];exact iY.one _ (Array.getElem_mem _)
  have hpre:=Pre.aN0 (a:=a) d1 (ty:=e) (sz:=I.size) (k:=k+es'.length) (cs:=cs ++ dW es') (cap:=grownCap w (k+es'.length) cap e) hpos hone hall hge (by
   simp only[Array.size_append,aBA,size_zeroCells,iY.Iy,<- hsi,o1,n1];rw[<- oL,<- oL];exact vT _ (by omega)) (fun j p hj=>by
   rcases lq j cs.length with hjl | hjl
   .rw[lF hjl] at hj;obtain ⟨q1,u,q2,q3⟩:=o3 j p hj;refine ⟨q1,u,?_,q3⟩;rw[Lc (by simp; omega),Lc (by simp; omega)];simpa using q2
   .rw[vO hjl] at hj;obtain ⟨q1,u,q2,q3⟩:=hnew _ p hj;have:=(eP.1 q2).1;refine ⟨q1,u,?_,q3⟩;rw[Lc (by simp; omega),Array.getElem?_append_right (by simp; omega)];simp only[aBA,a09];rw[o1,<- hcl]; exact q2)
  refine ⟨_,_,_,_,hrun,⟨hpre.inv,hpre.le,?_,fun b hb => ?_,hpre.rep,hpre.tl,hpre.cnt,hpre.new⟩⟩
  .refine (Fr.trans (f:=fp B Z a.tmps w) (g:=fp B (Z.clr s) a.tmps w.drew) (M':=M) (w':=w.drew) ⟨rfl,rfl,rfl,bW _,fun _ _ _=>⟨rfl,fun _=>rfl⟩⟩ hpre.fr fun b hb h0 => ?_);have:=c2 b;rw[XK];omega
  .have h1:=hpre.own b hb;have h2:=c2 b;rw[XK] at h1;exact oM h1 (by omega)
end
section
variable {n:Nat} {out:Nat->Nat} {M:Mem} {B:aV} {Z:ASt} {a:Act} {w:World}
theorem a2A {α:Type} {l:List α}:∀ {n j:Nat},j<n*l.length->((List.replicate n l).flatten)[j]? = l[j % l.length]?
 | 0,j,h=>by simp at h
 | n+1,j,h=>by
  rw[VO,aB6];rcases lq j l.length with h' | h'
  .rw[lF h',Nat.mod_eq_of_lt h']
  .rw[vO h',Nat.mod_eq_sub_mod h'];exact a2A (by rw[Ej] at h; omega)
theorem aEQ {α:Type} {l:List α} {n:Nat}:((List.replicate n l).flatten).length=n*l.length:=by
 induction n with
 | zero=>simp
 | succ n ih=>rw[VO,aB6,aP,ih,Ej]; omega
theorem a1G (c:Array Value) (n k:Nat) (hk:k=n*c.size):(madeCells c k).toList=(List.replicate n c.toList).flatten:=by
 subst hk;apply Ll;intro j;by_cases h:j<n*c.size
 .rw[a2A (by simpa using h)];have hs:0<c.size:=by
   rcases Gg c.size with h0 | h0
   .rw[h0] at h; simp at h
   .exact h0
  have hm:j % c.size<c.size:=Nat.mod_lt _ hs;simp[madeCells,h,hm]
 .rw[ww (by simp[madeCells]; omega),ww (by rw[aEQ]; simp; omega)]
theorem aB1 {P:Program} {e:TypeId} {I:TI} {i:TypeInfo} {z:Value} {d:TypeDesc} (hT:qy P e I i z d) (m:Nat):wo m I=((List.replicate m z.cells.toList).flatten).map mP:=by rw[bP4,hT.TT,List.map_flatten,List.map_replicate]
theorem aB0 {P:Program} {e:TypeId} {I:TI} {i:TypeInfo} {z:Value} {d:TypeDesc} (hT:qy P e I i z d) (m:Nat):(wo m I).length=m*I.size:=by rw[aB1 hT,bM,aEQ,hT.size,<- hT.Iy]; simp
theorem XI {α:Type} {l:List α} {n:Nat} {x:α} (h:x∈(List.replicate n l).flatten):x∈l:=by obtain ⟨l',h1,h2⟩:=List.mem_flatten.1 h;rw[(List.mem_replicate.1 h1).2] at h2; exact h2
theorem bGI {P:Program} {t e:TypeId} {I:TI} {i:TypeInfo} {z:Value} {d:TypeDesc} (hu:P.underlying t=some (.slice e)) (hT:qy P e I i z d) (k k':IntKind) {m:Int} (h0:0<=m) (h1:m<=1073741824) (hb:I.bytes<=1024) :
 (Instr.makeSlice t (.int k m) (.int k' m)).run P w = .ok (.slice (some ⟨w.heap.size,0,none⟩) m.toNat m.toNat) (w.alloc (.cells (madeCells z.cells (m.toNat*i.size)) e)):=by
 have hb2:(i.bytes:Int)*m<=281474976710656:=by
  have h2:(i.bytes:Int)<=1024:=by have:=hT.bytes; omega
  calc (i.bytes:Int)*m<=1024*1073741824:=Int.mul_le_mul h2 h1 h0 (by decide)
   _<=281474976710656:=by decide
 exact run_make w t e i z hu hT.info hT.zero k k' m m h0 (Int.le_refl _) hb2 (by omega)
theorem bGH (hI:Inv n M B out Z a.tmps w) {P:Program} {e:TypeId} {I:TI} {i:TypeInfo} {z:Value} {d:TypeDesc} (hT:qy P e I i z d) (m:Nat) :
 Good n out M B Z a.tmps w M (B ++ [(w.heap.size,(madeCells z.cells (m*i.size)).size,e+1)]) { Z with h:=Z.h ++ [some (wo m I)] } a.tmps (w.alloc (.cells (madeCells z.cells (m*i.size)) e)):=by
 have hc:=a1G z.cells m (m*i.size) (by rw[hT.Iy]);refine hI.newObj _ e _ (by rw[aB0 hT,size_madeCells,hT.size]; exact bW _) (fun j p hj => ?_);rw[aB1 hT,<- hc,iU] at hj;cases hv:(madeCells z.cells (m*i.size)).toList[j]? with
 | none=>simp[hv] at hj
 | some v =>
  simp[hv] at hj; subst hj;have hv':(madeCells z.cells (m*i.size))[j]? = some v:=by simpa using hv
  have hone:v.oneCell'=true:=hT.one v (by have:=jq hv;rw[hc] at this;simpa using XI this);exact ⟨v,hv',IY hone,aA5 v,hone,a6Y v⟩
theorem aUF {α:Type} {l:List α} {n j k:Nat} (hj:j<n) (hk:k<l.length):((List.replicate n l).flatten)[j*l.length+k]? = l[k]? := by rw[a2A (by have:(j+1)*l.length<=n*l.length:=vT _ hj;rw[Ej] at this; omega),VR,Nat.add_mul_mod_self_right,Nat.mod_eq_of_lt hk]
theorem bGJ (hI:Inv n M B out Z a.tmps w) {P:Program} {e:TypeId} {I:TI} {i:TypeInfo} {z:Value} {d:TypeDesc} (hT:qy P e I i z d) (hpos:0<I.size) (hz:(vM I).size=I.size) (hok:(vM I).okE=true) (m:Nat) :
 ∃ M',Pre n out M B Z a.tmps w M' B Z (w.alloc (.cells (madeCells z.cells (m*i.size)) e)) (.sl true I.size (List.replicate m (vM I))) (.slice (some ⟨w.heap.size,0,none⟩) m m):=by
 have hc:=a1G z.cells m (m*i.size) (by rw[hT.Iy]);have hsz:z.cells.toList.length=I.size:=by rw[hT.size,<- hT.Iy]; simp
 have hone:∀ v,v∈madeCells z.cells (m*i.size)->v.oneCell'=true:=fun v hv=>hT.one v (by
  have:v∈(madeCells z.cells (m*i.size)).toList:=by simpa using hv
  rw[hc] at this;simpa using XI this)
 have hlen:(madeCells z.cells (m*i.size)).size=m*I.size:=by rw[size_madeCells,hT.size]
 have hpre:=Pre.newRow (a:=a) hI (vs:=madeCells z.cells (m*i.size)) (ty:=e) (sz:=I.size) (k:=m*I.size) (es:=List.replicate m (vM I)) (cap:=m) hpos hone (by simp) (by simp) (by rw[hlen]; exact bW _) (fun x hx=>by rw[(List.mem_replicate.1 hx).2]; exact hz) (by
  refine Ae fun j p hj => ?_
  obtain ⟨hjm,rfl⟩:j<m/\p=vM I:=by have h1:=jq hj;have h2:=(eP.1 hj).1;exact ⟨by simpa using h2,(List.mem_replicate.1 h1).2⟩
  have hcell:∀ k v,z.cells.toList[k]? = some v->laid M w.heap.size ((madeCells z.cells (m*i.size)).toList.take (m*I.size)) w.heap.size (0+j*I.size+k)=some v:=fun k v hv=>by
   have hk:=(eP.1 hv).1;have hlt:j*I.size+k<m*I.size:=by have:(j+1)*I.size<=m*I.size:=vT _ hjm;rw[Ej] at this; omega
   rw[yO (yP hI),aJ rfl,iO,aJ (by omega),hc,kW,<- hsz,aUF hjm hk]; exact hv
  cases hag:I.agg with
  | true =>
   have e1:vM I = .agg (I.zero.map PV.un):=by simp[vM,hag]
   rw[e1];refine zV.2 (H5 fun k q hq => ?_);rw[hT.TT,iU,iU] at hq;cases hv:z.cells.toList[k]? with
   | none=>simp[hv] at hq
   | some v =>simp[hv] at hq; subst hq;exact ⟨v,hcell k v hv,nU.2 (IY (hT.one v (by simpa using jq hv)))⟩
  | false =>
   have e1:vM I=match I.zero with | [p]=>p.un | _ => .nilp:=by simp[vM,hag]
   rw[hT.TT] at e1;cases hzl:z.cells.toList with
   | nil=>rw[hzl] at hsz; simp at hsz; omega
   | cons v r =>
    cases r with
    | nil =>
     rw[hzl] at e1;simp only[qm,QC] at e1;have hv:z.cells.toList[0]? = some v:=by rw[hzl]; rfl
     have ho:v.oneCell'=true:=hT.one v (by simpa using jq hv);have hrep:Rep (laid M w.heap.size ((madeCells z.cells (m*i.size)).toList.take (m*I.size))) [] (vM I) v:=by rw[e1]; exact nU.2 (IY ho)
     have hno:(vM I).one=true:=by rw[e1,aAW];unfold mP; split<;>first | rfl | (split<;>rfl)
     exact (Bq hno).2 ⟨v,by have:=hcell 0 v hv; simpa using this,hrep⟩
    | cons v2 r2 =>rw[hzl] at e1;simp only[qm] at e1;rw[hzl] at hsz;rw[e1] at hz;simp[PV.size] at hz hsz;omega)
 simp only[List.length_replicate] at hpre;exact ⟨_,hpre⟩
theorem aUG (hI:Inv n M B out Z a.tmps w) {P:Program} {t ty e:TypeId} {I:TI} {i:TypeInfo} {z:Value} {d:TypeDesc} (hu:P.underlying t=some (.slice e)) (hT:qy P e I i z d) {j off m:Nat} {cs:bSH} {v:Value} (hv:Rep M B (.slh j off m I.size) v) (hcs:Z.h[j]? = some (some cs)) (hlen:off+m*I.size<=cs.length) :
 ∃ w',(Builtin.clear_ #[t] ty #[v]).run P w = .ok (.tuple #[]) w'/\Good n out M B Z a.tmps w M B { Z with h:=Z.h.set j (some (cs.take off ++ (wo m I).map PV.un ++ cs.drop (off+m*I.size))) } a.tmps w':=by
 obtain ⟨c,cap,⟨hc,hcm⟩,rfl,_,_⟩:=tH.1 hv;have hzl:=a1G z.cells m (m*z.cells.size) rfl;have hlist:(Builtin.zeroCells z.cells m).toList=(List.replicate m z.cells.toList).flatten:=by rw[<- hzl]; rfl
 have hr:bC M B ((wo m I).map PV.un) ((List.replicate m z.cells.toList).flatten):=by rw[aB1 hT];refine Ia (IZ (by simp) fun k p u hp hu => ?_);rw[iU,hu] at hp;simp at hp; subst hp;exact IY (hT.one u (by simpa using XI (jq hu)))
 obtain ⟨w',h1,h2⟩:=Zo (P:=P) hc hcm (off:=off) ((wo m I).map PV.un) _ 0 cs Z w hI hcs hr (fun d hd=>by obtain ⟨x,_,rfl⟩:=qL.1 hd; exact qI x) (fun u hu=>hT.one u (by simpa using XI hu)) (by rw[bM,aB0 hT]; omega);simp only[Ei,bM,aB0 hT] at h2;cases m with
 | zero =>
  have e1:((List.replicate 0 z.cells.toList).flatten) = []:=rfl;rw[e1] at h1;have:w=w':=by simpa[storeCells] using h1
  subst this;exact ⟨w,by simp[Builtin.clear_,ed hu],h2⟩
 | succ m =>refine ⟨w',?_,h2⟩;simp[Builtin.clear_,ed hu,zeroValue,typeInfo,hT.info,hT.zero,hlist,h1]
theorem aUQ {t:Array Value} (hI:Inv n M B out Z t w) {P:Program} {sz m:Nat} {p:PV} {cells:bSH} (h:Dl Z sz p=some (m,cells)) {v:Value} (hr:Rep M B p v) (hpos:0<sz) :
 ∃ vs:List Value,vs.length=m*sz/\bC M B cells vs/\(∀ q,q∈cells->q.own=false)/\(∀ u,u∈vs->u.oneCell'=true)/\(Builtin.lenOf v).run P w = .ok m w/\∀ k,k<=m->(Builtin.firstCells sz k v).run P w = .ok (vs.take (k*sz)).toArray w:=by
 unfold Dl at h;split at h
 .rename_i o sz' es;split at h
  .rename_i hs;cases h;simp only[y9] at hs;have hs:sz'=sz\/sz'=0:=hs.imp (fun e=>lm e) fun e=>lm e
   obtain ⟨A,cap,rfl,hle,hss,hz,hA⟩:=jW.1 hr;have hs2:∀ p,p∈es->p.size=sz:=fun p hp=>by
    rcases hs with h | h
    .rw[<- h]; exact hss p hp
    .rw[(hz h).1] at hp; simp at hp
   cases A with
   | none =>
    have:es = []:=by
     rcases es with _ | ⟨e,es⟩
     .rfl
     .obtain ⟨_,_,h,_⟩:=hA (by simp); cases h
    subst this;exact ⟨[],by simp,eu.2 rfl,by simp[dW],by simp,by simp[Builtin.lenOf],fun k hk=>by simp[Builtin.firstCells]⟩
   | some x =>
    by_cases hcc:es = []
    .subst hcc;exact ⟨[],by simp,eu.2 rfl,by simp[dW],by simp,by simp[Builtin.lenOf],fun k hk=>by
      have:k=0:=by simpa using hk
      subst this;simpa using VU (P:=P) w sz 0 x 0 cap [] (by simp) (fun j v hv=>by simp at hv)⟩
    obtain ⟨b,off,hx,hl⟩:=hA hcc;cases hx;have hl:jr M [] sz es b off:=by
     rcases hs with h | h
     .rw[<- h]; exact hl
     .exact absurd (hz h).1 hcc
    obtain ⟨vs,h1,h2⟩:=Wh (H5 (ps:=dW es) (o:=off) fun j p hj=>a6A hl hs2 hj);have hlen:vs.length=es.length*sz:=by rw[<- qH h1,XH hs2]
    refine ⟨vs,hlen,h1.mono (dJ.zero _ _),fun q hq=>flat_get hq,fun u hu => ?_,by simp[Builtin.lenOf],fun k hk => ?_⟩
    .obtain ⟨j,hj⟩:=DI.1 hu;exact (hI.mem _ _ _ (h2 j u hj)).2
    .have hkl:k*sz<=es.length*sz:=vT _ hk;refine VU (P:=P) w sz k ⟨b,off,none⟩ es.length cap _ (by rw[nY]; omega) fun j v hv => ?_
     rw[iO] at hv;split at hv
     .rw[add_lit]; exact (hI.mem _ _ _ (h2 j v hv)).1
     .cases hv
  .cases h
 .rename_i j off m' sz';split at h
  .rename_i cs hcs;split at h
   .rename_i hc;obtain ⟨rfl,hfit⟩:=hc;cases h;obtain ⟨c,cap,⟨hc,hcm⟩,rfl,hle,hcap⟩:=tH.1 hr;obtain ⟨vs,ty,r1,o2,o3,o4,o5⟩:=hI.heap.at hcs hc;obtain ⟨ty,rfl,o1⟩:=ER r1 (by rw[o2.2]; exact hcm);have hget:∀ (i:Nat) u,((vs.toList.drop off).take (m*sz'))[i]? = some u->i<m*sz'/\vs[off+i]? = some u:=fun i u hu=>by
     rw[iO] at hu;split at hu
     .rename_i hi; rw[GZ] at hu; exact ⟨hi,by simpa using hu⟩
     .cases hu
    have hvl:((vs.toList.drop off).take (m*sz')).length=m*sz':=by simp; omega
    refine ⟨(vs.toList.drop off).take (m*sz'),hvl,Ia (IZ (by rw[hvl]; simp; omega) fun i p u hp hu => ?_),fun q hq=>by obtain ⟨x,_,rfl⟩:=qL.1 hq; exact qI x,fun u hu => ?_,by simp[Builtin.lenOf],fun k hk => ?_⟩
    .obtain ⟨hi,hu⟩:=hget i u hu;rw[iO,aJ hi,GZ] at hp;obtain ⟨u',a1,a2,_⟩:=o4 _ p hp;rw[hu] at a1; cases a1; exact a2
    .obtain ⟨i,hi⟩:=DI.1 hu;obtain ⟨hil,hi⟩:=hget i u hi;obtain ⟨u',a1,_,_,a4⟩:=o4 (off+i) _ (iM (by omega:off+i<cs.length));rw[hi] at a1; cases a1; exact a4
    .have hkl:k*sz'<=m*sz':=vT _ hk;refine VU (P:=P) w sz' k ⟨c.1,off,none⟩ m cap _ (by rw[nY,hvl]; omega) fun j v hv => ?_
     rw[iO] at hv;split at hv
     .obtain ⟨_,hv⟩:=hget j v hv;rw[add_lit];simp[World.cell?,o1,hv]
     .cases hv
   .cases h
  .cases h
 .cases h
theorem aUR (hI:Inv n M B out Z a.tmps w) {P:Program} {t u ty e:TypeId} {I:TI} {i:TypeInfo} {z:Value} {d:TypeDesc} (hu:P.underlying t=some (.slice e)) (hT:qy P e I i z d) {j off m m2:Nat} {cs cells:bSH} {v x:Value} {px:PV} (hv:Rep M B (.slh j off m I.size) v) (hcs:Z.h[j]? = some (some cs)) (hlen:off+m*I.size<=cs.length)
 (hx:Rep M B px x) (hsrc:Dl Z I.size px=some (m2,cells)) (hpos:0<I.size) :
 ∃ w',(Builtin.copy_ #[t,u] ty #[v,x]).run P w = .ok (.int .i64 ((Nat.min m2 m:Nat):Int)) w'/\Good n out M B Z a.tmps w M B { Z with h:=Z.h.set j (some (cs.take off ++ cells.take (Nat.min m2 m*I.size) ++ cs.drop (off+Nat.min m2 m*I.size))) } a.tmps w':=by
 obtain ⟨c,cap,⟨hc,hcm⟩,rfl,_,_⟩:=tH.1 hv;obtain ⟨vs,h1,h2,h3,h4,h5,h6⟩:=aUQ (P:=P) hI hsrc hx hpos;have hk1:Nat.min m2 m<=m2:=Nat.min_le_left _ _;have hk2:Nat.min m2 m<=m:=Nat.min_le_right _ _;have hk3:Nat.min m2 m*I.size<=m2*I.size:=vT _ hk1;have hk4:Nat.min m2 m*I.size<=m*I.size:=vT _ hk2;have hcl:cells.length=m2*I.size:=by rw[qH h2,h1]
 have hlt:(cells.take (Nat.min m2 m*I.size)).length=Nat.min m2 m*I.size:=by rw[nY]; omega
 obtain ⟨w',g1,g2⟩:=Zo (P:=P) hc hcm (off:=off) (cells.take (Nat.min m2 m*I.size)) (vs.take (Nat.min m2 m*I.size)) 0 cs Z w hI hcs (aOP h2 _) (fun d hd=>h3 d (QD hd)) (fun u hu=>h4 u (QD hu)) (by rw[hlt]; omega);simp only[Ei,hlt] at g2;refine ⟨w',?_,g2⟩;have h7:=h6 _ hk1;simp[Builtin.copy_,ed hu,h5,hT.run_sizeOf w,h7,g1,goInt]
end
section
variable {n:Nat} {out:Nat->Nat} {M:Mem} {B:aV} {Z:ASt} {a:Act} {w:World} {E:AE}
theorem aMG {P:Program} {t:TypeId} {s:Option IntKind} {z:PV} (h:CB P t=some (s,z)):∃ k e zv i d,P.underlying t=some (.map k e)/\P.underlying k=some d/\(match s with | none=>d = .string | some kd=>d = .int kd)/\P.info? e=some i/\i.zero=some zv/\z=zeroOf zv/\VK zv=true:=by
 unfold CB at h;split at h
 .rename_i k e hu;split at h
  .rename_i s' zv hk hz;split at h
   .rename_i hok;cases h;cases hi:P.info? e with
    | none=>simp[hi] at hz
    | some i =>
     simp[hi] at hz;unfold aKU at hk;split at hk
     .rename_i hd; cases hk; exact ⟨k,e,zv,i,_,hu,hd,rfl,hi,hz,rfl,hok⟩
     .rename_i kd hd; cases hk; exact ⟨k,e,zv,i,_,hu,hd,rfl,hi,hz,rfl,hok⟩
     .cases hk
   .cases h
  .cases h
 .cases h
theorem bKN {z:Value} (h:VK z=true):Rep M B (zeroOf z) z/\(zeroOf z).own=false:=by
 have key:∀ v:Value,v.oneCell'=true->Rep M B (mP v).un v/\((mP v).un).own=false:=fun v hv=>⟨nU.2 (IY hv),qI _⟩
 cases z with
 | agg cs =>
  have h2:∀ v,v∈(Value.agg cs).cells->v.oneCell'=true:=fun v hv=>by simp only[VK,iC] at h;exact h v (by simpa[Value.cells] using hv)
  exact ⟨qG.2 ⟨cs,rfl,aRB (z := .agg cs) h2⟩,rfl⟩
 | tuple cs=>simp[VK,Value.oneCell'] at h
 | _=>simp only[zeroOf]; exact key _ rfl
theorem aKV {s:Option IntKind} {d:TypeDesc} (hd:match s with | none=>d = .string | some kd=>d = .int kd) {q:PV} (hq:yM s q=true) {v:Value} (hr:Rep M B q v):MapKept.IsKey d v:=by
 unfold yM at hq;split at hq
 .have hq:=qo hq;simp only at hd;subst hd; subst hq;rw[dS.1 hr]; simp[MapKept.IsKey]
 .simp only at hd;subst hd;rw[iT.1 hr]; simp[MapKept.IsKey]
 .cases hq
theorem Wu {s:Option IntKind} {d:TypeDesc} (hd:match s with | none=>d = .string | some kd=>d = .int kd) {q k:PV} {r:Bool} (h:eqK s q k=some r) {u v:Value} (hu:Rep M B q u) (hv:Rep M B k v):Instr.sameNow d u v=some r/\(r=true->u=v):=by
 unfold eqK at h;split at h
 .split at h
  .rename_i hk;cases h;simp only[au,iy] at hk;obtain ⟨rfl,rfl⟩:=hk;simp only at hd;subst hd;rw[dS.1 hu,dS.1 hv];exact ⟨by simp[Instr.sameNow],fun e=>by congr 1; simpa using e⟩
  .cases h
 .rename_i x y;cases h;simp only at hd;subst hd;rw[iT.1 hu,iT.1 hv];have e:(x==y)=(x.data.toList==y.data.toList):=by
   rw[Q5,a0C,oN];constructor
   .rintro rfl; rfl
   .intro h; cases x; cases y; simp only at h; congr 1; exact Q3 h
  refine ⟨by rw[Instr.sameNow,e],fun h2 => ?_⟩;rw[<- e] at h2;rw[(a0C x y).1 h2]
 .cases h
theorem XF (e:MapEntry) (es:List MapEntry):uj (e::es)=e.key::e.val::uj es:=rfl
theorem aI' {s:Option IntKind} {d:TypeDesc} (hd:match s with | none=>d = .string | some kd=>d = .int kd) {q:PV} {u:Value} (hu:Rep M B q u):∀ {L:bSH} {es:List MapEntry} {r:Option PV} (i:Nat),bC M B L (uj es)->xY s L q=some r ->
 (r=none/\Instr.findNow d u es i=some none)\/∃ (p:PV) (j:Nat) (e:MapEntry),r=some p/\Instr.findNow d u es i=some (some (i+j,e.val))/\Rep M B p e.val
 | L,[],r,i,h,hg=>by
  have:L = []:=by cases L with | nil=>rfl | cons p L=>obtain ⟨_,_,e,_⟩:=dD.1 h; cases e
  subst this;simp[xY] at hg; subst hg;exact .inl ⟨rfl,rfl⟩
 | L,e::es,r,i,h,hg=>by
  rw[XF] at h;match L,h with
  | k::v::L,h =>
   obtain ⟨a,l1,e1,rk,h⟩:=dD.1 h;injection e1 with e1 e2; subst e1; subst e2
   obtain ⟨b,l2,e1,rv,h⟩:=dD.1 h;injection e1 with e1 e2; subst e1; subst e2
   rw[xY] at hg;split at hg
   .rename_i he;cases hg;obtain ⟨h1,_⟩:=Wu hd he hu rk;exact .inr ⟨v,0,e,rfl,by simp[Instr.findNow,h1],rv⟩
   .rename_i he;obtain ⟨h1,_⟩:=Wu hd he hu rk;rcases aI' hd hu (i+1) h hg with ⟨g1,g2⟩ | ⟨p,j,e',g1,g2,g3⟩
    .exact .inl ⟨g1,by simp[Instr.findNow,h1,g2]⟩
    .exact .inr ⟨p,j+1,e',g1,by simp[Instr.findNow,h1,g2]; omega,g3⟩
   .cases hg
  | [],h=>rw[eu] at h; cases h
  | [p],h=>obtain ⟨_,_,e1,_,h⟩:=dD.1 h; rw[eu] at h; subst h; cases e1
def fv (d:TypeDesc) (u:Value):List MapEntry->Option (Option Value)
 | []=>some none
 | e::es=>match Instr.sameNow d u e.key with
  | some true=>some (some e.val)
  | some false=>fv d u es
  | none=>none
theorem XD {d:TypeDesc} {u:Value}:∀ (es:List MapEntry) (i:Nat),(Instr.findNow d u es i).map (fun o=>o.map (·.2))=fv d u es
 | [],i=>rfl
 | e::es,i=>by
  simp only[Instr.findNow,fv];cases Instr.sameNow d u e.key with
  | none=>rfl
  | some b=>cases b with
   | true=>rfl
   | false=>exact XD es (i+1)
theorem Rw {d:TypeDesc} {u:Value} (r:List MapEntry):∀ (l:List MapEntry),fv d u (l ++ r)=match fv d u l with | some none=>fv d u r | x=>x
 | []=>rfl
 | e::l=>by
  rw[lM];simp only[fv];cases Instr.sameNow d u e.key with
  | none=>rfl
  | some b=>cases b with
   | true=>rfl
   | false=>exact Rw r l
theorem a9L {u k:ByteArray}:Instr.sameNow .string (.string u) (.string k)=some (u.data.toList==k.data.toList):=by
 simp only[Instr.sameNow,zA];rw[Q5,a0C,oN];constructor
 .rintro rfl; rfl
 .intro h; cases u; cases k; simp only at h; congr 1; exact Q3 h
theorem TN (e x:MapEntry) (l:List MapEntry):uB e (x::l)=if TW e.key x.key then e::x::l else x::uB e l:=rfl
def Bi (d:TypeDesc) (u:Value):Prop:=(d = .string/\sV u=true)\/((∃ kd,d = .int kd)/\sV u=false)
theorem aKX {s:Option IntKind} {d:TypeDesc} (hd:match s with | none=>d = .string | some kd=>d = .int kd) {q:PV} {u:Value} (hq:yM s q=true) (hu:Rep M B q u):Bi d u:=by
 unfold yM at hq;split at hq
 .rw[dS.1 hu]; exact .inr ⟨⟨_,hd⟩,rfl⟩
 .rw[iT.1 hu]; exact .inl ⟨hd,rfl⟩
 .cases hq
theorem FH {u:Value} (h:sV u=true):∃ a,u = .string a:=by cases u<;>first | exact ⟨_,rfl⟩ | (simp[sV] at h)
theorem a9K {d:TypeDesc} {u k:Value} {kd:IntKind} (hd:d = .int kd) (hk:sV k=true):Instr.sameNow d u k=none:=by subst hd; obtain ⟨a,rfl⟩:=FH hk; cases u<;>rfl
theorem aEW {d:TypeDesc} {u:Value} (hd:Bi d u) {e:MapEntry} (he:sV e.key=true):∀ {l:List MapEntry},(l.all fun x=>sV x.key)=true->(l.any fun x=>G8 e.key x.key)=false->fv d u (uB e l)=fv d u (l ++ [e])
 | [],_,_=>rfl
 | x::l,h1,h2=>by
  simp only[vN,au] at h1;simp only[DD,Ld] at h2;unfold uB;rcases hd with ⟨rfl,hu⟩ | ⟨⟨kd,rfl⟩,hu⟩
  .obtain ⟨a,rfl⟩:=FH hu;obtain ⟨b,hb⟩:=FH he;split
   ·
    have key:∀ {l:List MapEntry},(l.all fun x=>sV x.key)=true->(l.any fun x=>G8 e.key x.key)=false->fv .string (.string a) (e::l)=fv .string (.string a) (l ++ [e]):=fun {l} k1 k2=>by
     rw[Rw];simp only[fv,hb,a9L];by_cases hab:a.data.toList=b.data.toList
     .have hn:fv .string (.string a) l=some none:=by
       clear h1 h2;induction l with
       | nil=>rfl
       | cons y l ih =>simp only[vN,au] at k1;simp only[DD,Ld] at k2;obtain ⟨c,hc⟩:=FH k1.1;have k3:=k2.1;rw[hb,hc] at k3;simp only[G8,vU,ne_eq] at k3;simp only[fv,hc,a9L];rw[show (a.data.toList==c.data.toList)=false by rw[vU,hab]; exact k3];exact ih k1.2 k2.2
      rw[hn,show (a.data.toList==b.data.toList)=true by simp[hab]]
     .rw[show (a.data.toList==b.data.toList)=false from vU.2 hab];cases fv .string (.string a) l with
      | none=>rfl
      | some o=>cases o<;>rfl
    exact key (l:=x::l) (by simp only[vN,au]; exact h1) (by simp only[DD,Ld]; exact h2)
   .rw[lM];simp only[fv];rw[aEW (.inl ⟨rfl,rfl⟩) he h1.2 h2.2]
  .have hx:Instr.sameNow (.int kd) u x.key=none:=a9K rfl h1.1;have Jn:Instr.sameNow (.int kd) u e.key=none:=a9K rfl he;split
   .rw[lM]; simp only[fv,hx,Jn]
   .rw[lM]; simp only[fv,hx]
theorem aSF {d:TypeDesc} {u:Value} (hd:Bi d u) (l:List MapEntry) (e:MapEntry):fv d u (Gt l e)=fv d u (l ++ [e]):=by
 unfold Gt;split
 .rename_i h;simp only[au,y8] at h;exact aEW hd h.1.1 h.1.2 h.2
 .rfl
theorem foldl_snoc (es:List MapEntry) (e:MapEntry):pg (es ++ [e])=Gt (pg es) e:=by unfold pg; rw[a07]; rfl
theorem aQ2 {P:List MapEntry->Prop} (h0:P []) (h1:∀ l e,P l->P (l ++ [e])) (l:List MapEntry):P l:=by
 have:∀ l:List MapEntry,P l.reverse:=fun l=>by
  induction l with
  | nil=>exact h0
  | cons e l ih=>rw[List.reverse_cons]; exact h1 _ _ ih
 have h:=this l.reverse;rwa [List.reverse_reverse] at h
theorem WY {d:TypeDesc} {u:Value} (hd:Bi d u) (es:List MapEntry):fv d u (pg es)=fv d u es:=by refine aQ2 (P:=fun es=>fv d u (pg es)=fv d u es) rfl (fun l e ih => ?_) es;rw[foldl_snoc,aSF hd,Rw,Rw,ih]
theorem bBN {s:Option IntKind} {d:TypeDesc} (hd:match s with | none=>d = .string | some kd=>d = .int kd) {q:PV} {u:Value} (hkd:Bi d u) (hu:Rep M B q u) {L:bSH} {es:List MapEntry} {r:Option PV} (i:Nat) (h:bC M B L (uj (pg es))) (hg:xY s L q=some r) :
 (r=none/\Instr.findNow d u es i=some none)\/∃ (p:PV) (j:Nat) (v:Value),r=some p/\Instr.findNow d u es i=some (some (j,v))/\Rep M B p v:=by
 have e:=WY hkd es;rw[<- XD es i,<- XD (pg es) 0] at e;rcases aI' hd hu 0 h hg with ⟨h1,h2⟩ | ⟨p,j,e',h1,h2,h3⟩
 .rw[h2] at e;refine .inl ⟨h1,?_⟩;cases hf:Instr.findNow d u es i with
  | none=>rw[hf] at e; cases e
  | some o=>cases o with
   | none=>rfl
   | some x=>rw[hf] at e; cases e
 .rw[h2] at e;cases hf:Instr.findNow d u es i with
  | none=>rw[hf] at e; cases e
  | some o=>cases o with
   | none=>rw[hf] at e; cases e
   | some x =>rw[hf] at e;simp only[sD,zA] at e;refine .inr ⟨p,x.1,x.2,h1,rfl,?_⟩;rw[<- e]; exact h3
def kT (d:TypeDesc) (u y:Value):List MapEntry->List MapEntry
 | [] => []
 | e::es=>match Instr.sameNow d u e.key with
  | some true => { e with key:=u,val:=y }::es
  | _=>e::kT d u y es
theorem aMT {d:TypeDesc} {u y:Value}:∀ (es:List MapEntry) (i j:Nat) (v:Value),Instr.findNow d u es i=some (some (i+j,v))->es.modify j (fun e => { e with key:=u,val:=y })=kT d u y es/\∃ e,es[j]? = some e/\Instr.sameNow d u e.key=some true
 | [],i,j,v,h=>by cases h
 | e::es,i,j,v,h=>by
  simp only[Instr.findNow] at h;cases hs:Instr.sameNow d u e.key with
  | none=>rw[hs] at h; cases h
  | some b =>
   rw[hs] at h;cases b with
   | true =>
    simp only[zA,Prod.mk.injEq] at h;have hj:j=0:=by omega
    subst hj;refine ⟨?_,e,rfl,hs⟩;simp only[kT,hs];rfl
   | false =>
    have hle:∀ (es:List MapEntry) (i k:Nat) (v:Value),Instr.findNow d u es i=some (some (k,v))->i<=k:=by
     intro es;induction es with
     | nil=>intro i k v h; cases h
     | cons x es ih =>
      intro i k v h;simp only[Instr.findNow] at h;cases hx:Instr.sameNow d u x.key with
      | none=>rw[hx] at h; cases h
      | some b=>rw[hx] at h; cases b with
       | true=>simp only[zA,Prod.mk.injEq] at h; omega
       | false=>have:=ih (i+1) k v h; omega
    have:=hle es (i+1) (i+j) v h;obtain ⟨j',rfl⟩:∃ j',j=j'+1:=⟨j-1,by omega⟩;obtain ⟨h1,e',h2,h3⟩:=aMT es (i+1) j' v (by rw[show i+1+j'=i+(j'+1) by omega]; exact h);refine ⟨?_,e',by simpa using h2,h3⟩;simp only[kT,hs];rw[<- h1]; rfl
theorem a6E (d:TypeDesc) (u y:Value) (f:Value->Bool) (hf:∀ k,Instr.sameNow d u k=some true->f u=f k):∀ (l:List MapEntry),((kT d u y l).all fun x=>f x.key)=(l.all fun x=>f x.key)/\((kT d u y l).any fun x=>f x.key)=(l.any fun x=>f x.key)
 | []=>⟨rfl,rfl⟩
 | e::l=>by
  obtain ⟨h1,h2⟩:=a6E d u y f hf l;simp only[kT];split
  .rename_i hs;rw[vN,DD,vN,DD,hf e.key hs];exact ⟨rfl,rfl⟩
  .rw[vN,DD,vN,DD,h1,h2];exact ⟨rfl,rfl⟩
theorem same_eq {d:TypeDesc} {u k:Value} (hd:Bi d u) (h:Instr.sameNow d u k=some true):u=k:=by
 rcases hd with ⟨rfl,hu⟩ | ⟨⟨kd,rfl⟩,hu⟩
 .obtain ⟨a,rfl⟩:=FH hu;cases k<;>simp only[Instr.sameNow,zA,reduceCtorEq] at h
  exact congrArg _ ((a0C _ _).1 h)
 .cases u<;>cases k<;>simp only[Instr.sameNow,reduceCtorEq] at h
  split at h
  .rename_i hk;simp only[zA,oN] at h;rw[hk,h]
  .cases h
theorem a6F {d:TypeDesc} {u y:Value} (r:List MapEntry):∀ {l:List MapEntry} {v:Value},fv d u l=some (some v)->kT d u y (l ++ r)=kT d u y l ++ r
 | [],v,h=>by cases h
 | e::l,v,h=>by
  rw[lM];simp only[fv] at h;simp only[kT];cases hs:Instr.sameNow d u e.key with
  | none=>rw[hs] at h; cases h
  | some b=>rw[hs] at h; cases b with
   | true=>rfl
   | false=>simp only[a6F r (l:=l) h,lM]
theorem a6G {d:TypeDesc} {u y:Value} {r:List MapEntry}:∀ {l:List MapEntry},fv d u l=some none->kT d u y (l ++ r)=l ++ kT d u y r
 | [],h=>rfl
 | e::l,h=>by
  rw[lM];simp only[fv] at h;simp only[kT];cases hs:Instr.sameNow d u e.key with
  | none=>rw[hs] at h; cases h
  | some b=>rw[hs] at h; cases b with
   | true=>cases h
   | false=>simp only[a6G (l:=l) h,lM]
theorem aMN {d:TypeDesc} {u y:Value} (hd:Bi d u) {e:MapEntry} (hs:Instr.sameNow d u e.key=some false):∀ {l:List MapEntry},kT d u y (uB e l)=uB e (kT d u y l)
 | []=>by simp only[uB,kT,hs]
 | x::l=>by
  rw[TN];split
  .rename_i hlt;simp only[kT,hs];split
   .rename_i hx;rw[same_eq hd hx,TN,aJ hlt]
   .rw[TN,aJ hlt]
  .rename_i hlt;simp only[kT];split
   .rename_i hx;rw[same_eq hd hx,TN,aK hlt]
   .rw[aMN hd hs,TN,aK hlt]
theorem aMO {d:TypeDesc} {u y:Value} (hd:Bi d u) {e:MapEntry} (hs:Instr.sameNow d u e.key=some true):∀ {l:List MapEntry},fv d u l=some none->kT d u y (uB e l)=uB { e with key:=u,val:=y } l
 | [],_=>by simp only[uB,kT,hs]
 | x::l,h=>by
  simp only[fv] at h;unfold uB;split
  .rename_i hlt;rw[same_eq hd hs,aJ hlt];simp only[kT,show Instr.sameNow d e.key e.key=some true by rw[same_eq hd hs] at hs; exact hs]
  .rename_i hlt;cases hx:Instr.sameNow d u x.key with
   | none=>rw[hx] at h; cases h
   | some b=>rw[hx] at h; cases b with
    | true=>cases h
    | false =>simp only[kT,hx];rw[aMO hd hs h,same_eq hd hs,aK hlt]
theorem aU9 {d:TypeDesc} {u y:Value} (hd:Bi d u) (es:List MapEntry):∀ v,fv d u es=some (some v)->pg (kT d u y es)=kT d u y (pg es):=by
 refine aQ2 (P:=fun es=>∀ v,fv d u es=some (some v)->pg (kT d u y es)=kT d u y (pg es)) (fun v h=>by cases h) (fun l e ih v h => ?_) es;have hk:∀ k,Instr.sameNow d u k=some true->sV u=sV k:=fun k hk=>by rw[same_eq hd hk]
 have hq:∀ (q:Value) k,Instr.sameNow d u k=some true->G8 q u=G8 q k:=fun q k hk=>by rw[same_eq hd hk]
 rw[Rw] at h;cases hl:fv d u l with
 | none=>rw[hl] at h; cases h
 | some o =>
  cases o with
  | some x =>
   rw[a6F [e] hl,foldl_snoc,foldl_snoc,ih x hl];have hc:fv d u (pg l)=some (some x):=by rw[WY hd,hl]
   unfold Gt;rw[(a6E d u y sV hk (pg l)).1,(a6E d u y (G8 e.key) (hq e.key) (pg l)).2];split
   .rename_i hcond;simp only[au,y8] at hcond;refine (aMN hd ?_).symm;cases hs:Instr.sameNow d u e.key with
    | none =>
     exfalso;rcases hd with ⟨rfl,hu⟩ | ⟨⟨kd,rfl⟩,hu⟩
     .obtain ⟨a,rfl⟩:=FH hu;obtain ⟨b,hb⟩:=FH hcond.1.1;rw[hb] at hs; cases hs
     ·
      have:∀ {l:List MapEntry},(l.all fun x=>sV x.key)=true->∀ v,fv (.int kd) u l≠some (some v):=fun {l} h1 v h2=>by
       cases l with
       | nil=>cases h2
       | cons z l =>simp only[vN,au] at h1;simp only[fv,a9K (d := .int kd) (u:=u) rfl h1.1] at h2;cases h2
      exact this hcond.1.2 _ hc
    | some b =>
     cases b with
     | false=>rfl
     | true =>
      exfalso;have hue:=same_eq hd hs;have:∀ {l:List MapEntry} {v:Value},fv d u l=some (some v)->(l.any fun x=>G8 e.key x.key)=false->sV e.key=true->False:=fun {l v}=>by
       induction l with
       | nil=>intro h; cases h
       | cons z l ih =>
        intro h1 h2 h3;simp only[DD,Ld] at h2;simp only[fv] at h1;cases hz:Instr.sameNow d u z.key with
        | none=>rw[hz] at h1; cases h1
        | some b=>rw[hz] at h1; cases b with
         | false=>exact ih h1 h2.2 h3
         | true =>have:=same_eq hd hz;obtain ⟨b,hb⟩:=FH h3;have h4:=h2.1;rw[<- this,hue,hb] at h4;simp[G8] at h4
      exact this hc hcond.2 hcond.1.1
   .exact (a6F [e] hc).symm
  | none =>
   rw[hl] at h;simp only[fv] at h;have hc:fv d u (pg l)=some none:=by rw[WY hd,hl]
   cases hs:Instr.sameNow d u e.key with
   | none=>rw[hs] at h; cases h
   | some b=>rw[hs] at h; cases b with
    | false=>cases h
    | true =>
     rw[a6G hl,foldl_snoc];simp only[kT,hs];rw[foldl_snoc];have hue:=same_eq hd hs;unfold Gt;simp only[hue];split
     .have:=aMO (y:=y) hd hs hc;rw[hue] at this;exact this.symm
     .have:=a6G (y:=y) (r := [e]) hc;rw[hue] at hs this;rw[this];simp only[kT,hs]
theorem aJF {s:Option IntKind} {d:TypeDesc} (hd:match s with | none=>d = .string | some kd=>d = .int kd) {q:PV} {u:Value} (hu:Rep M B q u):∀ {L:bSH} {es:List MapEntry},bC M B L (uj es)->qB s L q=true ->
 (qX s L q=true/\∃ v,fv d u es=some (some v))\/(qX s L q=false/\fv d u es=some none)
 | L,[],h,hg=>by
  have:L = []:=by cases L with | nil=>rfl | cons p L=>obtain ⟨_,_,e,_⟩:=dD.1 h; cases e
  subst this;exact .inr ⟨rfl,rfl⟩
 | L,e::es,h,hg=>by
  rw[XF] at h;match L,h with
  | k::v::L,h =>
   obtain ⟨a,l1,e1,rk,h⟩:=dD.1 h;injection e1 with e1 e2; subst e1; subst e2
   obtain ⟨b,l2,e1,rv,h⟩:=dD.1 h;injection e1 with e1 e2; subst e1; subst e2
   rw[qB,au] at hg;obtain ⟨hg1,hg⟩:=hg;cases he:eqK s q k with
   | none=>rw[he] at hg1; cases hg1
   | some r =>
    obtain ⟨h1,h2⟩:=Wu hd he hu rk;cases r with
    | true=>exact .inl ⟨by simp only[qX,he],e.val,by simp only[fv,h1]⟩
    | false =>simp only[qX,he,fv,h1];exact aJF hd hu h hg
  | [],h=>rw[eu] at h; cases h
  | [p],h=>obtain ⟨_,_,e1,_,h⟩:=dD.1 h; rw[eu] at h; subst h; cases e1
theorem aMS {s:Option IntKind} {d:TypeDesc} (hd:match s with | none=>d = .string | some kd=>d = .int kd) {q x:PV} {u y:Value} (hu:Rep M B q u) (hy:Rep M B x y):∀ {L:bSH} {es:List MapEntry},bC M B L (uj es)->qB s L q=true ->
 bC M B (mg s L q x) (uj (kT d u y es))
 | L,[],h,hg=>by
  have:L = []:=by cases L with | nil=>rfl | cons p L=>obtain ⟨_,_,e,_⟩:=dD.1 h; cases e
  subst this;exact h
 | L,e::es,h,hg=>by
  rw[XF] at h;match L,h with
  | k::v::L,h =>
   obtain ⟨a,l1,e1,rk,h⟩:=dD.1 h;injection e1 with e1 e2; subst e1; subst e2
   obtain ⟨b,l2,e1,rv,h⟩:=dD.1 h;injection e1 with e1 e2; subst e1; subst e2
   rw[qB,au] at hg;obtain ⟨hg1,hg⟩:=hg;cases he:eqK s q k with
   | none=>rw[he] at hg1; cases hg1
   | some r =>
    obtain ⟨h1,h2⟩:=Wu hd he hu rk;cases r with
    | true =>simp only[mg,he,kT,h1];exact dD.2 ⟨u,_,rfl,hu,dD.2 ⟨y,_,rfl,hy,h⟩⟩
    | false =>simp only[mg,he,kT,h1];exact dD.2 ⟨_,_,rfl,rk,dD.2 ⟨_,_,rfl,rv,aMS hd hu hy h hg⟩⟩
  | [],h=>rw[eu] at h; cases h
  | [p],h=>obtain ⟨_,_,e1,_,h⟩:=dD.1 h; rw[eu] at h; subst h; cases e1
theorem bGC {s:Option IntKind} {q k:PV} {u v:Value} {r:Bool} (he:eqK s q k=some r) (hu:Rep M B q u) (hv:Rep M B k v):nO q k=TW u v:=by
 unfold eqK at he;split at he
 .rw[dS.1 hu,dS.1 hv]; rfl
 .rw[iT.1 hu,iT.1 hv]; rfl
 .cases he
theorem aJZ {s:Option IntKind} {q x:PV} {e0:MapEntry} (hu:Rep M B q e0.key) (hy:Rep M B x e0.val):∀ {L:bSH} {es:List MapEntry},bC M B L (uj es)->qB s L q=true->bC M B (o8 L q x) (uj (uB e0 es))
 | L,[],h,hg=>by
  have:L = []:=by cases L with | nil=>rfl | cons p L=>obtain ⟨_,_,e,_⟩:=dD.1 h; cases e
  subst this;exact dD.2 ⟨_,_,rfl,hu,dD.2 ⟨_,_,rfl,hy,eu.2 rfl⟩⟩
 | L,e::es,h,hg=>by
  rw[XF] at h;match L,h with
  | k::v::L,h =>
   have h0:=h;obtain ⟨a,l1,e1,rk,h⟩:=dD.1 h;injection e1 with e1 e2; subst e1; subst e2
   obtain ⟨b,l2,e1,rv,h⟩:=dD.1 h;injection e1 with e1 e2; subst e1; subst e2
   rw[qB,au] at hg;obtain ⟨hg1,hg⟩:=hg;cases he:eqK s q k with
   | none=>rw[he] at hg1; cases hg1
   | some r =>
    have hlt:=bGC he hu rk;unfold uB;simp only[o8,hlt];cases TW e0.key e.key with
    | true=>exact dD.2 ⟨_,_,rfl,hu,dD.2 ⟨_,_,rfl,hy,h0⟩⟩
    | false=>exact dD.2 ⟨_,_,rfl,rk,dD.2 ⟨_,_,rfl,rv,aJZ hu hy h hg⟩⟩
  | [],h=>rw[eu] at h; cases h
  | [p],h=>obtain ⟨_,_,e1,_,h⟩:=dD.1 h; rw[eu] at h; subst h; cases e1
theorem aJV {e:MapEntry} (he:sV e.key=false):∀ l:List MapEntry,uB e l=l ++ [e]
 | []=>rfl
 | x::l=>by
  have:TW e.key x.key=false:=by cases hk:e.key<;>first | rfl | (rw[hk] at he; simp[sV] at he)
  unfold uB;rw[this,aK (by decide),aJV he l]; rfl
theorem aSG {s:Option IntKind} {d:TypeDesc} (hd:match s with | none=>d = .string | some kd=>d = .int kd) {q:PV} {e0:MapEntry} (hkd:Bi d e0.key) (hu:Rep M B q e0.key) {L:bSH} {es:List MapEntry} (h:bC M B L (uj es)) (hg:qB s L q=true) (hf:fv d e0.key es=some none):Gt es e0=uB e0 es:=by
 unfold Gt;split
 .rfl
 .rename_i hc;cases hs:sV e0.key with
  | false=>exact (aJV hs es).symm
  | true =>
   exfalso;apply hc;obtain ⟨b,hb⟩:=FH hs;have hds:d = .string:=by
    rcases hkd with ⟨h,_⟩ | ⟨_,h⟩
    .exact h
    .rw[hs] at h; cases h
   subst hds;clear hc h hg hu;rw[hb] at hf ⊢;simp only[au,y8,sV,true_and];induction es with
   | nil=>exact ⟨rfl,rfl⟩
   | cons z es ih =>
    simp only[fv] at hf;cases hz:Instr.sameNow .string (.string b) z.key with
    | none=>rw[hz] at hf; cases hf
    | some r=>rw[hz] at hf; cases r with
     | true=>cases hf
     | false =>
      obtain ⟨i1,i2⟩:=ih hf;have hzs:∃ c,z.key = .string c:=by
       cases hk:z.key<;>rw[hk] at hz<;>simp[Instr.sameNow] at hz
       exact ⟨_,rfl⟩
      obtain ⟨c,hc⟩:=hzs;rw[hc,a9L] at hz;simp only[zA] at hz;refine ⟨by rw[vN,hc,i1]; rfl,?_⟩;rw[DD,hc,i2];show ((b.data.toList==c.data.toList)||false)=false;rw[hz]; rfl
theorem bKA {s:Option IntKind} {d:TypeDesc} (hd:match s with | none=>d = .string | some kd=>d = .int kd) {q x:PV} {u y:Value} (hkd:Bi d u) (hu:Rep M B q u) (hy:Rep M B x y) {L:bSH} {es:List MapEntry} (h:bC M B L (uj (pg es))) (hg:qB s L q=true) :
 (Instr.findNow d u es 0=some none/\∀ b,bC M B (jO s L q x) (uj (pg (es ++ [{ key:=u,val:=y,born:=b }])))) \/
 ∃ (j:Nat) (e:MapEntry),Instr.findNow d u es 0=some (some (0+j,e.val))/\es[j]? = some e/\e.key=u/\bC M B (jO s L q x) (uj (pg (es.modify j fun e => { e with key:=u,val:=y }))):=by
 have e0:=XD (d:=d) (u:=u) es 0;have ec:=WY hkd es;rcases aJF hd hu h hg with ⟨h1,v,h2⟩ | ⟨h1,h2⟩
 .rw[ec] at h2;rw[h2] at e0;cases hf:Instr.findNow d u es 0 with
  | none=>rw[hf] at e0; cases e0
  | some o=>cases o with
   | none=>rw[hf] at e0; cases e0
   | some z =>
    obtain ⟨j,v'⟩:=z;have hf0:Instr.findNow d u es 0=some (some (0+j,v')):=by rw[hf,kW]
    obtain ⟨g1,e,g2,g3⟩:=aMT (y:=y) es 0 j v' hf0;have hv:v'=e.val:=by
     have key:∀ (es:List MapEntry) (i j:Nat) (v:Value) (e:MapEntry),Instr.findNow d u es i=some (some (i+j,v))->es[j]? = some e->v=e.val:=by
      intro es;induction es with
      | nil=>intro i j v e h; cases h
      | cons x es ih =>
       intro i j v e h1 h2;simp only[Instr.findNow] at h1;cases hs:Instr.sameNow d u x.key with
       | none=>rw[hs] at h1; cases h1
       | some b=>rw[hs] at h1; cases b with
        | true =>
         simp only[zA,Prod.mk.injEq] at h1;have hj:j=0:=by omega
         subst hj;simp at h2; subst h2; exact h1.2.symm
        | false =>
         cases j with
         | zero =>
          exfalso;have hle:∀ (es:List MapEntry) (i k:Nat) (v:Value),Instr.findNow d u es i=some (some (k,v))->i<=k:=by
           intro es;induction es with
           | nil=>intro i k v h; cases h
           | cons x es ih =>
            intro i k v h;simp only[Instr.findNow] at h;cases hx:Instr.sameNow d u x.key with
            | none=>rw[hx] at h; cases h
            | some b=>rw[hx] at h; cases b with
             | true=>simp only[zA,Prod.mk.injEq] at h; omega
             | false=>have:=ih (i+1) k v h; omega
          have:=hle es (i+1) (i+0) v h1;omega
         | succ j=>exact ih (i+1) j v e (by rw[show i+1+j=i+(j+1) by omega]; exact h1) (by simpa using h2)
     exact key es 0 j v' e hf0 g2
    subst hv;refine .inr ⟨j,e,by rw[kW],g2,(same_eq hkd g3).symm,?_⟩;rw[g1,aU9 hkd es v h2];unfold jO;rw[h1];exact aMS hd hu hy h hg
 .have hn:=h2;rw[ec] at h2;rw[h2] at e0;cases hf:Instr.findNow d u es 0 with
  | none=>rw[hf] at e0; cases e0
  | some o=>cases o with
   | some z=>rw[hf] at e0; cases e0
   | none =>refine .inl ⟨rfl,fun b => ?_⟩;rw[foldl_snoc,aSG (e0 := { key:=u,val:=y,born:=b }) hd hkd hu h hg hn];unfold jO;rw[h1];exact aJZ (e0 := { key:=u,val:=y,born:=b }) hu hy h hg
theorem aMH (hI:Inv n M B out Z a.tmps w) {i:Nat} {v:Value} (hv:Rep M B (.cZ 0 i) v) {cs L:bSH} {b:Bool} (hcs:Z.h[i]? = some (some cs)) (hin:Af cs=some (b,L)) :
 ∃ c es ck,B[i]? = some c/\v = .map (some c.1)/\w.heap[c.1]? = some (.map es ck)/\bC M (U4 b B) L (uj (pg es.toList)):=by
 obtain ⟨c,hc,hb⟩:=Fj.1 hv;obtain ⟨hb2,rfl⟩:=hb.1 rfl;obtain ⟨vs,ty,r1,o2,o3,o4,o5⟩:=hI.heap.at hcs hc;have hty:ty=0:=by rw[o2.2,hb2]
 subst hty;rw[aME hin] at o4;obtain ⟨u,h1,h2,_⟩:=o4 0 (nP b L) rfl;rcases aOY r1 with ⟨es,ck,hrow,rfl⟩ | ⟨s,pos,hrow,rfl⟩
 rotate_left
 .simp at h1; subst h1;obtain ⟨f,e1,_⟩:=ZW.1 h2;unfold Hz at e1;injection e1 with e1 _ _
  injection e1 with e1
  exact absurd e1 (by decide)
 simp at h1; subst h1;obtain ⟨f,e1,h3⟩:=ZW.1 h2;unfold IG at e1;injection e1 with _ e1 _
 rw[<- e1] at h3;exact ⟨c,es,ck,hc,rfl,hrow,by simpa using h3⟩
theorem a90 {M:Mem} {B:aV} {s:ByteArray} {p:Int} {v:Value}:Rep M B (zO s p) v↔v = .func (.yield Vb) #[.string s,.int .i64 p] #[]:=by
 refine zk.trans ⟨?_,?_⟩
 .rintro ⟨f,c,rfl,h1,h2⟩;rw[eu] at h2;obtain ⟨u1,l1,e1,g1,h1⟩:=dD.1 h1;obtain ⟨u2,l2,rfl,g2,h1⟩:=dD.1 h1;rw[eu] at h1; subst h1;rw[iT.1 g1,dS.1 g2] at e1;have hc:c = #[]:=by rw[<- oK]; exact h2
  have hf:f = #[.string s,.int .i64 p]:=by rw[<- oK]; exact e1
  rw[hc,hf]
 .rintro rfl;exact ⟨_,_,rfl,dD.2 ⟨_,_,rfl,iT.2 rfl,dD.2 ⟨_,_,rfl,dS.2 rfl,eu.2 rfl⟩⟩,eu.2 rfl⟩
theorem bDG (hI:Inv n M B out Z a.tmps w) {i:Nat} {v:Value} (hv:Rep M B (.cZ DU i) v) {cs:bSH} {s:ByteArray} {p:Int} (hcs:Z.h[i]? = some (some cs)) (hin:OI cs=some (s,p)) :
 ∃ (c:Nat×Nat×TypeId) (pos:Nat),B[i]? = some c/\v = .pointer (some ⟨c.1,0,none⟩)/\w.heap[c.1]? = some (.stringIter s pos)/\p=pos:=by
 obtain ⟨c,hc,hb⟩:=Fj.1 hv;obtain ⟨hb2,rfl⟩:c.2=(1,0)/\v = .pointer (some ⟨c.1,0,none⟩):=hb.2 (by decide);obtain ⟨vs,ty,r1,o2,o3,o4,o5⟩:=hI.heap.at hcs hc;have hty:ty=0:=by rw[o2.2,hb2]
 subst hty;rw[aK9 hin] at o4;obtain ⟨u,h1,h2,_⟩:=o4 0 (zO s p) rfl;have h2:=a90.1 h2;rcases aOY r1 with ⟨es,ck,hrow,rfl⟩ | ⟨s',pos,hrow,rfl⟩
 .simp at h1; subst h1;unfold IG at h2;injection h2 with e1 _ _
  injection e1 with e1
  exact absurd e1 (by decide)
 .simp at h1; subst h1;unfold Hz at h2;injection h2 with _ e1 _
  simp at e1;obtain ⟨rfl,rfl⟩:=e1;exact ⟨c,pos,hc,rfl,hrow,rfl⟩
theorem bKB (hI:Inv n M B out Z a.tmps w) {P:Program} {t:TypeId} (ht:uC P t=true) (s:ByteArray) :
 (Instr.range t (.string s)).run P w = .ok (.pointer (some ⟨w.heap.size,0,none⟩)) (w.alloc (.stringIter s 0))/\Pre n out M B Z a.tmps w M (B ++ [(w.heap.size,1,0)]) { Z with h:=Z.h ++ [some [zO s 0]] } (w.alloc (.stringIter s 0)) (.cZ DU Z.h.length) (.pointer (some ⟨w.heap.size,0,none⟩)):=by
 have hu:P.underlying t=some .string:=by
  unfold uC at ht;split at ht
  .assumption
  .cases ht
 refine ⟨run_range_string w t s hu,?_⟩;have hG:=hI.aM' (.stringIter s 0) #[Hz s 0] 0 (a99 (QM w _)) [zO s 0] (bW _) (fun j p hj=>by
  match j,hj with
  | 0,hj =>simp at hj; subst hj;exact ⟨Hz s 0,rfl,a90.2 rfl,fG rfl,rfl,fun b=>dO rfl _ _⟩
  | j+1,hj=>simp at hj)
 exact Pre.Ak hG (Fj.2 ⟨(w.heap.size,1,0),by rw[hI.heap.1]; simp,fun h=>absurd h (by decide),fun _=>⟨rfl,rfl⟩⟩) rfl
theorem bH7 (hI:Inv n M B out Z a.tmps w) {P:Program} {i:Nat} {v:Value} (ty:TypeId) (hv:Rep M B (.cZ DU i) v) {cs:bSH} {s:ByteArray} {p:Int} (hcs:Z.h[i]? = some (some cs)) (hin:OI cs=some (s,p)) :
 (p<(s.size:Int)->∃ w',(Instr.next v true ty).run P w = .ok (.tuple #[.bool true,.int .i64 p,.int .i32 (Ya s p)]) w'/\Good n out M B Z a.tmps w M B { Z with h:=Z.h.set i (some [zO s (OJ s p)]) } a.tmps w') /\
 (¬ p<(s.size:Int)->(Instr.next v true ty).run P w = .ok (.tuple #[.bool false]) w):=by
 obtain ⟨c,pos,hc,rfl,hrow,rfl⟩:=bDG hI hv hcs hin;have hlt:c.1<w.heap.size:=(wu.1 hrow).1;refine ⟨fun h => ?_,fun h=>Lib.run_next_end_at w c.1 s pos ty hrow (by omega)⟩;refine ⟨_,Lib.run_next_any_at w c.1 s pos ty hrow (by omega),?_⟩;have hcs1:=aK9 hin;subst hcs1;obtain ⟨k1,k2,k3⟩:=hI.setRow (i:=i) (j:=0) (p:=zO s (OJ s (pos:Int))) (v:=Hz s (pos+(Utf8.decode s pos).2)) hcs hc (a99 hrow) (by simp) (a90.2 rfl) (fG rfl) rfl (fun b=>by rw[dO rfl]; exact hI.cnt b) (fun b _=>dO rfl _ _) (w':=w.iterAt c.1 s (pos+(Utf8.decode s pos).2)) (fun b hb=>Lib.iterAt_other w c.1 b s _ hb) (by rw[a99 (Lib.iterAt_heap w c.1 s pos _ hrow)]; rfl) rfl rfl rfl (Lib.iterAt_size w c.1 s _);exact ⟨k1,dJ.refl _ _,k3,fun b _=>by have:=k2 b; rw[dO rfl] at this; exact this⟩
theorem bGG (hI:Inv n M B out Z a.tmps w) (t:TypeId) (b:Bool) {P:Program} :
 (Instr.makeMap t none).run P w = .ok (.map (some w.heap.size)) (w.alloc (.map #[] 0))/\Pre n out M B Z a.tmps w M (B ++ [(w.heap.size,1,0)]) { Z with h:=Z.h ++ [some [nP b []]] } (w.alloc (.map #[] 0)) (.cZ 0 Z.h.length) (.map (some w.heap.size)):=by
 refine ⟨by simp[Instr.makeMap],?_⟩;have hG:=hI.aM' (.map #[] 0) #[IG #[]] 0 (a9A (QM w _)) [nP b []] (bW _) (fun j p hj=>by
  match j,hj with
  | 0,hj =>simp at hj; subst hj;exact ⟨IG #[],rfl,ZW.2 ⟨_,rfl,eu.2 rfl⟩,fG (OZ _ _),rfl,fun b=>dO (OZ _ _) _ _⟩
  | j+1,hj=>simp at hj)
 refine Pre.Ak hG (Fj.2 ⟨(w.heap.size,1,0),by rw[hI.heap.1]; simp,fun _=>⟨rfl,rfl⟩,fun h=>absurd rfl h⟩) rfl
theorem bG8 (hI:Inv n M B out Z a.tmps w) {P:Program} {t:TypeId} {s:Option IntKind} {z:PV} (ht:CB P t=some (s,z)) {i:Nat} {v u:Value} (hv:Rep M B (.cZ 0 i) v) {cs L:bSH} {b:Bool} (hcs:Z.h[i]? = some (some cs)) (hin:Af cs=some (b,L))
 {q:PV} (hu:Rep M B q u) (hq:yM s q=true) {r:Option PV} (hg:xY s L q=some r) (ok:Bool) :
 ∃ x,(Instr.lookup t v u ok).run P w = .ok x w/\Rep M B (Bv ok z r) x/\(Bv ok z r).own=false:=by
 obtain ⟨k,e,zv,i',d,h1,h2,h3,h4,h5,rfl,h6⟩:=aMG ht;obtain ⟨c,es,ck,_,rfl,hrow,hL⟩:=aMH hI hv hcs hin;have hL:bC M B L (uj (pg es.toList)):=by
  cases b with
  | true=>exact hL.mono (dJ.zero _ _)
  | false=>exact hL
 have hk:=aKV h3 hq hu;have hck:=MapKept.run_checkKey (P:=P) (w:=w) h2 hk es.isEmpty 9999;obtain ⟨rz,oz⟩:=bKN (M:=M) (B:=B) h6;have hzr:(zeroValue e).run P w = .ok zv w:=by simp[zeroValue,typeInfo,h4,h5]
 rcases bBN h3 (aKX h3 hq hu) hu 0 hL hg with ⟨rfl,hf⟩ | ⟨p,j,e',rfl,hf,hp⟩
 .have hfk:=aBB (P:=P) (w:=w) h2 hf;cases ok with
  | true=>exact ⟨.tuple #[zv,.bool false],by simp[Instr.lookup,ed h1,VQ hrow,hck,hfk,hzr,Result.andThen],tJ.2 ⟨_,rfl,dD.2 ⟨_,_,rfl,rz,dD.2 ⟨_,_,rfl,jo.2 rfl,eu.2 rfl⟩⟩⟩,rfl⟩
  | false=>exact ⟨zv,by simp[Instr.lookup,ed h1,VQ hrow,hck,hfk,hzr,Result.andThen],rz,oz⟩
 .have hfk:=aBB (P:=P) (w:=w) h2 hf;cases ok with
  | true=>exact ⟨.tuple #[e',.bool true],by simp[Instr.lookup,ed h1,VQ hrow,hck,hfk,Result.andThen],tJ.2 ⟨_,rfl,dD.2 ⟨_,_,rfl,nU.2 hp,dD.2 ⟨_,_,rfl,jo.2 rfl,eu.2 rfl⟩⟩⟩,rfl⟩
  | false=>exact ⟨e',by simp[Instr.lookup,ed h1,VQ hrow,hck,hfk,Result.andThen],nU.2 hp,qI _⟩
theorem sameBits_self {d:TypeDesc} {u:Value} (h:MapKept.IsKey d u):Instr.sameBits 10000 u u=true:=by cases d<;>cases u<;>simp_all[MapKept.IsKey,Instr.sameBits,a0C]
theorem aR2 (hI:Inv n M B out Z a.tmps w) {P:Program} {t:TypeId} {s:Option IntKind} {z:PV} (ht:CB P t=some (s,z)) {i:Nat} {v u y:Value} (hv:Rep M B (.cZ 0 i) v) {cs L:bSH} {b:Bool} (hcs:Z.h[i]? = some (some cs)) (hin:Af cs=some (b,L))
 {q x:PV} (hu:Rep M B q u) (hq:yM s q=true) (hy:Rep M B x y) (hg:qB s L q=true) (hfl:b=true->x.flat=true) :
 ∃ w',(Instr.mapUpdate t v u y).run P w = .ok () w'/\Good n out M B Z a.tmps w M B { Z with h:=Z.h.set i (some [nP b (jO s L q x)]) } a.tmps w':=by
 obtain ⟨k,e,zv,i',d,h1,h2,h3,h4,h5,rfl,h6⟩:=aMG ht;obtain ⟨c,es,ck,hc,rfl,hrow,hL⟩:=aMH hI hv hcs hin;have hk:=aKV h3 hq hu;have hck:=MapKept.run_checkKey (P:=P) (w:=w) h2 hk false 9999;have hcs1:=aME hin;subst hcs1;have hlt:c.1<w.heap.size:=(wu.1 hrow).1;have fin:∀ (es':Array MapEntry) (RJ:Nat),bC M (U4 b B) (jO s L q x) (uj (pg es'.toList))->Good n out M B Z a.tmps w M B { Z with h:=Z.h.set i (some [nP b (jO s L q x)]) } a.tmps { w with heap:=w.heap.setIfInBounds c.1 (.map es' RJ) }:=fun es' RJ hR=>by obtain ⟨g1,g2⟩:=MapKept.heap_set (o' := .map es' RJ) hrow;have hr:Rep M B (nP b (jO s L q x)) (IG es'):=ZW.2 ⟨_,rfl,by simpa using hR⟩;obtain ⟨k1,k2,k3⟩:=hI.setRow (i:=i) (j:=0) hcs hc (a9A hrow) (by simp) hr (fG (OZ _ _)) rfl (fun b=>by rw[dO (OZ _ _)]; exact hI.cnt b) (fun b _=>dO (OZ _ _) _ _) (w' := { w with heap:=w.heap.setIfInBounds c.1 (.map es' RJ) }) (fun b hb=>g2 b hb) (by rw[a9A (w := { w with heap:=w.heap.setIfInBounds c.1 (.map es' RJ) }) g1]; rfl) rfl rfl rfl (by simp);exact ⟨k1,dJ.refl _ _,k3,fun b _=>by have:=k2 b; rw[dO (OZ _ _)] at this; exact this⟩
 have hku:q.flat=true:=by
  unfold yM at hq;split at hq
  .rfl
  .rfl
  .cases hq
 have hu2:Rep M (U4 b B) q u:=by
  cases b with
  | true=>exact hu.flat [] hku
  | false=>exact hu
 have hy2:Rep M (U4 b B) x y:=by
  cases b with
  | true=>exact hy.flat [] (hfl rfl)
  | false=>exact hy
 rcases bKA h3 (aKX h3 hq hu) hu2 hy2 hL hg with ⟨hf,hR⟩ | ⟨j,e',hf,he,hke,hR⟩
 .have hfk:=aBB (P:=P) (w:=w) h2 hf;exact ⟨_,by simp[Instr.mapUpdate,ed h1,VQ hrow,hck,hfk,MapKept.run_setObj_map _ hrow,Result.andThen]; rfl,fin _ _ (by rw[Array.toList_push]; exact hR ck)⟩
 .have hfk:=aBB (P:=P) (w:=w) h2 hf;rw[kW] at hfk;have hej:es[j]? = some e':=by simpa using he
  have hst:(Instr.keyThatStays (((es[j]?).map (·.key)).getD u) u).run P w = .ok u w:=by rw[hej,sD,Option.getD_some,hke];unfold Instr.keyThatStays;rw[aJ (sameBits_self hk)]; rfl
  exact ⟨_,by simp[Instr.mapUpdate,ed h1,VQ hrow,hck,hfk,hst,MapKept.run_setObj_map _ hrow,Result.andThen]; rfl,fin _ _ (by rw[Array.toList_modify]; exact hR)⟩
end
section
variable {n:Nat} {out:Nat->Nat} {M:Mem} {B:aV} {Z Z1:ASt} {a:Act} {w:World} {E:AE} {o:Oper} {p:PV}
def aB' (E:AE) (out:Nat->Nat) (M:Mem) (B:aV) (Z:ASt) (a:Act) (w:World) (o:Oper) (p:PV) (Z1:ASt):Prop :=∃ v w' M' B',((execOp a.eval o).run E.P w = .ok (.value v) w'\/((execOp a.eval o).run E.P w = .ok .skip w'/\o.dst=none))/\Pre E.n out M B Z a.tmps w M' B' Z1 w' p v
theorem wJ {P:Program} {ρ:Operand->Value} {o:Oper} {s:Sem Value} {v:Value} {w w':World} (h:execOp ρ o=(do pure (.value (<- s)))) (hr:s.run P w = .ok v w'):(execOp ρ o).run P w = .ok (.value v) w':=by rw[h]; simp[hr]
theorem aQE (hI:Inv E.n M B out Z a.tmps w) (h:(pop E.P Z.rd o.op).map (fun p=>(p,Z))=some (p,Z1)):aB' E out M B Z a w o p Z1:=by
 cases hp:pop E.P Z.rd o.op with
 | none=>simp[hp] at h
 | some q =>simp[hp] at h;obtain ⟨rfl,rfl⟩:=h;obtain ⟨v,h1,h2,h3⟩:=bJV (fun x q hq=>hI.rd x q hq) hp w hI.mem;exact ⟨v,w,M,B,.inl h1,Pre.plain hI h2 (fun b=>dO h3 _ _) (fG h3)⟩
theorem bMC (hI:Inv E.n M B out Z a.tmps w) (hs:bY E o Z=some (p,Z1)) (hside:jQ E o Z):aB' E out M B Z a w o p Z1:=by
 obtain ⟨dst,op,type,pos,after,guard⟩:=o;cases op with
 | move x =>
  simp only[bY] at hs;split at hs
  .cases hx:Z.ev x with
   | none=>simp[hx] at hs
   | some q =>simp[hx] at hs; obtain ⟨rfl,rfl⟩:=hs;exact ⟨_,w,M,B,.inl rfl,Pre.moved hI hx⟩
  .cases hx:Z.rd x with
   | none=>simp[hx] at hs
   | some q =>simp[hx] at hs; obtain ⟨rfl,rfl⟩:=hs;obtain ⟨h1,h2⟩:=hI.rd x _ hx;exact ⟨_,w,M,B,.inl rfl,Pre.plain hI h1 (fun b=>dO h2 _ _) (fG h2)⟩
 | assign x =>
  simp only[bY] at hs;cases hx:Z.ev x with
  | none=>simp[hx] at hs
  | some q =>simp[hx] at hs; obtain ⟨rfl,rfl⟩:=hs;exact ⟨_,w,M,B,.inl rfl,Pre.moved hI hx⟩
 | alloc t =>
  simp only[bY] at hs;split at hs
  .cases hs
  cases ht:ti E.P t with
  | none=>simp[ht] at hs
  | some I =>
   simp[ht] at hs; obtain ⟨rfl,rfl⟩:=hs;obtain ⟨vs,h1,h2,h3,h4⟩:=aSL ht w;have hG:=hI.aMZ vs t (JH (dC E.mu dst) t Z.h.length I.zero) (by rw[aTE,h3]; simp) (fun j p hj=>by
    have base:∀ p,I.zero[j]? = some p->∃ v,vs[j]? = some v/\Rep M (B ++ [(w.heap.size,vs.size,t+1)]) p v/\Tl M w p v/\v.oneCell'=true/\∀ b,bI p v b=0:=fun p hj=>by
     rw[h3,iU] at hj;cases hv:vs.toList[j]? with
     | none=>simp[hv] at hj
     | some v =>
      simp[hv] at hj; subst hj;have hv':vs[j]? = some v:=by simpa using hv
      exact ⟨v,hv',IY (h4 v (a04 hv')),aA5 v,h4 v (a04 hv'),a6Y v⟩
    rcases aTD hj with h | ⟨rfl,rfl,h0,h2',ht0⟩ | ⟨rfl,rfl,h0⟩
    .exact base p h
    .obtain ⟨v,hv,hr,ht,ho,_⟩:=base _ h0;have bC7:vs.size=2:=by rw[h3] at h2'; simpa using h2'
     exact ⟨v,hv,Fj.2 ⟨(w.heap.size,vs.size,t+1),by rw[hI.heap.1]; simp,fun h=>absurd h ht0.1,fun _=>aTC ht0.2 (by rw[bC7]) (.inl (Fp.1 hr))⟩,fG rfl,ho,fun b=>dO rfl _ _⟩
    .obtain ⟨v,hv,hr,ht,ho,hw0⟩:=base _ h0;obtain ⟨rfl,_⟩:=KN hr;exact ⟨_,hv,ZX.2 ⟨none,0,rfl,bW _,fun h=>absurd rfl h⟩,⟨(fun _ _ _ _ _ e=>by cases e),(fun l A n cap e ev=>by cases ev; exact ⟨fun _=>rfl,fun a h=>by cases h⟩),(fun _ _ _ _ _ _ e _=>by cases e)⟩,ho,fun b=>by simp[bI]⟩)
   refine ⟨_,_,_,_,.inl (wJ rfl h1),Pre.Ak hG (wQ.2 ⟨(w.heap.size,vs.size,t+1),⟨by have:=hI.heap.1; simp[this],by simp⟩,rfl⟩) rfl⟩
 | box t x =>
  simp only[bY] at hs;split at hs
  .cases hx:Z.rd x with
   | none=>simp[hx] at hs
   | some q =>
    cases hf:NU q with
    | none=>simp[hx,hf] at hs
    | some e =>
     simp[hx,hf] at hs; obtain ⟨rfl,rfl⟩:=hs;unfold NU at hf;cases hn:q.newCells with
     | none=>simp[hn] at hf
     | some cs =>
      rw[hn] at hf;simp only at hf;split at hf
      .rename_i hfl;injection hf with hf
       obtain ⟨r1,r2⟩:=hI.rd x _ hx;obtain ⟨h1,h2⟩:=U8 hn r1;have hone:=aMY hn r1;obtain ⟨hG,hfp⟩:=hI.lay (a.eval x).cells t (a.eval x).cells.size (fun v hv=>hone v (by simpa using hv));have hM:∀ (j:Nat) u,(a.eval x).cells.toList[j]? = some u->laid M w.heap.size ((a.eval x).cells.toList.take (a.eval x).cells.size) w.heap.size j=some u:=fun j u hu=>by rw[yO (yP hI),aJ rfl,iO,aJ (by have:=(eP.1 hu).1; simpa using this)]; exact hu
       have hm:=(Tj hI ((a.eval x).cells.toList.take (a.eval x).cells.size)).none;have hloc:Loc (laid M w.heap.size ((a.eval x).cells.toList.take (a.eval x).cells.size)) [] e w.heap.size 0:=by
        have r3:Rep M [] q (a.eval x):=r1.flat [] hfl;obtain ⟨h3,_⟩:=U8 hn r3;cases q with
        | agg ds =>subst hf;refine zV.2 (H5 fun j p hj => ?_);obtain ⟨u,hu,hr⟩:=wS h3 hj;exact ⟨u,by rw[kW]; exact hM j u hu,hr.mono hm⟩
        | tuple ds=>simp[PV.newCells,PV.one] at hn
        | _ =>subst hf;refine (Bq rfl).2 ⟨a.eval x,hM 0 _ ?_,r3.mono hm⟩;rw[(EL rfl r1).1]; rfl
       exact ⟨.pointer (some ⟨w.heap.size,0,none⟩),_,_,_,.inl (wJ (s:=Instr.box t (a.eval x)) rfl (by simp[Instr.box,newVar,newRow])),Pre.Ak hG (Au.2 ⟨_,_,rfl,hloc⟩) rfl⟩
      .cases hf
  .cases hx:Z.rd x with
   | none=>simp[hx] at hs
   | some q =>
    cases hn:q.newCells with
    | none=>simp[hx,hn] at hs
    | some cs =>simp[hx,hn] at hs; obtain ⟨rfl,rfl⟩:=hs;obtain ⟨r1,r2⟩:=hI.rd x _ hx;obtain ⟨h1,h2⟩:=U8 hn r1;have hone:=aMY hn r1;have hG:=hI.newObj (a.eval x).cells t cs (by have:=qH h1; simpa using Nat.le_of_eq this) (fun j p hj=>by obtain ⟨u,hu,hr⟩:=wS h1 hj;have ho:=h2 p (jq hj);exact ⟨u,by simpa using hu,hr,fG ho,hone u (jq hu),fun b=>dO ho _ _⟩);exact ⟨.pointer (some ⟨w.heap.size,0,none⟩),_,_,_,.inl (wJ (s:=Instr.box t (a.eval x)) rfl (by simp[Instr.box,newVar,newRow])),Pre.Ak hG (wQ.2 ⟨(w.heap.size,(a.eval x).cells.size,t+1),⟨by have:=hI.heap.1; simp[this],by simp⟩,rfl⟩) rfl⟩
 | load t x =>
  simp only[bY] at hs;split at hs
  .rename_i I q hI' hq;split at hs
   .split at hs
    .obtain ⟨v,h1,h2⟩:=a5Z hI hI' hq hs;exact ⟨v,w,M,B,.inl (wJ rfl h1),h2⟩
    .cases hs
   .obtain ⟨v,h1,h2⟩:=a5Z hI hI' hq hs;exact ⟨v,w,M,B,.inl (wJ rfl h1),h2⟩
  .cases hs
 | store t x y =>
  simp only[bY] at hs;split at hs
  .cases hs
  cases hI':ti E.P t with
  | none=>simp[hI'] at hs
  | some I =>
   cases hq:Z.rd x with
   | none=>simp[hI',hq] at hs
   | some q =>
    cases hp:Z.ev y with
    | none=>simp[hI',hq,hp] at hs
    | some p' =>
     cases dst with
     | some d=>simp[hI',hq,hp] at hs
     | none =>
      simp only[hI',hq,hp] at hs;cases hst:vG I q p' (Z.clr y) with
      | none=>simp[hst] at hs
      | some Z2 =>simp[hst] at hs; obtain ⟨rfl,rfl⟩:=hs;obtain ⟨w',M',B',h1,h2⟩:=bMJ hI hI' hq hp hst;refine ⟨undef,w',M',B',.inr ⟨?_,rfl⟩,h2⟩;show (execOp a.eval ⟨none,.store t x y,type,pos,after,guard⟩).run E.P w=_;simp[execOp,h1]
 | buildSlice t len ps =>
  simp only[bY] at hs;split at hs
  .rename_i I qs hT hq;split at hs
   .rename_i es he;split at hs
    .rename_i hc;obtain ⟨l1,l2,l3⟩:=bG0 hI hT hq he hc.1 hc.2.1 hc.2.2;split at hs
     .cases hs;obtain ⟨v,w',M',B',h1,h2⟩:=l2;exact ⟨v,w',M',B',.inl (wJ rfl h1),h2⟩
     .split at hs
      .split at hs
       .rename_i TJ;cases hs;obtain ⟨v,w',M',B',h1,h2⟩:=l3 TJ;exact ⟨v,w',M',B',.inl (wJ rfl h1),h2⟩
       .cases hs
      .cases hs;obtain ⟨v,w',M',B',h1,h2⟩:=l1;exact ⟨v,w',M',B',.inl (wJ rfl h1),h2⟩
    .cases hs
   .cases hs
  .cases hs
 | makeSlice t l c =>
  simp only[bY] at hs;split at hs
  .rename_i I k m k' m' hT hl hc;split at hs
   .rename_i hcond;obtain ⟨rfl,h0,h1,hpos,hb⟩:=hcond;obtain ⟨e,i,z,d,hu,iY⟩:=zH hT;have el:=dS.1 (hI.rd l _ hl).1;have ec:=dS.1 (hI.rd c _ hc).1;have hrun:=bGI (w:=w) hu iY k k' h0 h1 hb;have hex:(execOp a.eval ⟨dst,.makeSlice t l c,type,pos,after,guard⟩).run E.P w = .ok (.value (.slice (some ⟨w.heap.size,0,none⟩) m.toNat m.toNat)) (w.alloc (.cells (madeCells z.cells (m.toNat*i.size)) e)):=wJ (s:=Instr.makeSlice t (a.eval l) (a.eval c)) rfl (by rw[el,ec]; exact hrun);split at hs
    .cases hs;have hG:=bGH hI iY m.toNat;exact ⟨_,_,_,_,.inl hex,Pre.Ak hG (tH.2 ⟨(w.heap.size,(madeCells z.cells (m.toNat*i.size)).size,e+1),m.toNat,⟨by rw[hI.heap.1]; simp,by simp⟩,rfl,bW _,by rw[size_madeCells,iY.size]; simp⟩) rfl⟩
    .split at hs
     .rename_i hz;cases hs;obtain ⟨M',hpre⟩:=bGJ hI iY hpos hz.1 hz.2 m.toNat;exact ⟨_,_,M',B,.inl hex,hpre⟩
     .cases hs
   .cases hs
  .cases hs
 | call c =>
  obtain ⟨callee,args,argTypes⟩:=c;simp only[bY] at hs;split at hs
  .split at hs
   .rename_i x y t u h1 h2;have e1:args = #[x,y]:=by rw[<- oK]; exact h1
    have e2:argTypes = #[t,u]:=by rw[<- oK]; exact h2
    subst e1; subst e2;split at hs
    .rename_i I j off m sz q hT hx hy;split at hs
     .rename_i cs m2 cells hcs hsrc;split at hs
      .rename_i hc;obtain ⟨rfl,hpos,hlen⟩:=hc;cases hs;obtain ⟨e,i,z,d,hu,iY⟩:=zH hT;obtain ⟨w',g1,g2⟩:=aUR (u:=u) (ty:=type) hI hu iY (hI.rd x _ hx).1 hcs hlen (hI.rd y _ hy).1 hsrc hpos;refine ⟨_,w',_,_,.inl ?_,Pre.Ak g2 (dS.2 rfl) rfl⟩;show (execOp a.eval ⟨dst,.call ⟨.builtin .copy,#[x,y],#[t,u]⟩,type,pos,after,guard⟩).run E.P w=_;simp[execOp,resolve,invoke,builtin,g1]
      .cases hs
     .cases hs
    .cases hs
   .cases hs
  .split at hs
   .rename_i x t h1 h2;have e1:args = #[x]:=by rw[<- oK]; exact h1
    have e2:argTypes = #[t]:=by rw[<- oK]; exact h2
    subst e1; subst e2;split at hs
    .rename_i I j off m sz hT hx;split at hs
     .rename_i cs hcs;split at hs
      .rename_i hc;obtain ⟨rfl,hlen⟩:=hc;cases hs;obtain ⟨e,i,z,d,hu,iY⟩:=zH hT;obtain ⟨w',g1,g2⟩:=aUG (ty:=type) hI hu iY (hI.rd x _ hx).1 hcs hlen;refine ⟨.tuple #[],w',_,_,.inl ?_,Pre.Ak g2 (tJ.2 ⟨#[],rfl,eu.2 rfl⟩) rfl⟩;show (execOp a.eval ⟨none,.call ⟨.builtin .clear,#[x],#[t]⟩,type,pos,after,guard⟩).run E.P w=_;simp[execOp,resolve,invoke,builtin,g1]
      .cases hs
     .cases hs
    .rename_i I o' z' hT hx;cases hs;obtain ⟨e,i,z,d,hu,iY⟩:=zH hT;obtain ⟨A,cap,hv,_⟩:=jW.1 (hI.rd x _ hx).1;refine ⟨.tuple #[],w,M,B,.inl ?_,Pre.plain hI (tJ.2 ⟨#[],rfl,eu.2 rfl⟩) (fun b=>dO rfl _ _) (fG rfl)⟩;show (execOp a.eval ⟨none,.call ⟨.builtin .clear,#[x],#[t]⟩,type,pos,after,guard⟩).run E.P w=_;have hcl:(Builtin.clear_ #[t] type #[a.eval x]).run E.P w = .ok (.tuple #[]) w:=by rw[hv];cases A<;>simp[Builtin.clear_,ed hu]
     simp[execOp,resolve,invoke,builtin,hcl]
    .cases hs
   .cases hs
  .simp only[jQ] at hside;split at hs
   .rename_i s x t u h1 h2;split at hs
    .rename_i I ow sz es o' sz' es' hT hs' hx;split at hs
     .rename_i hc;obtain ⟨how,rfl,hc1,hc2,hc3,hc4⟩:=hc;cases hs;rw[h1] at hside;simp only[hs',hx] at hside;have e1:args = #[s,x]:=by rw[<- oK]; exact h1
      have e2:argTypes = #[t,t]:=by rw[<- oK]; exact h2
      subst e1; subst e2;obtain ⟨v,w',M',B',g1,g2⟩:=aSV (ty:=type) hI hT how hs' hx hc1 hc2 hc3 hc4 hside;refine ⟨v,w',M',B',.inl ?_,g2⟩;show (execOp a.eval ⟨dst,.call ⟨.builtin .append,#[s,x],#[t,t]⟩,type,pos,after,guard⟩).run E.P w=_;simp[execOp,resolve,invoke,builtin,g1]
     .cases hs
    .rename_i I ow sz es b hT hs' hx;split at hs
     .rename_i hc;obtain ⟨how,hc1,hc2,hc3,hc4,hc5⟩:=hc;cases hs;rw[h1] at hside;simp only[hs',hx] at hside;have e1:args = #[s,x]:=by rw[<- oK]; exact h1
      have e2:argTypes = #[t,u]:=by rw[<- oK]; exact h2
      subst e1; subst e2;obtain ⟨v,w',M',B',g1,g2⟩:=aSW (ty:=type) hI hT hc1 hc2 how hs' hx hc3 hc4 hc5 hside;refine ⟨v,w',M',B',.inl ?_,g2⟩;show (execOp a.eval ⟨dst,.call ⟨.builtin .append,#[s,x],#[t,u]⟩,type,pos,after,guard⟩).run E.P w=_;simp[execOp,resolve,invoke,builtin,g1]
     .cases hs
    .rename_i I k sz cs o' sz' es' hT hs' hx;split at hs
     .rename_i hc;obtain ⟨rfl,hc1,hc2,rfl,hc4,hc5⟩:=hc;cases hs;rw[h1] at hside;simp only[hs',hx] at hside;have e1:args = #[s,x]:=by rw[<- oK]; exact h1
      have e2:argTypes = #[t,t]:=by rw[<- oK]; exact h2
      subst e1; subst e2;obtain ⟨v,w',M',B',g1,g2⟩:=aSU (ty:=type) hI hT hs' hx hc1 hc2 hc4 hc5 hside;refine ⟨v,w',M',B',.inl ?_,g2⟩;show (execOp a.eval ⟨dst,.call ⟨.builtin .append,#[s,x],#[t,t]⟩,type,pos,after,guard⟩).run E.P w=_;simp[execOp,resolve,invoke,builtin,g1]
     .cases hs
    .rename_i I l b hT hs' hx;split at hs
     .rename_i hc;obtain ⟨hc1,hc2,hc3,hc4⟩:=hc;cases hs;rw[h1] at hside;simp only[hs',hx] at hside;have e1:args = #[s,x]:=by rw[<- oK]; exact h1
      have e2:argTypes = #[t,u]:=by rw[<- oK]; exact h2
      subst e1; subst e2;obtain ⟨v,w',M',B',g1,g2⟩:=aST (ty:=type) hI hT hc1 hc2 hs' hx hc3 hc4 hside;refine ⟨v,w',M',B',.inl ?_,g2⟩;show (execOp a.eval ⟨dst,.call ⟨.builtin .append,#[s,x],#[t,u]⟩,type,pos,after,guard⟩).run E.P w=_;simp[execOp,resolve,invoke,builtin,g1]
     .cases hs
    .rename_i I l o' sz' es' hT hs' hx;split at hs
     .rename_i c hob;split at hs
      .rename_i hc;obtain ⟨hc1,rfl,hc3,hc4,rfl⟩:=hc;cases hs;rw[h1] at hside;simp only[hs',hx,hob] at hside;have e1:args = #[s,x]:=by rw[<- oK]; exact h1
       have e2:argTypes = #[t,t]:=by rw[<- oK]; exact h2
       subst e1; subst e2;rw[bHQ hob] at hx;obtain ⟨v,w',M',B',g1,g2⟩:=aSS (ty:=type) hI hT hc1 hs' hx hc3 hc4 hside.1 hside.2.1 hside.2.2;refine ⟨v,w',M',B',.inl ?_,g2⟩;show (execOp a.eval ⟨dst,.call ⟨.builtin .append,#[s,x],#[t,t]⟩,type,pos,after,guard⟩).run E.P w=_;simp[execOp,resolve,invoke,builtin,g1]
      .cases hs
     .cases hs
    .cases hs
   .cases hs
  .rename_i hne;refine aQE hI ?_;rw[pop]; exact hs
 | makeMap t r =>
  simp only[bY] at hs;split at hs
  .cases hs
  split at hs
  .cases hs;obtain ⟨h1,h2⟩:=bGG (P:=E.P) hI t (dC E.mu dst);exact ⟨_,_,_,_,.inl (wJ (s:=Instr.makeMap t none) rfl h1),h2⟩
  .cases hs
 | lookup t m k ok =>
  simp only[bY] at hs;split at hs
  .rename_i s z i q ht hm hq;split at hs
   .rename_i cs hcs;split at hs
    .rename_i b L hin;split at hs
     .rename_i r hk hg;cases hs;obtain ⟨v,g1,g2,g3⟩:=bG8 hI ht (hI.rd m _ hm).1 hcs hin (hI.rd k _ hq).1 hk hg ok;exact ⟨v,w,M,B,.inl (wJ (s:=Instr.lookup t (a.eval m) (a.eval k) ok) rfl g1),Pre.plain hI g2 (fun b=>dO g3 _ _) (fG g3)⟩
     .cases hs
    .cases hs
   .cases hs
  .cases hs
 | mapUpdate t m k x =>
  simp only[bY] at hs;split at hs
  .rename_i s z i q y ht hm hq hx;split at hs
   .rename_i cs hcs;split at hs
    .rename_i b L hin;split at hs
     .rename_i hk;cases hs;simp only[au,y9,y8] at hk;obtain ⟨w',g1,g2⟩:=aR2 hI ht (hI.rd m _ hm).1 hcs hin (hI.rd k _ hq).1 hk.1 (hI.rd x _ hx).1 hk.2.1 (fun e=>by simpa[e] using hk.2.2);refine ⟨.tuple #[],w',_,_,.inr ⟨?_,rfl⟩,Pre.Ak g2 (tJ.2 ⟨#[],rfl,eu.2 rfl⟩) rfl⟩;show (execOp a.eval ⟨none,.mapUpdate t m k x,type,pos,after,guard⟩).run E.P w=_;simp[execOp,g1]
     .cases hs
    .cases hs
   .cases hs
  .cases hs
 | insert t m k x =>
  simp only[bY] at hs;split at hs
  .cases hs
  split at hs
  .rename_i s z i q y ht hm hq hx;split at hs
   .rename_i cs hcs;split at hs
    .rename_i b L hin;split at hs
     .rename_i hk;cases hs;simp only[au,y9,y8] at hk;obtain ⟨w',g1,g2⟩:=aR2 hI ht (hI.rd m _ hm).1 hcs hin (hI.rd k _ hq).1 hk.1 (hI.rd x _ hx).1 hk.2.1 (fun e=>by simpa[e] using hk.2.2);refine ⟨.tuple #[],w',_,_,.inr ⟨?_,rfl⟩,Pre.Ak g2 (tJ.2 ⟨#[],rfl,eu.2 rfl⟩) rfl⟩;show (execOp a.eval ⟨none,.insert t m k x,type,pos,after,guard⟩).run E.P w=_;simp[execOp,g1]
     .cases hs
    .cases hs
   .cases hs
  .cases hs
 | range t x =>
  simp only[bY] at hs;split at hs
  .rename_i s ht hx;cases hs;have hv:=iT.1 (hI.rd x _ hx).1;obtain ⟨h1,h2⟩:=bKB (P:=E.P) hI ht s;exact ⟨_,_,_,_,.inl (wJ (s:=Instr.range t (a.eval x)) rfl (by rw[hv]; exact h1)),h2⟩
  .cases hs
 | next x b =>
  simp only[bY] at hs;split at hs
  .rename_i T i hx;split at hs
   .rename_i cs hcs;split at hs
    .rename_i s p hin;split at hs
     .rename_i hT;rw[au] at hT;have hT1:=lm hT.1;subst hT1;obtain ⟨g1,g2⟩:=bH7 (P:=E.P) hI type (hI.rd x _ hx).1 hcs hin;split at hs
      .rename_i hp;cases hs;obtain ⟨w',g3,g4⟩:=g1 (qo hp);exact ⟨_,w',_,_,.inl (wJ (s:=Instr.next (a.eval x) true type) rfl g3),Pre.Ak g4 (tJ.2 ⟨_,rfl,dD.2 ⟨_,_,rfl,jo.2 rfl,dD.2 ⟨_,_,rfl,dS.2 rfl,dD.2 ⟨_,_,rfl,dS.2 rfl,eu.2 rfl⟩⟩⟩⟩) rfl⟩
      .rename_i hp;cases hs;exact ⟨_,w,M,B,.inl (wJ (s:=Instr.next (a.eval x) true type) rfl (g2 (of_decide_eq_false hp))),Pre.plain hI (tJ.2 ⟨_,rfl,dD.2 ⟨_,_,rfl,jo.2 rfl,eu.2 rfl⟩⟩) (fun b=>dO rfl _ _) (fG rfl)⟩
     .cases hs
    .cases hs
   .cases hs
  .cases hs
 | _=>exact aQE hI hs
end
end Go.Proofs.YtcdceiloganlnaaGreatDoor
end

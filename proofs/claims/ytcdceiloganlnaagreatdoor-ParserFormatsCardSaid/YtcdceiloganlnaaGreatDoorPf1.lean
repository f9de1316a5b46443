/- A part of the proof. -/
import Derived.Lib.ItoaNum
import Derived.WalkKit
import Derived.WalkSpells
import Derived.WalkLawsBesides
import Derived.Lib.Hide
import Derived.Below
import Derived.Laws.BytesString
import Derived.Great.BuildSlice
import Derived.Laws.CopyRow
import Derived.Lib.AppendStr
import Derived.Laws.MakeOwn
import Derived.WideMake
import Derived.Lib.OthersKept
set_option linter.unusedVariables false
set_option linter.unusedSimpArgs false
set_option linter.unnecessarySimpa false
set_option linter.unusedSectionVars false
noncomputable section
namespace Go.Proofs.YtcdceiloganlnaaGreatDoor
open Go.RowKit
abbrev aQ:=@if_neg
abbrev aS:=@if_pos
abbrev aX:=@List.length_map
abbrev aY:=@List.length_append
abbrev bF:=@Bool.and_eq_true
abbrev bP:=@List.length_cons
abbrev cu:=@Nat.le_refl
abbrev dZ:=@List.length_nil
abbrev eX:=@Go.run_underlying
abbrev gG:=@List.getElem_mem
abbrev gu:=@List.cons_append
abbrev iJ:=@List.getElem?_eq_some_iff
abbrev iY:=@List.all_eq_true
abbrev jF:=@List.getElem?_eq_getElem
abbrev jV:=@List.mem_cons
abbrev kJ:=@List.getElem?_map
abbrev kU:=@List.eq_nil_of_length_eq_zero
abbrev lM:=@List.getElem?_take
abbrev lq:=@List.map_append
abbrev lu:=@Go.Sem.run_bind
abbrev lw:=@decide_eq_true_eq
abbrev mO:=@List.append_assoc
abbrev mP:=@Nat.le_trans
abbrev nK:=@List.mem_of_getElem?
abbrev nM:=@Nat.add_mul
abbrev nZ:=@Nat.eq_of_beq_eq_true
abbrev oM:=@Int.toNat_natCast
abbrev oN:=@List.map_cons
abbrev pX:=@beq_eq_false_iff_ne
abbrev qF:=@List.getElem?_set_ne
abbrev qP:=@Array.toList_inj
abbrev qQ:=@List.mem_append
abbrev qR:=@List.mem_map
abbrev qU:=@Nat.zero_add
abbrev rH:=@List.length_singleton
abbrev rJ:=@Go.Result.andThen_ok
abbrev rM:=@beq_iff_eq
abbrev uH:=@Bool.not_true
abbrev uI:=@List.mem_singleton
abbrev uJ:=@Go.wpIn_mono
abbrev uq:=@Bool.not_false
abbrev ut:=@List.getElem?_append_left
abbrev uu:=@Nat.mul_le_mul_right
abbrev uw:=@Go.World.block_lt_of_cell?
abbrev uy:=@Go.wp_mono
abbrev wH:=@List.append_nil
abbrev wI:=@List.length_take
abbrev xW:=@Bool.not_eq_true'
abbrev xY:=@List.length_drop
abbrev xZ:=@Nat.le_of_eq
abbrev yQ:=@Array.getElem?_eq_some_iff
abbrev yR:=@List.mem_iff_getElem?
abbrev yS:=@List.not_mem_nil
abbrev yU:=@List.take_of_length_le
abbrev yV:=@Nat.lt_or_ge
abbrev yX:=@cond_false
abbrev yY:=@if_true
abbrev yZ:=@or_false
abbrev zf:=@List.getElem?_set_self
abbrev zg:=@Nat.zero_le
abbrev Aa:=@Bool.true_and
abbrev Ac:=@List.all_cons
abbrev Ad:=@List.nil_append
abbrev CG:=@List.drop_eq_getElem_cons
abbrev CJ:=@List.flatMap_cons
abbrev CO:=@Nat.blt_eq
abbrev EP:=@Bool.or_eq_true
abbrev EQ:=@List.getElem?_append_right
abbrev ER:=@Go.Sem.run_pure
abbrev GM:=@Bool.false_eq_true
abbrev GN:=@List.drop_eq_nil_of_le
abbrev GR:=@List.take_succ_eq_append_getElem
abbrev GU:=@Nat.add_zero
abbrev GV:=@Nat.succ_mul
abbrev GX:=@cond_true
abbrev GY:=@if_false
abbrev J4:=@Go.RowKit.Below.heap_alloc
abbrev J5:=@Bool.and_false
abbrev J6:=@Bool.and_self
abbrev J7:=@Int.le_refl
abbrev J8:=@List.getElem_map
abbrev J9:=@List.length_set
abbrev JA:=@List.takeWhile_cons
abbrev JB:=@Nat.beq_eq
abbrev JC:=@Nat.ble_eq_true_of_le
abbrev JD:=@Option.map_eq_some_iff
abbrev JE:=@Option.map_some
abbrev JF:=@Go.World.cell?_of_block
abbrev Lu:=@Int.tmod_lt_of_pos
abbrev MB:=@Int.tmod_nonneg
abbrev MC:=@List.drop_eq_nil_iff
abbrev MG:=@List.ext_getElem?
abbrev MH:=@List.map_take
abbrev MI:=@Nat.le_of_ble_eq_true
abbrev MJ:=@Option.bind_some
abbrev MK:=@decide_eq_false_iff_not
abbrev ML:=@of_decide_eq_true
abbrev MM:=@Go.wpIn_seq
abbrev QL:=@Go.ByteArray.toList_eq
abbrev QM:=@Int.toNat_of_nonneg
abbrev QN:=@List.any_cons
abbrev QO:=@List.drop_drop
abbrev QP:=@List.mem_of_mem_take
abbrev QR:=@Nat.lt_of_lt_of_le
abbrev QS:=@Go.heap_alloc_new
abbrev QT:=@Go.mem_ready
abbrev QU:=@Go.run_sliceBound
abbrev WE:=@Bool.eq_iff_iff
abbrev WF:=@Bool.false_ne_true
abbrev WG:=@List.getD_eq_getElem?_getD
abbrev WH:=@List.mem_append_left
abbrev WI:=@List.mem_append_right
abbrev WJ:=@List.mem_range
abbrev WL:=@List.take_append_drop
abbrev WM:=@Go.MapKept.run_getObj_map
abbrev WN:=@Go.run_firstCells_some
abbrev a1K:=@Array.getElem?_append_left
abbrev a1L:=@Bool.not_eq_true
abbrev a1M:=@Int.tmod_eq_emod_of_nonneg
abbrev a1N:=@List.nodup_append
abbrev a1O:=@List.nodup_cons
abbrev a1P:=@List.range'_succ
abbrev a1Q:=@Go.MapKept.bytes_beq
abbrev a1R:=@Nat.add_sub_cancel_left
abbrev a1S:=@Nat.min_eq_left
abbrev a1T:=@Nat.min_eq_right
abbrev a1U:=@Go.Oper.upon_value
abbrev a1V:=@Option.some.injEq
abbrev aC2:=@Array.getD_eq_getD_getElem?
abbrev aC3:=@Array.size_replicate
abbrev aC4:=@Bool.or_eq_false_iff
abbrev aC5:=@List.filter_eq_self
abbrev aC6:=@List.flatMap_append
abbrev aC7:=@List.foldl_append
abbrev aC8:=@List.getElem?_cons_succ
abbrev aC9:=@List.getElem?_drop
abbrev aCA:=@List.getElem?_toArray
abbrev aCB:=@List.getElem_of_mem
abbrev aCC:=@List.pairwise_iff_getElem
abbrev aCD:=@List.range_eq_range'
abbrev aCE:=@Go.MapKept.run_findKey
abbrev aCF:=@Go.World.cell?_alloc_old
abbrev aTC:=@Array.getElem?_setIfInBounds_ne
abbrev aTD:=@Array.toList_setIfInBounds
abbrev aTE:=@Go.Lib.run_firstCells_string
abbrev aTF:=@Option.bind_eq_some_iff
end Go.Proofs.YtcdceiloganlnaaGreatDoor
namespace Go.Proofs.YtcdceiloganlnaaGreatDoor
def aB9 (m:Int):List (Nat×List Value) := [(0,[Value.int .i64 m]),(1,Lib.pow10Tab.map (Value.int .u64))]
def Ae (m:Int) (b o:Nat):Option Value:=((aB9 m).lookup b).bind (·[o]?)
structure Mem where
 m:Int
 f:Nat->Nat->Option Value
 g:∀ b o v,Ae m b o=some v->f b o=some v
instance:CoeFun Mem (fun _=>Nat->Nat->Option Value):=⟨Mem.f⟩
def yE (m:Int) (F:Nat->Nat->Option Value):Mem:=⟨m,fun b o=>match Ae m b o with | some v=>some v | none=>F b o,fun b o v h=>by simp only[h]⟩
theorem BO {m:Int} {F:Nat->Nat->Option Value} (h:∀ b o v,Ae m b o=some v->F b o=some v) (b o:Nat):yE m F b o=F b o:=by
 show (match Ae m b o with | some v=>some v | none=>F b o)=F b o;split
 .rename_i v hv; exact (h b o v hv).symm
 .rfl
theorem TM {M:Mem} {c:Nat} {f:Nat->Option Value} (h:∀ o,M c o=none):∀ b o v,Ae M.m b o=some v->(if b=c then f o else M b o)=some v:=fun b o v e=>by
 have hb:b≠c:=fun hb=>by subst hb; have:=M.g _ _ _ e; rw[h] at this; cases this
 rw[aQ hb]; exact M.g _ _ _ e
open Go.RowKit
inductive PV where
 | int (k:IntKind) (n:Int)
 | bool (b:Bool)
 | str (s:ByteArray)
 | nilp
 | raw (v:Value)
 | ptr (i off:Nat)
 | cO (T:TypeId) (i:Nat)
 | cst (e:PV)
 | sl (own:Bool) (sz:Nat) (es:List PV)
 | slh (i off n sz:Nat)
 | cZ (l:List UInt8)
 | gB (o:Bool) (n sz:Nat) (cs:List PV)
 | mp (l:List PV)
 | func (fn:Fn) (first caps:List PV)
 | agg (cs:List PV)
 | tuple (cs:List PV)
instance:Inhabited PV:=⟨.nilp⟩
abbrev aN:=List (Nat×Nat×TypeId)
abbrev VL:=(Value->Prop)×(Nat->Nat->Prop)
def jD (M:Mem) (f:Value->Prop):VL:=(f,fun b o=>∃ u,M b o=some u/\f u)
def EZ (sz:Nat):List VL->Nat->Nat->Prop
 | [],_,_=>True
 | p::ps,b,o=>p.2 b o/\EZ sz ps b (o+sz)
def MQ (M:Mem):List VL->Nat->Nat->Prop
 | [],_,_=>True
 | p::ps,b,o=>(∃ u,M b o=some u/\p.1 u)/\MQ M ps b (o+1)
def ny:List VL->List Value->Prop
 | [],[]=>True
 | p::ps,v::vs=>p.1 v/\ny ps vs
 | _,_=>False
def PV.size:PV->Nat | .agg cs=>cs.length | _=>1
def PV.isAgg:PV->Bool | .agg _=>true | _=>false
def PV.own:PV->Bool | .sl o _ _=>o | .cZ _=>true | .gB o _ _ _=>o | _=>false
def PV.lit:PV->Bool | .int _ _=>true | .bool _=>true | .str _=>true | _=>false
def KU:Mem:=⟨0,Ae 0,fun _ _ _ h=>h⟩
def mY (l:List UInt8):List PV:=l.map fun x => .int .u8 x.toNat
def PV.un:PV->PV | .sl _ sz es => .sl false sz es | .cZ l => .sl false 1 (mY l) | .gB _ n sz _ => .gB false n sz [] | p=>p
def bC:Nat:=1073741824
def CW:Nat:=1000001
def XH (T:Nat) (c:Nat×Nat×Nat) (v:Value):Prop:=match Nat.beq T CW with
 | true=>c.2=(1,0)/\v = .pointer (some ⟨c.1,0,none⟩)
 | false=>c.2=(2,T+1)/\(v = .pointer none\/v = .pointer (some ⟨c.1,0,none⟩))
def XG (T:Nat) (c:Nat×Nat×Nat) (v:Value):Prop:=(T=0->c.2=(1,0)/\v = .map (some c.1))/\(T≠0->XH T c v)
theorem aVX {T:Nat} {c:Nat×Nat×Nat} {v:Value} (hT:Nat.beq T CW=false) (h:c.2=(2,T+1)) (hv:v = .pointer none\/v = .pointer (some ⟨c.1,0,none⟩)):XH T c v:=by grind [XH]
def Gi:Nat:=4242
mutual
def ah (M:Mem) (B:aN):PV->VL
 | .int k n=>jD M fun v=>v = .int k n
 | .bool b=>jD M fun v=>v = .bool b
 | .str s=>jD M fun v=>v = .string s
 | .nilp=>jD M fun v=>v = .pointer none
 | .raw u=>jD M fun v=>v=u/\u.oneCell'=true
 | .ptr i off=>jD M fun v=>∃ c,(B[i]? = some c/\c.2.2≠0)/\v = .pointer (some ⟨c.1,off,none⟩)
 | .cO T i=>jD M fun v=>∃ c,B[i]? = some c/\XG T c v
 | .cst e=>jD M fun v=>∃ b off,v = .pointer (some ⟨b,off,none⟩)/\(ah M [] e).2 b off
 | .sl _ sz es=>jD M fun v=>∃ A cap,v = .slice A es.length cap/\es.length<=cap/\(∀ e,e∈es->e.size=sz)/\(sz=0->es = []/\A=none/\cap=0)/\(es ≠ []->∃ b off,A=some ⟨b,off,none⟩/\EZ sz (iC M [] es) b off)
 | .cZ l=>jD M fun v=>∃ A cap,v = .slice A l.length cap/\l.length<=cap/\(l ≠ []->∃ b off,A=some ⟨b,off,none⟩/\∀ (j:Nat) x,l[j]? = some x->M b (off+j)=some (.int .u8 (x.toNat:Int)))
 | .gB _ n _ _=>jD M fun v=>∃ A cap,v = .slice A n cap/\n<=cap
 | .mp l=>jD M fun v=>∃ f,v = .func (.yield Gi) f #[]/\ny (iC M [] l) f.toList
 | .slh i off n sz=>jD M fun v=>∃ c cap,(B[i]? = some c/\c.2.2≠0)/\v = .slice (some ⟨c.1,off,none⟩) n cap/\n<=cap/\off+cap*sz<=c.2.1
 | .func fn first caps=>jD M fun v=>∃ f c,v = .func fn f c/\ny (iC M B first) f.toList/\ny (iC M B caps) c.toList
 | .agg cs=>(fun v=>∃ vs,v = .agg vs/\ny (iC M B cs) vs.toList,fun b o=>MQ M (iC M B cs) b o)
 | .tuple cs=>(fun v=>∃ vs,v = .tuple vs/\ny (iC M B cs) vs.toList,fun _ _=>False)
def iC (M:Mem) (B:aN):List PV->List VL
 | [] => []
 | p::ps=>ah M B p::iC M B ps
end
def Rep (M:Mem) (B:aN) (p:PV) (v:Value):Prop:=(ah M B p).1 v
def Loc (M:Mem) (B:aN) (p:PV) (b o:Nat):Prop:=(ah M B p).2 b o
def aj (M:Mem) (B:aN) (ps:List PV) (vs:List Value):Prop:=ny (iC M B ps) vs
def Cells (M:Mem) (B:aN) (ps:List PV) (b o:Nat):Prop:=MQ M (iC M B ps) b o
def jr (M:Mem) (B:aN) (sz:Nat) (ps:List PV) (b o:Nat):Prop:=EZ sz (iC M B ps) b o
section
variable {M:Mem} {B:aN}
theorem dS {k:IntKind} {n:Int} {v:Value}:Rep M B (.int k n) v↔v = .int k n:=by rfl
theorem jo {b:Bool} {v:Value}:Rep M B (.bool b) v↔v = .bool b:=by rfl
theorem iG {s:ByteArray} {v:Value}:Rep M B (.str s) v↔v = .string s:=by rfl
theorem Ie {v:Value}:Rep M B .nilp v↔v = .pointer none:=by rfl
theorem Bc {u v:Value}:Rep M B (.raw u) v↔v=u/\u.oneCell'=true:=by rfl
theorem vZ {i off:Nat} {v:Value}:Rep M B (.ptr i off) v↔∃ c,(B[i]? = some c/\c.2.2≠0)/\v = .pointer (some ⟨c.1,off,none⟩):=by rfl
theorem FW {T:TypeId} {i:Nat} {v:Value}:Rep M B (.cO T i) v↔∃ c,B[i]? = some c/\XG T c v:=by rfl
theorem AP {e:PV} {v:Value}:Rep M B (.cst e) v↔∃ b off,v = .pointer (some ⟨b,off,none⟩)/\Loc M [] e b off:=by rfl
theorem jE {o:Bool} {sz:Nat} {es:List PV} {v:Value}:Rep M B (.sl o sz es) v↔∃ A cap,v = .slice A es.length cap/\es.length<=cap/\(∀ e,e∈es->e.size=sz)/\(sz=0->es = []/\A=none/\cap=0)/\(es ≠ []->∃ b off,A=some ⟨b,off,none⟩/\jr M [] sz es b off):=by rfl
theorem sN {i off n sz:Nat} {v:Value}:Rep M B (.slh i off n sz) v↔∃ c cap,(B[i]? = some c/\c.2.2≠0)/\v = .slice (some ⟨c.1,off,none⟩) n cap/\n<=cap/\off+cap*sz<=c.2.1:=by rfl
theorem FX {o:Bool} {n sz:Nat} {cs:List PV} {v:Value}:Rep M B (.gB o n sz cs) v↔∃ A cap,v = .slice A n cap/\n<=cap:=by rfl
theorem a0G {l:List UInt8} {v:Value}:Rep M B (.cZ l) v↔∃ A cap,v = .slice A l.length cap/\l.length<=cap/\(l ≠ []->∃ b off,A=some ⟨b,off,none⟩/\∀ (j:Nat) x,l[j]? = some x->M b (off+j)=some (.int .u8 (x.toNat:Int))):=by rfl
theorem aQ1 {l:List PV} {v:Value}:Rep M B (.mp l) v↔∃ f,v = .func (.yield Gi) f #[]/\aj M [] l f.toList:=by rfl
theorem zW {fn:Fn} {first caps:List PV} {v:Value}:Rep M B (.func fn first caps) v↔∃ f c,v = .func fn f c/\aj M B first f.toList/\aj M B caps c.toList:=by rfl
theorem pG {cs:List PV} {v:Value}:Rep M B (.agg cs) v↔∃ vs,v = .agg vs/\aj M B cs vs.toList:=by rfl
theorem sQ {cs:List PV} {v:Value}:Rep M B (.tuple cs) v↔∃ vs,v = .tuple vs/\aj M B cs vs.toList:=by rfl
theorem dJ {vs:List Value}:aj M B [] vs↔vs = []:=by cases vs<;>simp[aj,iC,ny]
theorem bg {p:PV} {ps:List PV} {vs:List Value}:aj M B (p::ps) vs↔∃ u us,vs=u::us/\Rep M B p u/\aj M B ps us:=by
 cases vs with
 | nil=>simp[aj,iC,ny]
 | cons u us=>exact ⟨fun h=>⟨u,us,rfl,h.1,h.2⟩,fun ⟨_,_,e,h1,h2⟩=>by cases e; exact ⟨h1,h2⟩⟩
theorem aX1 {b o:Nat}:Cells M B [] b o:=by simp[Cells,iC,MQ]
theorem a3G {p:PV} {ps:List PV} {b o:Nat}:Cells M B (p::ps) b o↔(∃ u,M b o=some u/\Rep M B p u)/\Cells M B ps b (o+1):=by rfl
theorem UM {sz b o:Nat}:jr M B sz [] b o:=by simp[jr,iC,EZ]
theorem KI {sz:Nat} {p:PV} {ps:List PV} {b o:Nat}:jr M B sz (p::ps) b o↔Loc M B p b o/\jr M B sz ps b (o+sz):=by rfl
theorem yD {cs:List PV} {b o:Nat}:Loc M B (.agg cs) b o↔Cells M B cs b o:=by rfl
theorem vV {p:PV} (h:p.isAgg=false) (ht:∀ cs,p ≠ .tuple cs) {b o:Nat}:Loc M B p b o↔∃ u,M b o=some u/\Rep M B p u:=by cases p<;>first | exact absurd rfl (ht _) | (simp[PV.isAgg] at h; done) | simp[Loc,Rep,ah,jD]
theorem Zq {cs:List PV} {b o:Nat}:Loc M B (.tuple cs) b o↔False:=by rfl
theorem Uz {l:List UInt8} {v:Value}:Rep M B (.sl false 1 (mY l)) v↔Rep M B (.cZ l) v:=by
 rw[jE,a0G];have hl:(mY l).length=l.length:=by simp[mY]
 have hn:mY l ≠ []↔l ≠ []:=by grind
 have hs:∀ e,e∈mY l->e.size=1:=fun e he=>by obtain ⟨x,_,rfl⟩:=qR.1 he; rfl
 have key:∀ b off,jr M [] 1 (mY l) b off↔∀ (j:Nat) x,l[j]? = some x->M b (off+j)=some (.int .u8 (x.toNat:Int)):=by
  intro b off;have one:∀ (x:UInt8) (b o:Nat),Loc M [] (.int .u8 (x.toNat:Int)) b o↔M b o=some (.int .u8 (x.toNat:Int)):=fun x b o=>by simp[Loc,ah,jD]
  unfold mY;clear hl hn hs;induction l generalizing off with
  | nil=>simp[jr,iC,EZ]
  | cons a l ih =>
   refine Iff.trans (by rw[oN]; rfl) (Iff.trans (and_congr (one a b off) (ih (off+1))) ?_);constructor;grind
   .intro h;exact ⟨h 0 a rfl,fun j x hj=>by have:=h (j+1) x (by grind); rwa [show off+(j+1)=off+1+j by omega] at this⟩
 simp_all
theorem oL {p:PV} {v:Value}:Rep M B p.un v↔Rep M B p v:=by
 cases p with
 | cZ l=>exact Uz
 | gB o n sz cs=>rfl
 | _=>simp[PV.un,jE]
theorem a7V {p:PV} {b o:Nat}:Loc M B p.un b o↔Loc M B p b o:=by
 cases p with
 | cZ l =>rw[vV (p:=PV.un (.cZ l)) rfl (fun cs h=>by cases h),vV (p := .cZ l) rfl (fun cs h=>by cases h)];simp only[oL]
 | gB o n sz cs =>rw[vV (p:=PV.un (.gB o n sz cs)) rfl (fun cs h=>by cases h),vV (p := .gB o n sz cs) rfl (fun cs h=>by cases h)];rfl
 | _=>simp[PV.un,Loc,ah,jD]
theorem aBV (p:PV):p.un.size=p.size:=by cases p<;>rfl
theorem qE (p:PV):p.un.own=false:=by cases p<;>rfl
theorem bOZ (p:PV):p.un.un=p.un:=by cases p<;>rfl
theorem nG:∀ {ps:List PV} {vs:List Value},aj M B ps vs->ps.length=vs.length
 | [],vs,h=>by rw[dJ] at h; simp[h]
 | p::ps,vs,h=>by obtain ⟨u,us,rfl,_,h2⟩:=bg.1 h;simp[nG h2]
theorem uh:∀ {ps:List PV} {vs:List Value},aj M B ps vs->∀ {j:Nat} {p:PV},ps[j]? = some p->∃ u,vs[j]? = some u/\Rep M B p u
 | [],_,_,j,p,h=>by simp at h
 | q::ps,vs,hr,j,p,h=>by
  obtain ⟨u,us,rfl,h1,h2⟩:=bg.1 hr;cases j with
  | zero=>simp at h; subst h; exact ⟨u,by simp,h1⟩
  | succ j=>simp at h; obtain ⟨u',hu,hp⟩:=uh h2 h; exact ⟨u',by simpa using hu,hp⟩
theorem Ih:∀ {ps:List PV} {vs:List Value},ps.length=vs.length->(∀ (j:Nat) p u,ps[j]? = some p->vs[j]? = some u->Rep M B p u)->aj M B ps vs
 | [],[],_,_=>dJ.2 rfl
 | p::ps,u::us,hl,h=>bg.2 ⟨u,us,rfl,h 0 p u rfl rfl,Ih (by grind) fun j q v hq hv=>h (j+1) q v (by grind) (by grind)⟩
 | [],_::_,hl,_=>by simp at hl
 | _::_,[],hl,_=>by simp at hl
theorem NZ:∀ {ps:List PV} {b o:Nat},Cells M B ps b o->∀ {j:Nat} {p:PV},ps[j]? = some p->∃ u,M b (o+j)=some u/\Rep M B p u
 | [],_,_,_,j,p,h=>by simp at h
 | q::ps,b,o,hc,j,p,h=>by
  obtain ⟨h1,h2⟩:=a3G.1 hc;cases j with
  | zero=>simp at h; subst h; simpa using h1
  | succ j=>simp at h; obtain ⟨u,hu,hp⟩:=NZ h2 h; exact ⟨u,by rw[<- hu]; congr 1; omega,hp⟩
theorem Ei:∀ {ps:List PV} {b o:Nat},(∀ (j:Nat) p,ps[j]? = some p->∃ u,M b (o+j)=some u/\Rep M B p u)->Cells M B ps b o
 | [],_,_,_=>aX1
 | p::ps,b,o,h=>a3G.2 ⟨by simpa using h 0 p rfl,Ei fun j q hq=>by obtain ⟨u,hu,hr⟩:=h (j+1) q (by grind); grind⟩
theorem Dj:∀ {ps:List PV} {sz b o:Nat},jr M B sz ps b o->∀ {j:Nat} {p:PV},ps[j]? = some p->Loc M B p b (o+j*sz)
 | [],_,_,_,_,j,p,h=>by simp at h
 | q::ps,sz,b,o,hc,j,p,h=>by
  obtain ⟨h1,h2⟩:=KI.1 hc;cases j with
  | zero=>simp at h; subst h; simpa using h1
  | succ j=>simp at h; have:=Dj h2 h; rwa [show o+(j+1)*sz=o+sz+j*sz by rw[GV]; omega]
theorem zK:∀ {ps:List PV} {sz b o:Nat},(∀ (j:Nat) p,ps[j]? = some p->Loc M B p b (o+j*sz))->jr M B sz ps b o
 | [],_,_,_,_=>UM
 | p::ps,sz,b,o,h=>KI.2 ⟨by simpa using h 0 p rfl,zK fun j q hq=>by have:=h (j+1) q (by grind); rwa [show o+(j+1)*sz=o+sz+j*sz by rw[GV]; omega] at this⟩
theorem aNJ {ps qs:List PV} {sz b o:Nat} (h1:jr M B sz ps b o) (h2:jr M B sz qs b (o+ps.length*sz)):jr M B sz (ps ++ qs) b o :=
 zK fun j p hp=>by
  rcases yV j ps.length with h | h
  grind [Dj]
  .have:=Dj h2 (j:=j-ps.length) (by rwa [EQ h] at hp);rwa [show o+ps.length*sz+(j-ps.length)*sz=o+j*sz by rw[Nat.add_assoc,<- nM]; grind] at this
end
structure dG (M M':Mem) (B B':aN):Prop where
 mem:∀ (b o:Nat) (v:Value),M b o=some v->M' b o=some v
 blk:∀ (i:Nat) (c:Nat×Nat×TypeId),B[i]? = some c->B'[i]? = some c
theorem dG.refl (M:Mem) (B:aN):dG M M B B:=⟨fun _ _ _ h=>h,fun _ _ h=>h⟩
theorem dG.none {M M':Mem} {B B':aN} (h:dG M M' B B'):dG M M' [] []:=⟨h.mem,fun _ _ e=>e⟩
theorem dG.zero (M:Mem) (B:aN):dG M M [] B:=⟨fun _ _ _ e=>e,fun i c e=>by simp at e⟩
theorem dG.trans {M M' M'':Mem} {B B' B'':aN} (h:dG M M' B B') (k:dG M' M'' B' B''):dG M M'' B B'':=⟨fun b o v e=>k.mem b o v (h.mem b o v e),fun i c e=>k.blk i c (h.blk i c e)⟩
section
variable {M M':Mem} {B B':aN}
mutual
theorem a0K {B B':aN} (h:dG M M' B B'):∀ p:PV,(∀ v,(ah M B p).1 v->(ah M' B' p).1 v)/\(∀ b o,(ah M B p).2 b o->(ah M' B' p).2 b o)
 | .int k n=>by simp only[ah,jD]; exact ⟨fun _ h=>h,fun b o ⟨u,hu,e⟩=>⟨u,h.mem _ _ _ hu,e⟩⟩
 | .bool _=>by simp only[ah,jD]; exact ⟨fun _ h=>h,fun b o ⟨u,hu,e⟩=>⟨u,h.mem _ _ _ hu,e⟩⟩
 | .str _=>by simp only[ah,jD]; exact ⟨fun _ h=>h,fun b o ⟨u,hu,e⟩=>⟨u,h.mem _ _ _ hu,e⟩⟩
 | .nilp=>by simp only[ah,jD]; exact ⟨fun _ h=>h,fun b o ⟨u,hu,e⟩=>⟨u,h.mem _ _ _ hu,e⟩⟩
 | .raw _=>by simp only[ah,jD]; exact ⟨fun _ h=>h,fun b o ⟨u,hu,e⟩=>⟨u,h.mem _ _ _ hu,e⟩⟩
 | .ptr i off=>by
  have key:∀ v,(∃ c,(B[i]? = some c/\c.2.2≠0)/\v=Value.pointer (some ⟨c.1,off,none⟩))->∃ c,(B'[i]? = some c/\c.2.2≠0)/\v=Value.pointer (some ⟨c.1,off,none⟩):=fun v ⟨c,hc,e⟩=>⟨c,⟨h.blk _ _ hc.1,hc.2⟩,e⟩
  simp only[ah,jD]; exact ⟨key,fun b o ⟨u,hu,e⟩=>⟨u,h.mem _ _ _ hu,key u e⟩⟩
 | .cO T i=>by
  have key:∀ v,(∃ c,B[i]? = some c/\XG T c v)->∃ c,B'[i]? = some c/\XG T c v:=fun v ⟨c,hc,e⟩=>⟨c,h.blk _ _ hc,e⟩
  simp only[ah,jD]; exact ⟨key,fun b o ⟨u,hu,e⟩=>⟨u,h.mem _ _ _ hu,key u e⟩⟩
 | .cst e=>by
  have ih:=(a0K h.none e).2;have key:∀ v,(∃ b off,v=Value.pointer (some ⟨b,off,none⟩)/\(ah M [] e).2 b off)->(∃ b off,v=Value.pointer (some ⟨b,off,none⟩)/\(ah M' [] e).2 b off):=fun v ⟨b,off,e,hl⟩=>⟨b,off,e,ih _ _ hl⟩
  simp only[ah,jD]; exact ⟨key,fun b o ⟨u,hu,e⟩=>⟨u,h.mem _ _ _ hu,key u e⟩⟩
 | .sl _ sz es=>by
  have ih:=(EG h.none es).2.1;have key:∀ v,(∃ A cap,v=Value.slice A es.length cap/\es.length<=cap/\(∀ e,e∈es->e.size=sz)/\(sz=0->es = []/\A=none/\cap=0)/\(es ≠ []->∃ b off,A=some ⟨b,off,none⟩/\EZ sz (iC M [] es) b off)) ->
   (∃ A cap,v=Value.slice A es.length cap/\es.length<=cap/\(∀ e,e∈es->e.size=sz)/\(sz=0->es = []/\A=none/\cap=0)/\(es ≠ []->∃ b off,A=some ⟨b,off,none⟩/\EZ sz (iC M' [] es) b off)):=fun v ⟨A,cap,e,h1,h2,h3,h4⟩=>⟨A,cap,e,h1,h2,h3,fun hc=>by obtain ⟨b,off,hb,hl⟩:=h4 hc;exact ⟨b,off,hb,ih sz b off hl⟩⟩
  simp only[ah,jD]; exact ⟨key,fun b o ⟨u,hu,e⟩=>⟨u,h.mem _ _ _ hu,key u e⟩⟩
 | .slh i off n sz=>by
  have key:∀ v,(∃ c cap,(B[i]? = some c/\c.2.2≠0)/\v=Value.slice (some ⟨c.1,off,none⟩) n cap/\n<=cap/\off+cap*sz<=c.2.1)->(∃ c cap,(B'[i]? = some c/\c.2.2≠0)/\v=Value.slice (some ⟨c.1,off,none⟩) n cap/\n<=cap/\off+cap*sz<=c.2.1):=fun v ⟨c,cap,hc,e⟩=>⟨c,cap,⟨h.blk _ _ hc.1,hc.2⟩,e⟩
  simp only[ah,jD]; exact ⟨key,fun b o ⟨u,hu,e⟩=>⟨u,h.mem _ _ _ hu,key u e⟩⟩
 | .gB o n z cs=>by simp only[ah,jD]; exact ⟨fun _ h=>h,fun b o ⟨u,hu,e⟩=>⟨u,h.mem _ _ _ hu,e⟩⟩
 | .mp l=>by
  have i1:=(EG h.none l).1;have key:∀ v,(∃ f,v=Value.func (.yield Gi) f #[]/\ny (iC M [] l) f.toList)->(∃ f,v=Value.func (.yield Gi) f #[]/\ny (iC M' [] l) f.toList):=fun v ⟨f,e,h1⟩=>⟨f,e,i1 _ h1⟩
  simp only[ah,jD]; exact ⟨key,fun b o ⟨u,hu,e⟩=>⟨u,h.mem _ _ _ hu,key u e⟩⟩
 | .cZ l=>by
  have key:∀ v,(∃ A cap,v=Value.slice A l.length cap/\l.length<=cap/\(l ≠ []->∃ b off,A=some ⟨b,off,none⟩/\∀ (j:Nat) x,l[j]? = some x->M b (off+j)=some (.int .u8 (x.toNat:Int)))) ->
   (∃ A cap,v=Value.slice A l.length cap/\l.length<=cap/\(l ≠ []->∃ b off,A=some ⟨b,off,none⟩/\∀ (j:Nat) x,l[j]? = some x->M' b (off+j)=some (.int .u8 (x.toNat:Int)))):=fun v ⟨A,cap,e,h1,h2⟩=>⟨A,cap,e,h1,fun hc=>by obtain ⟨b,off,hb,hl⟩:=h2 hc;exact ⟨b,off,hb,fun j x hj=>h.mem _ _ _ (hl j x hj)⟩⟩
  simp only[ah,jD]; exact ⟨key,fun b o ⟨u,hu,e⟩=>⟨u,h.mem _ _ _ hu,key u e⟩⟩
 | .func fn first caps=>by
  have i1:=(EG h first).1;have i2:=(EG h caps).1;have key:∀ v,(∃ f c,v=Value.func fn f c/\ny (iC M B first) f.toList/\ny (iC M B caps) c.toList)->(∃ f c,v=Value.func fn f c/\ny (iC M' B' first) f.toList/\ny (iC M' B' caps) c.toList):=fun v ⟨f,c,e,h1,h2⟩=>⟨f,c,e,i1 _ h1,i2 _ h2⟩
  simp only[ah,jD]; exact ⟨key,fun b o ⟨u,hu,e⟩=>⟨u,h.mem _ _ _ hu,key u e⟩⟩
 | .agg cs=>by have ih:=EG h cs;simp only[ah]; exact ⟨fun v ⟨vs,e,hv⟩=>⟨vs,e,ih.1 _ hv⟩,fun b o hc=>ih.2.2 b o hc⟩
 | .tuple cs=>by have ih:=EG h cs;simp only[ah]; exact ⟨fun v ⟨vs,e,hv⟩=>⟨vs,e,ih.1 _ hv⟩,fun b o hc=>hc⟩
theorem EG {B B':aN} (h:dG M M' B B'):∀ ps:List PV,(∀ vs,ny (iC M B ps) vs->ny (iC M' B' ps) vs)/\(∀ sz b o,EZ sz (iC M B ps) b o->EZ sz (iC M' B' ps) b o)/\(∀ b o,MQ M (iC M B ps) b o->MQ M' (iC M' B' ps) b o)
 | []=>by simp only[iC]; exact ⟨fun vs h=>by cases vs<;>simpa[ny] using h,fun _ _ _ _=>trivial,fun _ _ _=>trivial⟩
 | p::ps=>by
  have h1:=a0K h p;have h2:=EG h ps;simp only[iC];exact ⟨fun vs hv=>by
   cases vs with
   | nil=>simp[ny] at hv
   | cons v vs=>exact ⟨h1.1 _ hv.1,h2.1 _ hv.2⟩,fun sz b o hl=>⟨h1.2 _ _ hl.1,h2.2.1 _ _ _ hl.2⟩,fun b o ⟨⟨u,hu,hr⟩,hc⟩=>⟨⟨u,h.mem _ _ _ hu,h1.1 _ hr⟩,h2.2.2 _ _ hc⟩⟩
end
theorem Rep.mono (h:dG M M' B B') {p:PV} {v:Value} (hr:Rep M B p v):Rep M' B' p v:=(a0K h p).1 v hr
theorem Loc.mono (h:dG M M' B B') {p:PV} {b o:Nat} (hr:Loc M B p b o):Loc M' B' p b o:=(a0K h p).2 b o hr
theorem aj.mono (h:dG M M' B B') {ps:List PV} {vs:List Value} (hr:aj M B ps vs):aj M' B' ps vs:=(EG h ps).1 vs hr
theorem jr.mono (h:dG M M' B B') {sz:Nat} {ps:List PV} {b o:Nat} (hr:jr M B sz ps b o):jr M' B' sz ps b o:=(EG h ps).2.1 sz b o hr
theorem Cells.mono (h:dG M M' B B') {ps:List PV} {b o:Nat} (hr:Cells M B ps b o):Cells M' B' ps b o:=(EG h ps).2.2 b o hr
end
mutual
def PV.flat:PV->Bool
 | .ptr _ _=>false
 | .cO _ _=>false
 | .slh _ _ _ _=>false
 | .func _ f c=>PV.flats f&&PV.flats c
 | .agg cs=>PV.flats cs
 | .tuple cs=>PV.flats cs
 | _=>true
def PV.flats:List PV->Bool
 | []=>true
 | p::ps=>p.flat&&PV.flats ps
end
section
variable {M:Mem} {B:aN}
mutual
theorem aQY (B':aN):∀ p:PV,p.flat=true->ah M B p=ah M B' p
 | .int _ _,_=>by simp only[ah]
 | .bool _,_=>by simp only[ah]
 | .str _,_=>by simp only[ah]
 | .nilp,_=>by simp only[ah]
 | .raw _,_=>by simp only[ah]
 | .ptr _ _,h=>by simp[PV.flat] at h
 | .cO _ _,h=>by simp[PV.flat] at h
 | .slh _ _ _ _,h=>by simp[PV.flat] at h
 | .cZ _,_=>by simp only[ah]
 | .gB _ _ _ _,_=>by simp only[ah]
 | .mp _,_=>by simp only[ah]
 | .cst e,_=>by simp only[ah]
 | .sl _ _ es,_=>by simp only[ah]
 | .func _ f c,h=>by simp only[PV.flat,bF] at h;simp only[ah,Pg B' f h.1,Pg B' c h.2]
 | .agg cs,h=>by simp only[ah,Pg B' cs (by simpa[PV.flat] using h)]
 | .tuple cs,h=>by simp only[ah,Pg B' cs (by simpa[PV.flat] using h)]
theorem Pg (B':aN):∀ ps:List PV,PV.flats ps=true->iC M B ps=iC M B' ps
 | [],_=>by simp only[iC]
 | p::ps,h=>by simp only[PV.flats,bF] at h;simp only[iC,aQY B' p h.1,Pg B' ps h.2]
end
theorem Rep.flat (B':aN) {p:PV} {v:Value} (hf:p.flat=true) (h:Rep M B p v):Rep M B' p v:=by grind [Rep,aQY]
theorem aj.flat (B':aN) {ps:List PV} {vs:List Value} (hf:PV.flats ps=true) (h:aj M B ps vs):aj M B' ps vs:=by grind [aj,Pg]
end
abbrev fD:=List (Nat×PV)
abbrev aG:=List (Option (List PV))
def bT (k:Nat):fD->Option PV
 | []=>none
 | (j,p)::l=>if j=k then some p else bT k l
def iI (k:Nat) (p:PV):fD->fD
 | [] => [(k,p)]
 | (j,q)::l=>if j=k then (k,p)::l else if k<j then (k,p)::(j,q)::l else (j,q)::iI k p l
structure ASt where
 s:fD
 h:aG
def bK (p:PV) (v:Value) (b:Nat):Nat:=if p.own then (match v with | .slice (some a) _ _=>if a.block=b then 1 else 0 | _=>0) else 0
def iP:fD->Array Value->Nat->Nat
 | [],_,_=>0
 | (k,p)::l,t,b=>bK p (t.getD k undef) b+iP l t b
def dQ:List PV->List Value->Nat->Nat
 | p::ps,v::vs,b=>bK p v b+dQ ps vs b
 | _,_,_=>0
def uO (es:List MapEntry):List Value:=es.flatMap fun e => [e.key,e.val]
def D5:List UInt8->List UInt8->Bool
 | [],[]=>false
 | [],_::_=>true
 | _::_,[]=>false
 | a::az,b::bs=>Nat.blt a.toNat b.toNat||(Nat.beq a.toNat b.toNat&&D5 az bs)
def U4:Value->Value->Bool
 | .string a,.string b=>D5 a.data.toList b.data.toList
 | _,_=>false
def ry:Value->Bool | .string _=>true | _=>false
def Ff:Value->Value->Bool
 | .string a,.string b=>a.data.toList==b.data.toList
 | _,_=>false
def tH (e:MapEntry):List MapEntry->List MapEntry
 | [] => [e]
 | x::l=>if U4 e.key x.key then e::x::l else x::tH e l
def Gw (l:List MapEntry) (e:MapEntry):List MapEntry :=if (ry e.key&&l.all fun x=>ry x.key) && !(l.any fun x=>Ff e.key x.key) then tH e l else l ++ [e]
def qJ (es:List MapEntry):List MapEntry:=es.foldl Gw []
def I9 (es:Array MapEntry):Value := .func (.yield Gi) (uO (qJ es.toList)).toArray #[]
def WZ:Nat:=4243
def Ht (s:ByteArray) (pos:Nat):Value := .func (.yield WZ) #[.string s,.int .i64 pos] #[]
def rowAt (w:World) (b:Nat):Option (Array Value×Nat):=match w.heap[b]? with
 | some (.cells vs ty (0,0))=>some (vs,ty+1)
 | some (.map es _)=>some (#[I9 es],0)
 | some (.stringIter s pos)=>some (#[Ht s pos],0)
 | _=>none
theorem LJ {w w':World} {b:Nat} (h:w'.heap[b]? = w.heap[b]?):rowAt w' b=rowAt w b:=by unfold rowAt; rw[h]
theorem Bg {w:World} {b:Nat} {vs:Array Value} {ty:TypeId} (h:w.heap[b]? = some (.cells vs ty (0,0))):rowAt w b=some (vs,ty+1):=by grind [rowAt]
theorem aAI {w:World} {b:Nat} {es:Array MapEntry} {ck:Nat} (h:w.heap[b]? = some (.map es ck)):rowAt w b=some (#[I9 es],0):=by unfold rowAt; rw[h]
theorem EE {w:World} {b:Nat} {vs:Array Value} {T:Nat} (h:rowAt w b=some (vs,T)) (hT:T≠0):∃ ty,T=ty+1/\w.heap[b]? = some (.cells vs ty (0,0)):=by grind [rowAt]
theorem aAH {w:World} {b:Nat} {s:ByteArray} {pos:Nat} (h:w.heap[b]? = some (.stringIter s pos)):rowAt w b=some (#[Ht s pos],0):=by unfold rowAt; rw[h]
theorem aQH {w:World} {b:Nat} {vs:Array Value} (h:rowAt w b=some (vs,0)):(∃ es ck,w.heap[b]? = some (.map es ck)/\vs = #[I9 es])\/∃ s pos,w.heap[b]? = some (.stringIter s pos)/\vs = #[Ht s pos]:=by grind [rowAt]
def gZ (w:World) (b:Nat):List Value:=match rowAt w b with | some (c,_)=>c.toList | none => []
def aP (w:World):aG->aN->Nat->Nat
 | some cs::h,c::B,b=>(if c.1=b then 1 else 0)+dQ cs (gZ w c.1) b+aP w h B b
 | none::h,_::B,b=>aP w h B b
 | _,_,_=>0
def TlS (M:Mem) (w:World) (p:PV) (v:Value):Prop :=∀ sz es A n cap,p = .sl true sz es->v = .slice A n cap->(A=none->cap=0)/\(sz=0->A=none)/\∀ a,A=some a->∃ cs ty,w.heap[a.block]? = some (.cells cs ty (0,0))/\a.off+cap*sz<=cs.size/\(∀ o,a.off+es.length*sz<=o->M a.block o=none)/\a.spot=none/\a.off=0
def JW:TypeId:=5
def TlT (M:Mem) (w:World) (p:PV) (v:Value):Prop :=∀ l A n cap,p = .cZ l->v = .slice A n cap->(A=none->cap=0)/\∀ a,A=some a->∃ cs,w.heap[a.block]? = some (.cells cs JW (0,0))/\cs.size=cap/\cap<=maxLen/\(∀ o,l.length<=o->M a.block o=none)/\a.spot=none/\a.off=0
def TlP (M:Mem) (w:World) (p:PV) (v:Value):Prop :=∀ n sz cs A m cap,p = .gB true n sz cs->v = .slice A m cap->(cs.length=n*sz/\0<sz)/\(A=none->cap=0)/\∀ a,A=some a->∃ vs ty,w.heap[a.block]? = some (.cells vs ty (0,0))/\cap*sz<=vs.size/\(∀ (j:Nat) p,cs[j]? = some p->p.lit=true/\∃ u,vs[j]? = some u/\Rep KU [] p u/\u.oneCell'=true)/\(∀ o,M a.block o=none)/\a.spot=none/\a.off=0
structure Tl (M:Mem) (w:World) (p:PV) (v:Value):Prop where
 s:TlS M w p v
 t:TlT M w p v
 p:TlP M w p v
theorem Q7 {M:Mem} {w:World} {p:PV} {v:Value} (hp:∀ l,p ≠ .cZ l) (h:TlS M w p v) (hq:∀ n z cs,p ≠ .gB true n z cs:=by intro _ _ _ h; cases h):Tl M w p v:=⟨h,fun l _ _ _ e _=>absurd e (hp l),fun n z cs _ _ _ e _=>absurd e (hq n z cs)⟩
theorem aBC {M:Mem} {w:World} {n z:Nat} {cs:List PV} {v:Value} (h:TlP M w (.gB true n z cs) v):Tl M w (.gB true n z cs) v:=⟨(fun _ _ _ _ _ e _=>by cases e),(fun _ _ _ _ e _=>by cases e),h⟩
def a2J (M:Mem) (B:aN) (w:World) (cs:List PV) (c:Nat×Nat×TypeId):Prop :=∃ vs ty,rowAt w c.1=some (vs,ty)/\(vs.size=c.2.1/\ty=c.2.2)/\cs.length<=vs.size/\(∀ (j:Nat) p,cs[j]? = some p->∃ v,vs[j]? = some v/\Rep M B p v/\Tl M w p v/\v.oneCell'=true)/\∀ o,M c.1 o=none
def qH (M:Mem) (B:aN) (w:World) (h:aG):Prop:=h.length=B.length/\∀ (i:Nat) cs,h[i]? = some (some cs)->∃ c,B[i]? = some c/\a2J M B w cs c
def fp (B:aN) (Z:ASt) (t:Array Value) (w:World) (b:Nat):Nat:=iP Z.s t b+aP w Z.h B b
def jI (s:fD):Prop:=s.Pairwise fun a b=>a.1<b.1
structure Inv (n:Nat) (M:Mem) (B:aN) (out:Nat->Nat) (Z:ASt) (t:Array Value) (w:World):Prop where
 size:t.size=n
 mem:∀ (b o:Nat) (v:Value),M b o=some v->w.cell? ⟨b,o,none⟩=some v/\v.oneCell'=true
 gp:jI Z.s
 slots:∀ k p,bT k Z.s=some p->k<n/\Rep M B p (t.getD k undef)/\Tl M w p (t.getD k undef)
 heap:qH M B w Z.h
 cnt:∀ b,fp B Z t w b+out b<=1
 new:∀ b,w.heap.size<=b->fp B Z t w b+out b=0
structure Fr (f:Nat->Nat) (M:Mem) (w:World) (M':Mem) (w':World):Prop where
 os:w'.os=w.os
 tape:w'.tape=w.tape
 output:w'.output=w.output
 size:w.heap.size<=w'.heap.size
 blk:∀ b,b<w.heap.size->f b=0->w'.heap[b]? = w.heap[b]? /\ ∀ o,M' b o=M b o
theorem Fr.refl (f:Nat->Nat) (M:Mem) (w:World):Fr f M w M w:=⟨rfl,rfl,rfl,cu _,fun _ _ _=>⟨rfl,fun _=>rfl⟩⟩
theorem Fr.trans {f g:Nat->Nat} {M M' M'':Mem} {w w' w'':World} (h:Fr f M w M' w') (k:Fr g M' w' M'' w'') (hg:∀ b,b<w.heap.size->f b=0->g b=0):Fr f M w M'' w'' :=⟨k.os.trans h.os,k.tape.trans h.tape,k.output.trans h.output,mP h.size k.size,fun b hb hf=>by obtain ⟨h1,h2⟩:=h.blk b hb hf;obtain ⟨k1,k2⟩:=k.blk b (QR hb h.size) (hg b hb hf);simp_all⟩
theorem Fr.mono {f g:Nat->Nat} {M M':Mem} {w w':World} (h:Fr f M w M' w') (hg:∀ b,b<w.heap.size->g b=0->f b=0):Fr g M w M' w' :=⟨h.os,h.tape,h.output,h.size,fun b hb h0=>h.blk b hb (hg b hb h0)⟩
structure Good (n:Nat) (out:Nat->Nat) (M:Mem) (B:aN) (Z:ASt) (t:Array Value) (w:World) (M':Mem) (B':aN) (Z':ASt) (t':Array Value) (w':World):Prop where
 inv:Inv n M' B' out Z' t' w'
 le:dG M M' B B'
 fr:Fr (fp B Z t w) M w M' w'
 own:∀ b,b<w.heap.size->fp B' Z' t' w' b<=fp B Z t w b
theorem Good.refl {n:Nat} {out:Nat->Nat} {M:Mem} {B:aN} {Z:ASt} {t:Array Value} {w:World} (h:Inv n M B out Z t w):Good n out M B Z t w M B Z t w :=⟨h,dG.refl _ _,Fr.refl _ _ _,fun _ _=>cu _⟩
theorem Good.trans {n:Nat} {out:Nat->Nat} {M M1 M2:Mem} {B B1 B2:aN} {Z Z1 Z2:ASt} {t t1 t2:Array Value} {w w1 w2:World}
 (h:Good n out M B Z t w M1 B1 Z1 t1 w1) (k:Good n out M1 B1 Z1 t1 w1 M2 B2 Z2 t2 w2):Good n out M B Z t w M2 B2 Z2 t2 w2 :=
 ⟨k.inv,h.le.trans k.le,h.fr.trans k.fr (fun b hb h0=>by have:=h.own b hb; omega),fun b hb=>mP (k.own b (QR hb h.fr.size)) (h.own b hb)⟩
theorem OJ {t:Array Value} {k j:Nat} {v:Value} (h:k≠j):(t.setIfInBounds k v).getD j undef=t.getD j undef:=by simp[h]
theorem TL {t:Array Value} {k:Nat} {v:Value} (h:k<t.size):(t.setIfInBounds k v).getD k undef=v:=by simp[h]
theorem Bq {kp:Nat×PV} {l:fD}:jI (kp::l)↔(∀ a,a∈l->kp.1<a.1)/\jI l:=by simp[jI]
theorem aRS {k:Nat} {p:PV}:∀ {s:fD} {a:Nat×PV},a∈iI k p s->a=(k,p)\/a∈s
 | [],a,h=>by simpa[iI] using h
 | (j,q)::l,a,h=>by
  rw[iI] at h;split at h
  grind
  .split at h
   simp_all
   .rcases jV.1 h with h | h
    .exact .inr (by simp[h])
    .rcases aRS h with h | h
     .exact .inl h
     .exact .inr (by simp[h])
theorem Bl {k:Nat} {p:PV}:∀ {s:fD},jI s->jI (iI k p s)
 | [],_=>by simp[iI,jI]
 | (j,q)::l,h=>by
  obtain ⟨h1,h2⟩:=Bq.1 h;rw[iI];split
  .rename_i e; subst e; exact Bq.2 ⟨h1,h2⟩
  .split
   .rename_i hlt; exact Bq.2 ⟨fun a ha=>by
     rcases jV.1 ha with rfl | ha
     .exact hlt
     .exact Nat.lt_trans hlt (h1 a ha),h⟩
   .rename_i hne hnl; exact Bq.2 ⟨fun a ha=>by
     rcases aRS ha with rfl | ha
     .show j<k; omega
     .exact h1 a ha,Bl h2⟩
theorem Pi {k:Nat}:∀ {s:fD},(∀ a,a∈s->k<a.1)->bT k s=none
 | [],_=>rfl
 | (j,q)::l,h=>by have:=h (j,q) (by simp);rw[bT,aQ (by omega)];exact Pi fun a ha=>h a (by simp[ha])
theorem Bj {k:Nat} {p:PV} (j:Nat):∀ {s:fD},jI s->bT j (iI k p s)=if k=j then some p else bT j s
 | [],_=>by rfl
 | (i,q)::l,h=>by
  obtain ⟨h1,h2⟩:=Bq.1 h;rw[iI];split
  .rename_i e; subst e; simp only[bT]; split<;>rfl
  .split
   .simp only[bT]
   .rw[bT,Bj j h2,bT];by_cases h3:i=j
    .subst h3; rw[aS rfl,aS rfl,aQ (by omega)]
    .rw[aQ h3,aQ h3]
theorem a0O {k:Nat} {p:PV}:∀ {s:fD},bT k s=some p->(k,p)∈s
 | [],h=>by simp[bT] at h
 | (j,q)::l,h=>by
  rw[bT] at h;split at h
  .rename_i e; subst e; injection h with h; subst h; simp
  .exact List.mem_cons_of_mem _ (a0O h)
theorem a8U {k:Nat} {v:Value} {t:Array Value} {b:Nat}:∀ {l:fD},(∀ a,a∈l->a.1≠k)->iP l (t.setIfInBounds k v) b=iP l t b
 | [],_=>rfl
 | (j,q)::l,h=>by rw[iP,iP,OJ (Ne.symm (h (j,q) (by simp))),a8U fun a ha=>h a (by simp[ha])]
def oq (s:fD) (t:Array Value) (k b:Nat):Nat:=match bT k s with | some q=>bK q (t.getD k undef) b | none=>0
theorem Uh {k:Nat} {p:PV} {v:Value} {t:Array Value} {b:Nat} (hk:k<t.size):∀ {s:fD},jI s->iP (iI k p s) (t.setIfInBounds k v) b+oq s t k b=iP s t b+bK p v b
 | [],_=>by simp[iI,iP,oq,bT,hk]
 | (j,q)::l,h=>by
  obtain ⟨h1,h2⟩:=Bq.1 h;rw[iI];split
  .rename_i e; subst e;have hl:∀ a,a∈l->a.1≠j:=fun a ha=>by have:=h1 a ha; simp at this; omega
   simp only[iP,TL hk,a8U hl,oq,bT,yY];omega
  .split
   .rename_i hne hlt;have hl:∀ a,a∈(j,q)::l->a.1≠k:=fun a ha=>by
     rcases jV.1 ha with rfl | ha
     .exact hne
     .have:=h1 a ha; simp at this; omega
    have hn:bT k ((j,q)::l)=none:=Pi fun a ha=>by
     rcases jV.1 ha with rfl | ha
     .exact hlt
     .have:=h1 a ha; simp at this; omega
    rw[iP,TL hk,a8U hl,oq,hn];show _+0=_;omega
   .rename_i hne hnl;have ih:=Uh (p:=p) (v:=v) (b:=b) hk h2;have e1:oq ((j,q)::l) t k b=oq l t k b:=by simp only[oq,bT,aQ hne]
    rw[e1,iP,iP,OJ (Ne.symm hne)];omega
theorem PM (p:PV) (v:Value) (b:Nat):bK p.un v b=0:=by simp[bK,qE]
theorem dC {p:PV} (h:p.own=false) (v:Value) (b:Nat):bK p v b=0:=by simp[bK,h]
theorem Dx {s:fD} {t:Array Value} {k b:Nat}:oq s t k b<=iP s t b:=by
 induction s with
 | nil=>simp[oq,bT,iP]
 | cons a l ih =>grind [oq,bT,iP]
theorem fA {M:Mem} {w:World} {p:PV} {v:Value} (h:p.own=false):Tl M w p v:=⟨fun sz es A n cap e _=>by grind [PV.own],fun l A n cap e _=>by grind [PV.own],fun n z cs A m cap e _=>by grind [PV.own]⟩
section
variable {n:Nat} {M:Mem} {B:aN} {out:Nat->Nat} {Z:ASt} {t:Array Value} {w:World}
theorem Tl.kept {M':Mem} {w':World} {p:PV} {v:Value} (h:Tl M w p v) (hb:∀ b,bK p v b=1->w'.heap[b]? = w.heap[b]? /\ ∀ o,M' b o=M b o):Tl M' w' p v:=by
 refine ⟨fun sz es A n cap e ev => ?_,fun l A n cap e ev => ?_,fun n z cs A m cap e ev => ?_⟩
 .obtain ⟨g1,g2,g3⟩:=h.s sz es A n cap e ev;grind [bK,PV.own]
 .obtain ⟨g1,g3⟩:=h.t l A n cap e ev;grind [bK,PV.own]
 .obtain ⟨g0,g1,g3⟩:=h.p n z cs A m cap e ev;grind [bK,PV.own]
theorem Inv.put (hI:Inv n M B out Z t w) {k:Nat} (hk:k<n) {p:PV} {v:Value} (hr:Rep M B p v) (ho:p.own=false) :
 Good n out M B Z t w M B { Z with s:=iI k p Z.s } (t.setIfInBounds k v) w:=by
 have hle:∀ b,fp B { Z with s:=iI k p Z.s } (t.setIfInBounds k v) w b<=fp B Z t w b:=fun b=>by have:=Uh (p:=p) (v:=v) (b:=b) (by rw[hI.size]; exact hk:k<t.size) hI.gp;rw[dC ho] at this;show iP (iI k p Z.s) (t.setIfInBounds k v) b+aP w Z.h B b<=iP Z.s t b+aP w Z.h B b;omega
 refine ⟨⟨by simp[hI.size],hI.mem,Bl hI.gp,fun j q hj => ?_,hI.heap,fun b=>by have:=hI.cnt b; have:=hle b; omega,fun b hb=>by have:=hI.new b hb; have:=hle b; omega⟩,dG.refl _ _,Fr.refl _ _ _,fun b _=>hle b⟩;rw[Bj j hI.gp] at hj;split at hj
 .rename_i e; subst e; injection hj with hj; subst hj
  rw[TL (by rw[hI.size]; exact hk)];grind [fA]
 .rename_i hne;rw[OJ hne];exact hI.slots j q hj
theorem Inv.clr (hI:Inv n M B out Z t w) {k:Nat} {p:PV} (hp:bT k Z.s=some p):Inv n M B out { Z with s:=iI k p.un Z.s } t w/\∀ b,fp B { Z with s:=iI k p.un Z.s } t w b+bK p (t.getD k undef) b=fp B Z t w b:=by
 have hk:=(hI.slots k p hp).1;have hks:k<t.size:=by rw[hI.size]; exact hk
 have hset:t.setIfInBounds k (t.getD k undef)=t:=by apply Array.ext (by simp);intro i h1 h2;by_cases h:k=i;simp_all;simp_all
 have hown:∀ b,iP (iI k p.un Z.s) t b+bK p (t.getD k undef) b=iP Z.s t b:=fun b=>by have:=Uh (p:=p.un) (v:=t.getD k undef) (b:=b) hks hI.gp;rw[hset,PM] at this;grind [oq]
 refine ⟨⟨hI.size,hI.mem,Bl hI.gp,fun j q hj => ?_,hI.heap,fun b=>by have:=hI.cnt b; have:=hown b; grind [fp],fun b hb=>by have:=hI.new b hb; have:=hown b; grind [fp]⟩,fun b=>by have:=hown b; simp only[fp]; omega⟩;rw[Bj j hI.gp] at hj;split at hj
 .rename_i e; subst e; injection hj with hj; subst hj
  exact ⟨hk,oL.2 (hI.slots _ _ hp).2.1,fA (qE _)⟩
 .exact hI.slots j q hj
theorem Inv.bK8 (hI:Inv n M B out Z t w) {k:Nat} (hk:k<n) {p:PV} {v:Value} (hr:Rep M B p v) (hT:Tl M w p v) (hc:∀ b,fp B Z t w b+bK p v b+out b<=1) (hn:∀ b,w.heap.size<=b->bK p v b=0) :
 Inv n M B out { Z with s:=iI k p Z.s } (t.setIfInBounds k v) w/\∀ b,fp B { Z with s:=iI k p Z.s } (t.setIfInBounds k v) w b<=fp B Z t w b+bK p v b:=by
 have hle:∀ b,fp B { Z with s:=iI k p Z.s } (t.setIfInBounds k v) w b<=fp B Z t w b+bK p v b:=fun b=>by have:=Uh (p:=p) (v:=v) (b:=b) (by rw[hI.size]; exact hk:k<t.size) hI.gp;simp only[fp]; omega
 refine ⟨⟨by simp[hI.size],hI.mem,Bl hI.gp,fun j q hj => ?_,hI.heap,fun b=>by have:=hc b; have:=hle b; omega,fun b hb=>by have:=hI.new b hb; have:=hle b; have:=hn b hb; omega⟩,hle⟩;rw[Bj j hI.gp] at hj;split at hj
 .rename_i e; subst e; injection hj with hj; subst hj
  rw[TL (by rw[hI.size]; exact hk)];simp_all
 .rename_i hne;rw[OJ hne];exact hI.slots j q hj
end
section
variable {n:Nat} {M M':Mem} {B B':aN} {out:Nat->Nat} {Z:ASt} {t:Array Value} {w w':World}
theorem xH:∀ {cs:List PV} {vs:List Value} {j:Nat} {p:PV} {v:Value} (b:Nat),cs[j]? = some p->vs[j]? = some v->bK p v b<=dQ cs vs b
 | [],_,_,_,_,_,h,_=>by simp at h
 | _::_,[],_,_,_,_,_,h=>by simp at h
 | q::cs,u::vs,0,p,v,b,h1,h2=>by grind [dQ]
 | q::cs,u::vs,j+1,p,v,b,h1,h2=>by have:=xH (j:=j) b (by simpa using h1) (by simpa using h2); rw[dQ]; omega
theorem kR:∀ {h:aG} {B:aN} {i:Nat} {cs:List PV} {c:Nat×Nat×TypeId} (b:Nat),h[i]? = some (some cs)->B[i]? = some c->(if c.1=b then 1 else 0)+dQ cs (gZ w c.1) b<=aP w h B b
 | [],_,_,_,_,_,h,_=>by simp at h
 | _::_,[],_,_,_,_,_,h=>by simp at h
 | some ds::h,d::B,0,cs,c,b,h1,h2=>by grind [aP]
 | none::h,d::B,0,cs,c,b,h1,h2=>by simp at h1
 | some ds::h,d::B,i+1,cs,c,b,h1,h2=>by have:=kR (i:=i) (c:=c) b (by simpa using h1) (by simpa using h2); rw[aP]; omega
 | none::h,d::B,i+1,cs,c,b,h1,h2=>by have:=kR (i:=i) (c:=c) b (by simpa using h1) (by simpa using h2); rw[aP]; omega
theorem FN:∀ {h:aG} {B:aN} (b:Nat),(∀ (i:Nat) cs c,h[i]? = some (some cs)->B[i]? = some c->gZ w' c.1=gZ w c.1)->aP w' h B b=aP w h B b
 | [],_,_,_=>by simp[aP]
 | some _::_,[],_,_=>by simp[aP]
 | none::_,[],_,_=>by simp[aP]
 | some ds::h,d::B,b,H=>by rw[aP,aP,FN b (fun i cs c h1 h2=>H (i+1) cs c (by grind) (by grind)),H 0 ds d rfl rfl]
 | none::h,d::B,b,H=>by rw[aP,aP,FN b (fun i cs c h1 h2=>H (i+1) cs c (by grind) (by grind))]
theorem PH {x:List PV} {c:Nat×Nat×TypeId}:∀ {h:aG} {B:aN} (b:Nat),h.length=B.length->aP w (h ++ [some x]) (B ++ [c]) b=aP w h B b+((if c.1=b then 1 else 0)+dQ x (gZ w c.1) b)
 | [],[],b,_=>by simp[aP]
 | some ds::h,d::B,b,H=>by simp only[gu,aP]; rw[PH b (by simpa using H)]; omega
 | none::h,d::B,b,H=>by simp only[gu,aP]; rw[PH b (by simpa using H)]
 | [],_::_,_,H=>by simp at H
 | _::_,[],_,H=>by simp at H
theorem NY {b:Nat} (h:w'.heap[b]? = w.heap[b]?):gZ w' b=gZ w b:=by unfold gZ; rw[LJ h]
theorem qK {b:Nat} {vs:Array Value} {ty:Nat} (h:rowAt w b=some (vs,ty)):gZ w b=vs.toList:=by unfold gZ; rw[h]
theorem qH.at (h:qH M B w Z.h) {i:Nat} {cs:List PV} (hi:Z.h[i]? = some (some cs)) {c:Nat×Nat×TypeId} (hc:B[i]? = some c):a2J M B w cs c:=by obtain ⟨c',hc',ho⟩:=h.2 i cs hi;rw[hc] at hc'; simp_all
theorem PK {b:Nat} (hI:Inv n M B out Z t w) (h:1<=fp B Z t w b+out b):b<w.heap.size:=by
 rcases yV b w.heap.size with h' | h'
 .exact h'
 .have:=hI.new b h'; omega
theorem Inv.ext (hI:Inv n M B out Z t w) (hle:dG M M' B B) (hmem:∀ (b o:Nat) (v:Value),M' b o=some v->w'.cell? ⟨b,o,none⟩=some v/\v.oneCell'=true)
 (hb:∀ b,1<=fp B Z t w b->w'.heap[b]? = w.heap[b]? /\ ∀ o,M' b o=M b o) (hsz:w.heap.size<=w'.heap.size) :
 Inv n M' B out Z t w'/\∀ b,fp B Z t w' b=fp B Z t w b:=by
 have DX:∀ (i:Nat) cs c,Z.h[i]? = some (some cs)->B[i]? = some c->1<=fp B Z t w c.1:=fun i cs c h1 h2=>by have:=kR (w:=w) c.1 h1 h2;grind [fp]
 have hfp:∀ b,fp B Z t w' b=fp B Z t w b:=fun b=>by grind [fp,FN,NY]
 refine ⟨⟨hI.size,hmem,hI.gp,fun k p hp => ?_,⟨hI.heap.1,fun i cs hi => ?_⟩,fun b=>by rw[hfp]; exact hI.cnt b,fun b h=>by rw[hfp]; exact hI.new b (mP hsz h)⟩,hfp⟩
 .obtain ⟨h1,h2,h3⟩:=hI.slots k p hp;refine ⟨h1,h2.mono hle,h3.kept fun b ho=>hb b ?_⟩;have:=Dx (s:=Z.s) (t:=t) (k:=k) (b:=b);grind [oq,fp]
 .obtain ⟨c,hc,vs,ty,h1,h2,h3,h4,h5⟩:=hI.heap.2 i cs hi;have hcb:=hb c.1 (DX i cs c hi hc);refine ⟨c,hc,vs,ty,by rw[LJ hcb.1,h1],h2,h3,fun j p hj => ?_,fun o=>by rw[hcb.2]; exact h5 o⟩;obtain ⟨v,hv,hr,hT,hone⟩:=h4 j p hj;refine ⟨v,hv,hr.mono hle,hT.kept fun b ho=>hb b ?_,hone⟩;have e1:=kR (w:=w) b hi hc;have e2:=xH b hj (by rw[qK h1]; grind:(gZ w c.1)[j]? = some v);simp only[fp]; omega
theorem Inv.drew (hI:Inv n M B out Z t w):Inv n M B out Z t w.drew/\Good n out M B Z t w M B Z t w.drew:=by have:=hI.ext (M':=M) (w':=w.drew) (dG.refl _ _) (fun b o v h=>hI.mem b o v h) (fun b _=>⟨rfl,fun _=>rfl⟩) (cu _);exact ⟨this.1,this.1,dG.refl _ _,⟨rfl,rfl,rfl,cu _,fun _ _ _=>⟨rfl,fun _=>rfl⟩⟩,fun b _=>by rw[this.2]; omega⟩
def laid (M:Mem) (b:Nat) (vs:List Value):Mem:=yE M.m fun b' o=>if b'=b then vs[o]? else M b' o
theorem yC (hI:Inv n M B out Z t w) (o:Nat):M w.heap.size o=none:=by
 cases hm:M w.heap.size o with
 | none=>rfl
 | some v=>have:=uw _ _ (hI.mem _ o v hm).1; simp at this
theorem yB {M:Mem} {c:Nat} (h:∀ o,M c o=none) (vs:List Value) (b o:Nat):laid M c vs b o=if b=c then vs[o]? else M b o:=BO (TM h) b o
theorem UA (hI:Inv n M B out Z t w) (vs:List Value):dG M (laid M w.heap.size vs) B B :=⟨fun b o v h=>by have:=uw _ _ (hI.mem b o v h).1;grind [yB,yC],fun _ _ h=>h⟩
theorem Inv.lay (hI:Inv n M B out Z t w) (vs:Array Value) (ty:TypeId) (k:Nat) (h1:∀ v,v∈vs->v.oneCell'=true) :
 Good n out M B Z t w (laid M w.heap.size (vs.toList.take k)) B Z t (w.alloc (.cells vs ty))/\∀ b,fp B Z t (w.alloc (.cells vs ty)) b=fp B Z t w b:=by
 have hle:=UA hI (vs.toList.take k);have hb:∀ b,1<=fp B Z t w b->(w.alloc (.cells vs ty)).heap[b]? = w.heap[b]? /\ ∀ o,laid M w.heap.size (vs.toList.take k) b o=M b o:=fun b hb=>by have:=PK hI (by omega:1<=fp B Z t w b+out b);grind [Below.heap_alloc,yB,yC]
 have:=hI.ext (w':=w.alloc (.cells vs ty)) hle (fun b o v h=>by
  by_cases e:b=w.heap.size;grind [yB,yC,World.cell?_alloc_new]
  .rw[yB (yC hI),aQ e] at h;rw[aCF _ _ _ e]; exact hI.mem b o v h) hb (by simp)
 refine ⟨⟨this.1,hle,⟨rfl,rfl,rfl,by simp,fun b hb _=>⟨J4 _ _ _ hb,fun o=>by rw[yB (yC hI),aQ (by omega)]⟩⟩,fun b _=>by rw[this.2]; omega⟩,this.2⟩
theorem Inv.aOB (hI:Inv n M B out Z t w) (vs:Array Value) (ty:TypeId) (cs:List PV) (hl:cs.length<=vs.size)
 (hr:∀ (j:Nat) p,cs[j]? = some p->∃ v,vs[j]? = some v/\Rep M (B ++ [(w.heap.size,vs.size,ty+1)]) p v/\Tl M w p v/\v.oneCell'=true/\∀ b,bK p v b=0) :
 Good n out M B Z t w M (B ++ [(w.heap.size,vs.size,ty+1)]) { Z with h:=Z.h ++ [some cs] } t (w.alloc (.cells vs ty)):=by
 have hle:dG M M B (B ++ [(w.heap.size,vs.size,ty+1)]):=⟨fun _ _ _ h=>h,fun i c h=>by rw[ut (iJ.1 h).1]; exact h⟩;obtain ⟨hE,hF⟩:=(hI.ext (M':=M) (w':=w.alloc (.cells vs ty)) (dG.refl _ _) (fun b o v h=>by have:=uw _ _ (hI.mem b o v h).1;simp only at this;rw[aCF _ _ _ (by simp; omega)]; exact hI.mem b o v h) (fun b hb=>⟨J4 _ _ _ (PK hI (by omega)),fun _=>rfl⟩) (by simp));have hC:∀ b,dQ cs vs.toList b=0:=fun b=>by
  have key:∀ (cs:List PV) (us:List Value),(∀ (j:Nat) p,cs[j]? = some p->∃ v,us[j]? = some v/\∀ b,bK p v b=0)->dQ cs us b=0:=by
   intro cs;induction cs with
   | nil=>grind [dQ]
   | cons p ps ih =>
    intro us h;obtain ⟨v,hv,h0⟩:=h 0 p rfl;cases us with
    | nil=>simp at hv
    | cons u us =>simp at hv; subst hv;rw[dQ,h0,ih us fun j q hq=>by obtain ⟨v,hv,h0⟩:=h (j+1) q (by grind); simp_all]
  grind
 have hat:gZ (w.alloc (.cells vs ty)) w.heap.size=vs.toList:=qK (Bg (QS w _));have hfp:∀ b,fp (B ++ [(w.heap.size,vs.size,ty+1)]) { Z with h:=Z.h ++ [some cs] } t (w.alloc (.cells vs ty)) b=fp B Z t w b+if w.heap.size=b then 1 else 0:=fun b=>by have:=hF b;simp only[fp] at this ⊢;rw[PH b hI.heap.1,hat,hC];grind
 have hlast:∀ (i:Nat) (cs':List PV),(Z.h ++ [some cs])[i]? = some (some cs')->(i<Z.h.length/\Z.h[i]? = some (some cs'))\/(i=Z.h.length/\cs'=cs):=fun i cs' h=>by grind
 refine ⟨⟨hI.size,hE.mem,hI.gp,fun k p hp => ?_,⟨by simp[hI.heap.1],fun i cs' hi => ?_⟩,fun b => ?_,fun b hb => ?_⟩,hle,⟨rfl,rfl,rfl,by simp,fun b hb _=>⟨J4 _ _ _ hb,fun _=>rfl⟩⟩,fun b hb=>by rw[hfp,aQ (by omega)]; omega⟩
 .obtain ⟨h1,h2,h3⟩:=hE.slots k p hp;exact ⟨h1,h2.mono hle,h3⟩
 .rcases hlast i cs' hi with ⟨hlt,hi'⟩ | ⟨rfl,rfl⟩
  .obtain ⟨c,hc,vs',ty',h1,h2,h3,h4,h5⟩:=hE.heap.2 i cs' hi';exact ⟨c,hle.blk _ _ hc,vs',ty',h1,h2,h3,fun j p hj=>by obtain ⟨v,a1,a2,a3,a4⟩:=h4 j p hj; exact ⟨v,a1,a2.mono hle,a3,a4⟩,h5⟩
  .refine ⟨(w.heap.size,vs.size,ty+1),by rw[hI.heap.1]; simp,vs,ty+1,Bg (QS w _),⟨rfl,rfl⟩,hl,fun j p hj => ?_,fun o => ?_⟩
   .obtain ⟨v,a1,a2,a3,a4,a5⟩:=hr j p hj;refine ⟨v,a1,a2,?_,a4⟩;exact a3.kept fun b hb=>by rw[a5] at hb; omega
   .cases hm:M w.heap.size o with
    | none=>rfl
    | some v=>have:=uw _ _ (hI.mem _ o v hm).1; simp at this
 .rw[hfp];have:=hI.cnt b;split
  .rename_i e; subst e; have:=hI.new _ (cu _); omega
  .omega
 .rw[hfp];simp at hb;have:=hI.new b (by omega);rw[aQ (by omega)]; omega
theorem Inv.aOC (hI:Inv n M B out Z t w) (ob:Obj) (vs:Array Value) (T:Nat) (hrow:rowAt (w.alloc ob) w.heap.size=some (vs,T)) (cs:List PV) (hl:cs.length<=vs.size)
 (hr:∀ (j:Nat) p,cs[j]? = some p->∃ v,vs[j]? = some v/\Rep M (B ++ [(w.heap.size,vs.size,T)]) p v/\Tl M w p v/\v.oneCell'=true/\∀ b,bK p v b=0) :
 Good n out M B Z t w M (B ++ [(w.heap.size,vs.size,T)]) { Z with h:=Z.h ++ [some cs] } t (w.alloc ob):=by
 have hle:dG M M B (B ++ [(w.heap.size,vs.size,T)]):=⟨fun _ _ _ h=>h,fun i c h=>by rw[ut (iJ.1 h).1]; exact h⟩;obtain ⟨hE,hF⟩:=(hI.ext (M':=M) (w':=w.alloc ob) (dG.refl _ _) (fun b o v h=>by have:=uw _ _ (hI.mem b o v h).1;simp only at this;rw[aCF _ _ _ (by simp; omega)]; exact hI.mem b o v h) (fun b hb=>⟨J4 _ _ _ (PK hI (by omega)),fun _=>rfl⟩) (by simp));have hC:∀ b,dQ cs vs.toList b=0:=fun b=>by
  have key:∀ (cs:List PV) (us:List Value),(∀ (j:Nat) p,cs[j]? = some p->∃ v,us[j]? = some v/\∀ b,bK p v b=0)->dQ cs us b=0:=by
   intro cs;induction cs with
   | nil=>grind [dQ]
   | cons p ps ih =>
    intro us h;obtain ⟨v,hv,h0⟩:=h 0 p rfl;cases us with
    | nil=>simp at hv
    | cons u us =>simp at hv; subst hv;rw[dQ,h0,ih us fun j q hq=>by obtain ⟨v,hv,h0⟩:=h (j+1) q (by grind); simp_all]
  grind
 have hat:gZ (w.alloc ob) w.heap.size=vs.toList:=qK (hrow);have hfp:∀ b,fp (B ++ [(w.heap.size,vs.size,T)]) { Z with h:=Z.h ++ [some cs] } t (w.alloc ob) b=fp B Z t w b+if w.heap.size=b then 1 else 0:=fun b=>by have:=hF b;simp only[fp] at this ⊢;rw[PH b hI.heap.1,hat,hC];grind
 have hlast:∀ (i:Nat) (cs':List PV),(Z.h ++ [some cs])[i]? = some (some cs')->(i<Z.h.length/\Z.h[i]? = some (some cs'))\/(i=Z.h.length/\cs'=cs):=fun i cs' h=>by grind
 refine ⟨⟨hI.size,hE.mem,hI.gp,fun k p hp => ?_,⟨by simp[hI.heap.1],fun i cs' hi => ?_⟩,fun b => ?_,fun b hb => ?_⟩,hle,⟨rfl,rfl,rfl,by simp,fun b hb _=>⟨J4 _ _ _ hb,fun _=>rfl⟩⟩,fun b hb=>by rw[hfp,aQ (by omega)]; omega⟩
 .obtain ⟨h1,h2,h3⟩:=hE.slots k p hp;exact ⟨h1,h2.mono hle,h3⟩
 .rcases hlast i cs' hi with ⟨hlt,hi'⟩ | ⟨rfl,rfl⟩
  .obtain ⟨c,hc,vs',ty',h1,h2,h3,h4,h5⟩:=hE.heap.2 i cs' hi';exact ⟨c,hle.blk _ _ hc,vs',ty',h1,h2,h3,fun j p hj=>by obtain ⟨v,a1,a2,a3,a4⟩:=h4 j p hj; exact ⟨v,a1,a2.mono hle,a3,a4⟩,h5⟩
  .refine ⟨(w.heap.size,vs.size,T),by rw[hI.heap.1]; simp,vs,T,hrow,⟨rfl,rfl⟩,hl,fun j p hj => ?_,fun o => ?_⟩
   .obtain ⟨v,a1,a2,a3,a4,a5⟩:=hr j p hj;refine ⟨v,a1,a2,?_,a4⟩;exact a3.kept fun b hb=>by rw[a5] at hb; omega
   .cases hm:M w.heap.size o with
    | none=>rfl
    | some v=>have:=uw _ _ (hI.mem _ o v hm).1; simp at this
 .rw[hfp];have:=hI.cnt b;split
  .rename_i e; subst e; have:=hI.new _ (cu _); omega
  .omega
 .rw[hfp];simp at hb;have:=hI.new b (by omega);rw[aQ (by omega)]; omega
theorem Inv.newObj (hI:Inv n M B out Z t w) (vs:Array Value) (ty:TypeId) (cs:List PV) (hl:cs.length<=vs.size)
 (hr:∀ (j:Nat) p,cs[j]? = some p->∃ v,vs[j]? = some v/\Rep M B p v/\Tl M w p v/\v.oneCell'=true/\∀ b,bK p v b=0) :
 Good n out M B Z t w M (B ++ [(w.heap.size,vs.size,ty+1)]) { Z with h:=Z.h ++ [some cs] } t (w.alloc (.cells vs ty)) :=
 hI.aOB vs ty cs hl fun j p hj=>by obtain ⟨v,a1,a2,a3⟩:=hr j p hj;exact ⟨v,a1,a2.mono ⟨fun _ _ _ h=>h,fun i c h=>by rw[ut (iJ.1 h).1]; exact h⟩,a3⟩
theorem Inv.setCell (hI:Inv n M B out Z t w) {i j:Nat} {cs:List PV} {c:Nat×Nat×TypeId} (hi:Z.h[i]? = some (some cs)) (hc:B[i]? = some c) (hm:c.2.2≠0) (hj:j<cs.length) {p:PV} {v:Value}
 (hr:Rep M B p v) (hT:Tl M w p v) (h1:v.oneCell'=true) (hcnt:∀ b,fp B Z t w b+bK p v b+out b<=1) (hnew:∀ b,w.heap.size<=b->bK p v b=0) :
 Inv n M B out { Z with h:=Z.h.set i (some (cs.set j p)) } t (w.setCell ⟨c.1,j,none⟩ v)/\(∀ b,fp B { Z with h:=Z.h.set i (some (cs.set j p)) } t (w.setCell ⟨c.1,j,none⟩ v) b<=fp B Z t w b+bK p v b) /\
 Fr (fp B Z t w) M w M (w.setCell ⟨c.1,j,none⟩ v)/\w.frozen? ⟨c.1,j,none⟩=false/\(w.cell? ⟨c.1,j,none⟩).isSome=true:=by
 obtain ⟨vs,ty,r1,o2,o3,o4,o5⟩:=hI.heap.at hi hc;obtain ⟨ty,rfl,o1⟩:=EE r1 (by rw[o2.2]; exact hm);have hset:w.setCell ⟨c.1,j,none⟩ v=w.setRow c.1 (vs.setIfInBounds j v):=setCell_eq_setRow w c.1 j vs ty (0,0) v o1;have hblk:1<=fp B Z t w c.1:=by have:=kR (w:=w) c.1 hi hc;grind [fp]
 have hoth:∀ b,b≠c.1->(w.setCell ⟨c.1,j,none⟩ v).heap[b]? = w.heap[b]? := fun b hb=>Below.heap_setCell _ _ _ _ hb
 have hself:(w.setCell ⟨c.1,j,none⟩ v).heap[c.1]? = some (.cells (vs.setIfInBounds j v) ty (0,0)):=by rw[hset]; grind [setRow_heap]
 have ZE:j<vs.size:=by omega
 have hne:∀ (i':Nat) cs' c',i'≠i->Z.h[i']? = some (some cs')->B[i']? = some c'->c'.1≠c.1:=by
  have key:∀ (h:aG) (B:aN) (i i':Nat) cs cs' c c',i'<i->h[i]? = some (some cs)->B[i]? = some c->h[i']? = some (some cs')->B[i']? = some c'->c.1=c'.1->2<=aP w h B c.1:=by
   intro h;induction h with
   | nil=>simp
   | cons x h ih =>
    intro B i i' cs cs' c c' hlt h1 h2 h3 h4 he;cases B with
    | nil=>simp at h2
    | cons d B =>
     cases i with
     | zero=>omega
     | succ i =>
      simp at h1 h2;cases i' with
      | zero =>simp at h3 h4; subst h3; subst h4;have:=kR (w:=w) c.1 h1 h2;grind [aP]
      | succ i' =>simp at h3 h4;have:=ih B i i' cs cs' c c' (by omega) h1 h2 h3 h4 he;cases x<;>rw[aP]<;>omega
  grind [fp]
 have hcell:∀ (i':Nat) cs' c',Z.h[i']? = some (some cs')->B[i']? = some c'->i'≠i->gZ (w.setCell ⟨c.1,j,none⟩ v) c'.1=gZ w c'.1:=fun i' cs' c' h1 h2 hii=>NY (hoth _ (hne i' cs' c' hii h1 h2))
 have hfp:∀ b,fp B { Z with h:=Z.h.set i (some (cs.set j p)) } t (w.setCell ⟨c.1,j,none⟩ v) b<=fp B Z t w b+bK p v b:=fun b=>by
  have key:∀ (cs:List PV) (us:List Value) (j:Nat),dQ (cs.set j p) (us.set j v) b<=dQ cs us b+bK p v b:=by
   intro cs;induction cs with
   | nil=>grind [dQ]
   | cons q qs ih =>
    intro us j;cases us with
    | nil=>simp[dQ]
    | cons u us =>
     cases j with
     | zero=>grind [dQ]
     | succ j=>have:=ih us j; grind [dQ]
  have U3:∀ (h:aG) (B:aN) (i:Nat),h[i]? = some (some cs)->B[i]? = some c->(∀ (i':Nat) cs' c',h[i']? = some (some cs')->B[i']? = some c'->i'≠i->gZ (w.setCell ⟨c.1,j,none⟩ v) c'.1=gZ w c'.1) ->
   aP (w.setCell ⟨c.1,j,none⟩ v) (h.set i (some (cs.set j p))) B b<=aP w h B b+bK p v b:=by
   intro h;induction h with
   | nil=>simp
   | cons x h ih =>
    intro B i h1 h2 h3;cases B with
    | nil=>simp at h2
    | cons d B =>
     cases i with
     | zero =>simp at h1 h2; subst h1; subst h2;have e1:=FN (w':=w.setCell ⟨d.1,j,none⟩ v) (w:=w) (h:=h) (B:=B) b (fun i' cs' c' a1 a2=>h3 (i'+1) cs' c' (by grind) (by grind) (by omega));simp only[List.set_cons_zero,aP];rw[e1,qK (Bg hself),qK r1,aTD];have:=key cs vs.toList j;omega
     | succ i =>
      simp at h1 h2;have:=ih B i h1 h2 (fun i' cs' c' a1 a2 a3=>h3 (i'+1) cs' c' (by grind) (by grind) (by omega));cases x with
      | none=>grind [aP]
      | some ds =>have e:=h3 0 ds d rfl rfl (by omega);grind [aP]
  have:=U3 Z.h B i hi hc hcell;simp only[fp]; omega
 have hpb:∀ b,bK p v b=1->b≠c.1:=fun b hb e=>by grind
 refine ⟨⟨hI.size,fun b o u h => ?_,hI.gp,fun k q hq => ?_,⟨by simp[hI.heap.1],fun i' cs' hi' => ?_⟩,fun b=>by have:=hfp b; have:=hcnt b; omega,fun b hb => ?_⟩,hfp,⟨rfl,rfl,rfl,by simp_all,fun b hb h0=>⟨hoth b fun e=>by grind,fun _=>rfl⟩⟩,by simp[World.frozen?,o1],by simp[World.cell?,o1,ZE]⟩
 .have hm:=hI.mem b o u h;have hbc:b≠c.1:=fun e=>by simp_all
  grind [World.cell?_of_block]
 .obtain ⟨s1,s2,s3⟩:=hI.slots k q hq;refine ⟨s1,s2,s3.kept fun b hb=>⟨hoth b fun e => ?_,fun _=>rfl⟩⟩;subst e;have e1:=Dx (s:=Z.s) (t:=t) (k:=k) (b:=c.1);simp only[oq,hq] at e1;have e2:=hI.cnt c.1;have e3:=kR (w:=w) c.1 hi hc;grind [fp]
 .by_cases hii:i'=i
  .subst hii;rw[zf (iJ.1 hi).1] at hi';injection hi' with hi'; injection hi' with hi'; subst hi'
   refine ⟨c,hc,vs.setIfInBounds j v,ty+1,Bg hself,by grind,by grind,fun j' q hq => ?_,o5⟩;by_cases hjj:j=j'
   .subst hjj;rw[zf hj] at hq; injection hq with hq; subst hq
    exact ⟨v,by simp[ZE],hr,hT.kept fun b hb=>⟨hoth b (hpb b hb),fun _=>rfl⟩,h1⟩
   .rw[qF hjj] at hq;obtain ⟨u,a1,a2,a3,a4⟩:=o4 j' q hq;refine ⟨u,by rw[aTC hjj]; exact a1,a2,a3.kept fun b hb=>⟨hoth b fun e => ?_,fun _=>rfl⟩,a4⟩;subst e;have e2:=hI.cnt c.1;have e3:=kR (w:=w) c.1 hi hc;have e4:=xH c.1 hq (by rw[qK r1]; grind:(gZ w c.1)[j']? = some u);grind [fp]
  .rw[qF (Ne.symm hii)] at hi';obtain ⟨c',hc',vs',ty',a1,a2,a3,a4,a5⟩:=hI.heap.2 i' cs' hi';have hcc:=hne i' cs' c' hii hi' hc';refine ⟨c',hc',vs',ty',by rw[LJ (hoth _ hcc)]; exact a1,a2,a3,fun j' q hq => ?_,a5⟩;obtain ⟨u,b1,b2,b3,b4⟩:=a4 j' q hq;refine ⟨u,b1,b2,b3.kept fun b hb=>⟨hoth b fun e => ?_,fun _=>rfl⟩,b4⟩;subst e;have key:∀ (h:aG) (B:aN) (i i':Nat),i≠i'->h[i]? = some (some cs)->B[i]? = some c->h[i']? = some (some cs')->B[i']? = some c'->2<=aP w h B c.1:=by
    intro h;induction h with
    | nil=>simp
    | cons x h ih =>
     intro B i i' hlt h1 h2 h3 h4;have e4:=xH c.1 hq (by rw[qK a1]; grind:(gZ w c'.1)[j']? = some u);cases B with
     | nil=>simp at h2
     | cons d B =>
      cases i with
      | zero =>
       cases i' with
       | zero=>omega
       | succ i' =>simp at h1 h2 h3 h4; subst h1; subst h2;have:=kR (w:=w) d.1 h3 h4;rw[aP,aS rfl]; omega
      | succ i =>
       simp at h1 h2;cases i' with
       | zero =>simp at h3 h4; subst h3; subst h4;have:=kR (w:=w) c.1 h1 h2;grind [aP]
       | succ i' =>simp at h3 h4;have:=ih B i i' (by omega) h1 h2 h3 h4;cases x<;>rw[aP]<;>omega
   have e2:=hI.cnt c.1;have:=key Z.h B i i' (Ne.symm hii) hi hc hi' hc';grind [fp]
 .have:=hfp b;simp[World.setCell] at hb;have e1:=hI.new b hb;have e2:=hnew b hb;omega
theorem Inv.setRow (hI:Inv n M B out Z t w) {i j:Nat} {cs:List PV} {c:Nat×Nat×TypeId} (hi:Z.h[i]? = some (some cs)) (hc:B[i]? = some c) {vs:Array Value} {T:Nat} (r1:rowAt w c.1=some (vs,T)) (hj:j<cs.length) {p:PV} {v:Value}
 (hr:Rep M B p v) (hT:Tl M w p v) (h1:v.oneCell'=true) (hcnt:∀ b,fp B Z t w b+bK p v b+out b<=1) (hnew:∀ b,w.heap.size<=b->bK p v b=0)
 {w':World} (hoth:∀ b,b≠c.1->w'.heap[b]? = w.heap[b]?) (hself:rowAt w' c.1=some (vs.setIfInBounds j v,T)) (hos:w'.os=w.os) (htp:w'.tape=w.tape) (hou:w'.output=w.output) (hsz:w'.heap.size=w.heap.size) :
 Inv n M B out { Z with h:=Z.h.set i (some (cs.set j p)) } t w'/\(∀ b,fp B { Z with h:=Z.h.set i (some (cs.set j p)) } t w' b<=fp B Z t w b+bK p v b) /\
 Fr (fp B Z t w) M w M w':=by
 obtain ⟨vs',ty,r1',o2,o3,o4,o5⟩:=hI.heap.at hi hc;rw[r1] at r1';injection r1' with r1'; injection r1' with e1 e2; subst e1; subst e2
 have hblk:1<=fp B Z t w c.1:=by have:=kR (w:=w) c.1 hi hc;grind [fp]
 have ZE:j<vs.size:=by omega
 have hne:∀ (i':Nat) cs' c',i'≠i->Z.h[i']? = some (some cs')->B[i']? = some c'->c'.1≠c.1:=by
  have key:∀ (h:aG) (B:aN) (i i':Nat) cs cs' c c',i'<i->h[i]? = some (some cs)->B[i]? = some c->h[i']? = some (some cs')->B[i']? = some c'->c.1=c'.1->2<=aP w h B c.1:=by
   intro h;induction h with
   | nil=>simp
   | cons x h ih =>
    intro B i i' cs cs' c c' hlt h1 h2 h3 h4 he;cases B with
    | nil=>simp at h2
    | cons d B =>
     cases i with
     | zero=>omega
     | succ i =>
      simp at h1 h2;cases i' with
      | zero =>simp at h3 h4; subst h3; subst h4;have:=kR (w:=w) c.1 h1 h2;grind [aP]
      | succ i' =>simp at h3 h4;have:=ih B i i' cs cs' c c' (by omega) h1 h2 h3 h4 he;cases x<;>rw[aP]<;>omega
  grind [fp]
 have hcell:∀ (i':Nat) cs' c',Z.h[i']? = some (some cs')->B[i']? = some c'->i'≠i->gZ w' c'.1=gZ w c'.1:=fun i' cs' c' h1 h2 hii=>NY (hoth _ (hne i' cs' c' hii h1 h2))
 have hfp:∀ b,fp B { Z with h:=Z.h.set i (some (cs.set j p)) } t w' b<=fp B Z t w b+bK p v b:=fun b=>by
  have key:∀ (cs:List PV) (us:List Value) (j:Nat),dQ (cs.set j p) (us.set j v) b<=dQ cs us b+bK p v b:=by
   intro cs;induction cs with
   | nil=>grind [dQ]
   | cons q qs ih =>
    intro us j;cases us with
    | nil=>simp[dQ]
    | cons u us =>
     cases j with
     | zero=>grind [dQ]
     | succ j=>have:=ih us j; grind [dQ]
  have U3:∀ (h:aG) (B:aN) (i:Nat),h[i]? = some (some cs)->B[i]? = some c->(∀ (i':Nat) cs' c',h[i']? = some (some cs')->B[i']? = some c'->i'≠i->gZ w' c'.1=gZ w c'.1) ->
   aP w' (h.set i (some (cs.set j p))) B b<=aP w h B b+bK p v b:=by
   intro h;induction h with
   | nil=>simp
   | cons x h ih =>
    intro B i h1 h2 h3;cases B with
    | nil=>simp at h2
    | cons d B =>
     cases i with
     | zero =>simp at h1 h2; subst h1; subst h2;have e1:=FN (w':=w') (w:=w) (h:=h) (B:=B) b (fun i' cs' c' a1 a2=>h3 (i'+1) cs' c' (by grind) (by grind) (by omega));grind [aP,qK,Array.toList_setIfInBounds]
     | succ i =>
      simp at h1 h2;have:=ih B i h1 h2 (fun i' cs' c' a1 a2 a3=>h3 (i'+1) cs' c' (by grind) (by grind) (by omega));cases x with
      | none=>grind [aP]
      | some ds =>have e:=h3 0 ds d rfl rfl (by omega);grind [aP]
  have:=U3 Z.h B i hi hc hcell;simp only[fp]; omega
 have hpb:∀ b,bK p v b=1->b≠c.1:=fun b hb e=>by grind
 refine ⟨⟨hI.size,fun b o u h => ?_,hI.gp,fun k q hq => ?_,⟨by simp[hI.heap.1],fun i' cs' hi' => ?_⟩,fun b=>by have:=hfp b; have:=hcnt b; omega,fun b hb => ?_⟩,hfp,⟨hos,htp,hou,xZ hsz.symm,fun b hb h0=>⟨hoth b fun e=>by grind,fun _=>rfl⟩⟩⟩
 .have hm:=hI.mem b o u h;have hbc:b≠c.1:=fun e=>by simp_all
  grind [World.cell?_of_block]
 .obtain ⟨s1,s2,s3⟩:=hI.slots k q hq;refine ⟨s1,s2,s3.kept fun b hb=>⟨hoth b fun e => ?_,fun _=>rfl⟩⟩;subst e;have e1:=Dx (s:=Z.s) (t:=t) (k:=k) (b:=c.1);simp only[oq,hq] at e1;have e2:=hI.cnt c.1;have e3:=kR (w:=w) c.1 hi hc;grind [fp]
 .by_cases hii:i'=i
  .subst hii;rw[zf (iJ.1 hi).1] at hi';injection hi' with hi'; injection hi' with hi'; subst hi'
   refine ⟨c,hc,vs.setIfInBounds j v,T,hself,by grind,by grind,fun j' q hq => ?_,o5⟩;by_cases hjj:j=j'
   .subst hjj;rw[zf hj] at hq; injection hq with hq; subst hq
    exact ⟨v,by simp[ZE],hr,hT.kept fun b hb=>⟨hoth b (hpb b hb),fun _=>rfl⟩,h1⟩
   .rw[qF hjj] at hq;obtain ⟨u,a1,a2,a3,a4⟩:=o4 j' q hq;refine ⟨u,by rw[aTC hjj]; exact a1,a2,a3.kept fun b hb=>⟨hoth b fun e => ?_,fun _=>rfl⟩,a4⟩;subst e;have e2:=hI.cnt c.1;have e3:=kR (w:=w) c.1 hi hc;have e4:=xH c.1 hq (by rw[qK r1]; grind:(gZ w c.1)[j']? = some u);grind [fp]
  .rw[qF (Ne.symm hii)] at hi';obtain ⟨c',hc',vs',ty',a1,a2,a3,a4,a5⟩:=hI.heap.2 i' cs' hi';have hcc:=hne i' cs' c' hii hi' hc';refine ⟨c',hc',vs',ty',by rw[LJ (hoth _ hcc)]; exact a1,a2,a3,fun j' q hq => ?_,a5⟩;obtain ⟨u,b1,b2,b3,b4⟩:=a4 j' q hq;refine ⟨u,b1,b2,b3.kept fun b hb=>⟨hoth b fun e => ?_,fun _=>rfl⟩,b4⟩;subst e;have key:∀ (h:aG) (B:aN) (i i':Nat),i≠i'->h[i]? = some (some cs)->B[i]? = some c->h[i']? = some (some cs')->B[i']? = some c'->2<=aP w h B c.1:=by
    intro h;induction h with
    | nil=>simp
    | cons x h ih =>
     intro B i i' hlt h1 h2 h3 h4;have e4:=xH c.1 hq (by rw[qK a1]; grind:(gZ w c'.1)[j']? = some u);cases B with
     | nil=>simp at h2
     | cons d B =>
      cases i with
      | zero =>
       cases i' with
       | zero=>omega
       | succ i' =>simp at h1 h2 h3 h4; subst h1; subst h2;have:=kR (w:=w) d.1 h3 h4;rw[aP,aS rfl]; omega
      | succ i =>
       simp at h1 h2;cases i' with
       | zero =>simp at h3 h4; subst h3; subst h4;have:=kR (w:=w) c.1 h1 h2;grind [aP]
       | succ i' =>simp at h3 h4;have:=ih B i i' (by omega) h1 h2 h3 h4;cases x<;>rw[aP]<;>omega
   have e2:=hI.cnt c.1;have:=key Z.h B i i' (Ne.symm hii) hi hc hi' hc';grind [fp]
 .have:=hfp b;rw[hsz] at hb;have e1:=hI.new b hb;have e2:=hnew b hb;omega
end
structure TI where
 size:Nat
 bytes:Nat
 agg:Bool
 zero:List PV
def mM:Value->PV
 | .int k n => .int k n
 | .bool b => .bool b
 | .string s => .str s
 | .pointer none => .nilp
 | .slice none n c=>if n=0/\c=0 then .sl true 0 [] else .raw (.slice none n c)
 | .func fn f c=>if f.isEmpty/\c.isEmpty then .func fn [] [] else .raw (.func fn f c)
 | v => .raw v
def FH (z:Nat) (o:Bool) (es:List PV):PV:=match Nat.blt 1000000 z with
 | true => .gB o 0 (z-1000000) []
 | false => .sl o z es
def PV.EC (z:Nat):PV->PV
 | .sl o s es=>if s=0 then FH z o es else .sl o s es
 | p=>p
theorem aOE {M:Mem} {B:aN} {z:Nat} {o o':Bool} {es:List PV} {v:Value} (h:Rep M B (.sl o' 0 es) v):Rep M B (FH z o es) v:=by
 obtain ⟨A,c,rfl,h1,h2,h3,h4⟩:=jE.1 h;obtain ⟨h5,h6,h7⟩:=h3 rfl; subst h5;unfold FH;split
 .exact FX.2 ⟨A,c,rfl,zg _⟩
 .exact jE.2 ⟨A,c,rfl,h1,by simp,fun _=>⟨rfl,h6,h7⟩,by simp⟩
theorem bH1 {z:Nat} {o:Bool} {es:List PV}:(FH z o es).own=o:=by unfold FH; split<;>rfl
theorem aOF {M:Mem} {w:World} {z:Nat} {o:Bool} {es:List PV}:Tl M w (FH z o es) (.slice none es.length 0):=by
 unfold FH;split
 .rename_i hz;refine ⟨(fun _ _ _ _ _ e _=>by cases e),(fun _ _ _ _ e _=>by cases e),fun n sz cs A m cap e ev => ?_⟩;grind [Nat.blt_eq]
 .refine Q7 (fun l h=>by cases h) ?_;intro sz es' A n cap e ev;grind
def NW (P:Program):Nat->TypeId->List Nat
 | 0,_ => []
 | k+1,t=>match P.underlying t with
  | some (.slice e) => [match P.info? e with | some i=>i.size | none=>0]
  | some (.struct fs)=>fs.toList.flatMap fun f=>NW P k f.type
  | some (.array n e)=>(List.replicate n (NW P k e)).flatten
  | _ => [0]
def a03 (v:Value):Option PV:=if v.oneCell' then some (mM v) else none
def aLB:TypeDesc->Bool
 | .struct _=>true
 | .array _ _=>true
 | _=>false
def ti (P:Program) (t:TypeId):Option TI :=
 match P.info? t with
 | none=>none
 | some i=>match i.zero,P.underlying t with
  | some z,some d=>if z.cells.toList.all (·.oneCell')&&z.cells.size==i.size then some ⟨i.size,i.bytes,aLB d,z.cells.toList.map mM⟩ else none
  | _,_=>none
def fieldsOf (P:Program) (t:TypeId):Option (List (Nat×Nat×Bool)) :=
 match P.underlying t with
 | some (.struct fs)=>fs.toList.mapM fun f=>(ti P f.type).map fun i=>(f.offset,i.size,i.agg)
 | _=>none
def wW (P:Program) (t:TypeId):Option TypeId:=match P.underlying t with | some (.slice e)=>some e | _=>none
def je (P:Program) (t:TypeId):Option TI:=(wW P t).bind (ti P)
def Ec (P:Program) (t:TypeId):Option (Nat×TI):=match P.underlying t with | some (.array n e)=>(ti P e).map fun i=>(n,i) | _=>none
theorem Ig {M:Mem} {B:aN} {v:Value} (h:v.oneCell'=true):Rep M B (mM v) v:=by
 cases v with
 | int k n=>rfl
 | bool b=>rfl
 | string s=>rfl
 | pointer a=>cases a with
  | none=>rfl
  | some a=>exact Bc.2 ⟨rfl,h⟩
 | slice a n c=>cases a with
  | none =>
   simp only[mM];split
   .rename_i e; obtain ⟨rfl,rfl⟩:=e;exact jE.2 ⟨none,0,rfl,cu _,by simp,fun _=>⟨rfl,rfl,rfl⟩,by simp⟩
   .exact Bc.2 ⟨rfl,h⟩
  | some a=>exact Bc.2 ⟨rfl,h⟩
 | func fn f c =>
  simp only[mM];split
  .rename_i e;obtain ⟨h1,h2⟩:=e;have h1':f = #[]:=by grind
   have h2':c = #[]:=by grind
   subst h1'; subst h2';exact zW.2 ⟨#[],#[],rfl,dJ.2 rfl,dJ.2 rfl⟩
  .exact Bc.2 ⟨rfl,h⟩
 | _=>exact Bc.2 ⟨rfl,h⟩
theorem aTA (v:Value):(mM v).own=true->v = .slice none 0 0:=by
 intro h;cases v with
 | slice a n c=>cases a with
  | none =>grind [mM,PV.own]
  | some a=>simp[mM,PV.own] at h
 | pointer a=>cases a<;>simp[mM,PV.own] at h
 | func fn f c =>grind [mM,PV.own]
 | _=>simp[mM,PV.own] at h
theorem a8V (v:Value) (b:Nat):bK (mM v) v b=0:=by unfold bK;grind [aTA]
theorem bPT (v:Value) (l:List UInt8):mM v ≠ .cZ l:=by unfold mM; split<;>first | (intro h; cases h; done) | grind
theorem bPU (v:Value) (n z:Nat) (cs:List PV):mM v ≠ .gB true n z cs:=by unfold mM; split<;>first | (intro h; cases h; done) | grind
theorem aBE {M:Mem} {w:World} (v:Value):Tl M w (mM v) v:=by refine Q7 (bPT v) ?_ (bPU v);intro sz es A n cap e ev;have:=aTA v (by rw[e]; rfl);rw[ev] at this;simp_all
theorem aQ3 {M:Mem} {B:aN} {p:PV} {v:Value} (z:Nat) (h:Rep M B p v):Rep M B (p.EC z) v:=by
 cases p with
 | sl o s es =>rw[PV.EC];grind [aOE]
 | _=>exact h
theorem bL0 (z:Nat) (p:PV):(p.EC z).own=p.own:=by
 cases p with
 | sl o s es =>
  rw[PV.EC];split
  .exact bH1
  .rfl
 | _=>rfl
theorem KP {M:Mem} {B:aN} {o:Bool} {es:List PV} {v:Value} (h:Rep M B (.sl o 0 es) v):v = .slice none 0 0/\es = []:=by obtain ⟨A,c,rfl,h1,h2,h3,h4⟩:=jE.1 h;simp_all
theorem bNH {M:Mem} {B:aN} {w:World} {p:PV} {v:Value} (z:Nat) (hr:Rep M B p v) (h:Tl M w p v):Tl M w (p.EC z) v:=by
 cases p with
 | sl o s es =>
  rw[PV.EC];split
  .rename_i e; subst e;obtain ⟨rfl,rfl⟩:=KP hr;exact aOF
  .exact h
 | _=>exact h
def V3:List Nat->List PV->List PV
 | z::zs,p::ps=>p.EC z::V3 zs ps
 | _,ps=>ps
def PV.zX (zs:List Nat):PV->PV
 | .agg cs => .agg (V3 zs cs)
 | p=>p.EC (zs.headD 0)
theorem aQB {M:Mem} {B:aN}:∀ {zs:List Nat} {ps:List PV} {vs:List Value},aj M B ps vs->aj M B (V3 zs ps) vs
 | [],ps,vs,h=>by cases ps<;>exact h
 | z::zs,[],vs,h=>h
 | z::zs,p::ps,vs,h=>by obtain ⟨u,us,rfl,h1,h2⟩:=bg.1 h;exact bg.2 ⟨u,us,rfl,aQ3 z h1,aQB h2⟩
theorem Uy {M:Mem} {B:aN} {p:PV} {v:Value} (zs:List Nat) (h:Rep M B p v):Rep M B (p.zX zs) v:=by
 cases p with
 | agg cs=>obtain ⟨vs,rfl,hr⟩:=pG.1 h; exact pG.2 ⟨vs,rfl,aQB hr⟩
 | _=>exact aQ3 (zs.headD 0) h
theorem aQC (zs:List Nat) (p:PV):(p.zX zs).own=p.own:=by
 cases p with
 | agg cs=>rfl
 | sl o s es=>exact bL0 (zs.headD 0) (.sl o s es)
 | _=>rfl
theorem aPC (zs:List Nat) (p:PV) (v:Value) (b:Nat):bK (p.zX zs) v b=bK p v b:=by unfold bK; rw[aQC]
theorem aSM {M:Mem} {B:aN} {w:World} {p:PV} {v:Value} (zs:List Nat) (hr:Rep M B p v) (h:Tl M w p v):Tl M w (p.zX zs) v:=by
 cases p with
 | agg cs=>exact fA rfl
 | _=>exact bNH (zs.headD 0) hr h
def PV.IM (z:Nat):PV->PV
 | .sl o s es=>if s=0 then FH z true es else .sl o s es
 | p=>p
def yG:List Nat->List PV->List PV
 | z::zs,p::ps=>p.IM z::yG zs ps
 | _,ps=>ps
theorem bKQ {M:Mem} {B:aN} {p:PV} {v:Value} (z:Nat) (h:Rep M B p v):Rep M B (p.IM z) v:=by
 cases p with
 | sl o s es =>rw[PV.IM];grind [aOE]
 | _=>exact h
theorem bNG {M:Mem} {B:aN} {w:World} {p:PV} {v:Value} (z:Nat) (hr:Rep M B p v) (h:Tl M w p v):Tl M w (p.IM z) v:=by
 cases p with
 | sl o s es =>
  rw[PV.IM];split
  .rename_i e; subst e;obtain ⟨rfl,rfl⟩:=KP hr;exact aOF
  .exact h
 | _=>exact h
theorem bHS {M:Mem} {B:aN} {p:PV} {v:Value} (z:Nat) (hr:Rep M B p v) (b:Nat):bK (p.IM z) v b=bK p v b:=by
 cases p with
 | sl o s es =>rw[PV.IM];grind [KP,bK]
 | _=>rfl
theorem aOW {M:Mem} {B:aN} {v:Value} {p:PV} (h:a03 v=some p):Rep M B p v/\(∀ b,bK p v b=0)/\∀ w,Tl M w p v:=by grind [a03,Ig,a8V,aBE]
structure qc (P:Program) (t:TypeId) (I:TI) (i:TypeInfo) (z:Value) (d:TypeDesc):Prop where
 info:P.info? t=some i
 zero:i.zero=some z
 und:P.underlying t=some d
 one:∀ v,v∈z.cells->v.oneCell'=true
 J3:z.cells.size=i.size
 size:I.size=i.size
 bytes:I.bytes=i.bytes
 agg:I.agg=aLB d
 Tu:I.zero=z.cells.toList.map mM
theorem Fg {P:Program} {t:TypeId} {I:TI} (h:ti P t=some I):∃ i z d,qc P t I i z d:=by
 unfold ti at h;split at h
 .cases h
 .rename_i i hi;split at h
  .rename_i z d hz hd;split at h
   .rename_i hc;cases h;simp only[bF,iY,rM] at hc;exact ⟨i,z,d,hi,hz,hd,fun v hv=>hc.1 v (by grind),hc.2,rfl,rfl,rfl,rfl⟩
   .cases h
  .cases h
section
variable {P:Program} {t:TypeId} {I:TI} {i:TypeInfo} {z:Value} {d:TypeDesc}
theorem qc.run_sizeOf (h:qc P t I i z d) (w:World):(sizeOf t).run P w = .ok I.size w:=by simp[sizeOf,typeInfo,h.info,h.size]
theorem qc.aAJ (h:qc P t I i z d) (w:World):(isAgg t).run P w = .ok I.agg w:=by unfold isAgg;rw[lu,eX h.und w,h.agg];cases d<;>rfl
theorem qc.bLI (h:qc P t I i z d) (w:World):(zeroValue t).run P w = .ok z w:=by simp[zeroValue,typeInfo,h.info,h.zero]
end
theorem aNX {α β:Type} (f:α->Option β):∀ {l:List α} {r:List β},l.mapM f=some r->∀ {j:Nat} {y:β},r[j]? = some y->∃ x,l[j]? = some x/\f x=some y
 | [],r,h,j,y,hy=>by simp_all
 | a::l,r,h,j,y,hy=>by
  rw[List.mapM_cons] at h;cases hf:f a with
  | none=>grind
  | some b =>
   cases hm:l.mapM f with
   | none=>simp_all
   | some bs =>
    simp[hf,hm] at h;subst h;cases j with
    | zero=>simp_all
    | succ j=>obtain ⟨x,h1,h2⟩:=aNX f hm (by simpa using hy); simp_all
theorem aFU {P:Program} {t:TypeId} {fs:List (Nat×Nat×Bool)} (h:fieldsOf P t=some fs) {j:Nat} {o z:Nat} {g:Bool} (hj:fs[j]? = some (o,z,g)) :
 ∃ Fs f I i zv d,P.underlying t=some (.struct Fs)/\Fs[j]? = some f/\f.offset=o/\qc P f.type I i zv d/\I.size=z/\I.agg=g:=by
 unfold fieldsOf at h;split at h
 .rename_i Fs hu;obtain ⟨f,hf,hm⟩:=aNX _ h hj;grind [ti,Fg]
 .cases h
theorem yw {P:Program} {t:TypeId} {I:TI} (h:je P t=some I):∃ e i z d,P.underlying t=some (.slice e)/\qc P e I i z d:=by grind [je,wW,Fg]
theorem X6 {P:Program} {t:TypeId} {n:Nat} {I:TI} (h:Ec P t=some (n,I)):∃ e i z d,P.underlying t=some (.array n e)/\qc P e I i z d:=by
 unfold Ec at h;split at h
 grind [ti,Fg]
 .cases h
def PV.one:PV->Bool
 | .agg _=>false
 | .tuple _=>false
 | _=>true
def xN (cs:List PV) (o z:Nat) (g:Bool):Option PV :=if g then (if o+z<=cs.length then some (.agg ((cs.drop o).take z)) else none) else (cs[o]?).bind fun p=>if p.one then some p.un else none
def VF (q:PV) (o z:Nat) (g:Bool):Option PV :=
 match q with
 | .ptr i off=>some (.ptr i (off+o))
 | .cst (.agg cs)=>(xN cs o z g).map .cst
 | _=>none
def OX (op:BinOp) (k:IntKind) (a b:Int):Option PV :=
 match op with
 | .add=>some (.int k (k.wrap (a+b)))
 | .sub=>some (.int k (k.wrap (a-b)))
 | .mul=>some (.int k (k.wrap (a*b)))
 | .quo=>if b=0 then none else some (.int k (k.wrap (a.tdiv b)))
 | .rem=>if b=0 then none else some (.int k (a.tmod b))
 | .and=>some (.int k (k.wrap (BitVec.ofInt k.bits a &&& BitVec.ofInt k.bits b).toNat))
 | .or=>some (.int k (k.wrap (BitVec.ofInt k.bits a ||| BitVec.ofInt k.bits b).toNat))
 | .eql=>some (.bool (a==b))
 | .neq=>some (.bool (a != b))
 | .lss=>some (.bool (decide (a<b)))
 | .leq=>some (.bool (decide (a<=b)))
 | .gtr=>some (.bool (decide (b<a)))
 | .geq=>some (.bool (decide (b<=a)))
 | _=>none
def Pm (op:BinOp) (k:IntKind) (a b:Int):Option PV :=
 if b<0 then none else match op with
 | .shl=>some (.int k (k.wrap (a*2 ^ min b.toNat k.bits)))
 | .shr=>some (.int k (a.fdiv (2 ^ min b.toNat k.bits)))
 | _=>none
def VE (op:BinOp) (a b:ByteArray):Option PV :=
 match op with
 | .add=>if a.size+b.size<=bC then some (.str (a ++ b)) else none
 | .eql=>some (.bool (a.toList==b.toList))
 | .neq=>some (.bool (!(a.toList==b.toList)))
 | _=>none
def a2Z (op:BinOp) (a b:Bool):Option PV :=
 match op with
 | .eql=>some (.bool (a==b))
 | .neq=>some (.bool (!(a==b)))
 | _=>none
def BP (op:BinOp) (is:Bool):Option PV :=
 match op with
 | .eql=>some (.bool is)
 | .neq=>some (.bool (!is))
 | _=>none
def a6C (P:Program) (t:TypeId):Bool:=P.underlying t matches some .bool
def Tj (P:Program) (t:TypeId):Bool:=P.underlying t matches some (.pointer _)
def OZ (P:Program) (t:TypeId):Bool:=P.underlying t matches some (.func _ _ _)
def tJ (P:Program) (t:TypeId):Bool:=P.underlying t matches some .string
def aL7 (P:Program) (t:TypeId):Option IntKind:=match P.underlying t with | some (.int k)=>some k | _=>none
def Rk (P:Program) (E:TypeId->PV->PV->Option Bool) (cs ds:List PV):List Field->Option Bool
 | []=>some true
 | f::fs=>if f.name = "_" then none else match ti P f.type with
  | some I=>(match xN cs f.offset I.size I.agg,xN ds f.offset I.size I.agg with
   | some p,some q=>(match E f.type p q,Rk P E cs ds fs with
    | some b,some r=>some (b&&r)
    | _,_=>none)
   | _,_=>none)
  | none=>none
def Nc (P:Program):Nat->TypeId->PV->PV->Option Bool
 | 0,_,_,_=>none
 | k+1,t,x,y=>match P.underlying t,x,y with
  | some (.int _),.int q a,.int q' b=>if q=q' then some (a==b) else none
  | some .bool,.bool a,.bool b=>some (a==b)
  | some .string,.str a,.str b=>some (a.toList==b.toList)
  | some (.struct fs),.agg cs,.agg ds=>if P.stoodInHeld t=true then none else Rk P (Nc P k) cs ds fs.toList
  | _,_,_=>none
def BC (P:Program) (op:BinOp) (t:TypeId) (x y:PV):Option PV :=
 match x,y with
 | .int k a,.int k' b =>
  (match op with
  | .shl | .shr=>Pm op k a b
  | _=>if k=k' then OX op k a b else none)
 | .str a,.str b=>VE op a b
 | .bool a,.bool b=>if a6C P t then a2Z op a b else none
 | .ptr _ _,.nilp=>if Tj P t then BP op false else none
 | .cst _,.nilp=>if Tj P t then BP op false else none
 | .nilp,.nilp=>if Tj P t then BP op true else none
 | .func _ _ _,.raw .nilFunc=>if OZ P t then BP op false else none
 | .raw .nilFunc,.raw .nilFunc=>if OZ P t then BP op true else none
 | .agg cs,.agg ds=>if P.eqGuardType P.depth t=true then none else (Nc P 12 t (.agg cs) (.agg ds)).bind (BP op)
 | _,_=>none
def a1I (op:UnOp) (x:PV):Option PV :=
 match op,x with
 | .neg,.int k n=>some (.int k (k.wrap (0-n)))
 | .not,.bool b=>some (.bool (!b))
 | _,_=>none
def Xy (x:PV) (i:Nat):Option PV:=match x with | .tuple ps=>(ps[i]?).map PV.un | _=>none
def Zg (P:Program) (t:TypeId) (x:PV):Option PV :=
 match x with
 | .str s=>if tJ P t then some (.int .i64 s.size) else none
 | .sl _ _ es=>(wW P t).map fun _ => .int .i64 es.length
 | .slh _ _ n _=>(wW P t).map fun _ => .int .i64 n
 | .gB _ n _ _=>(wW P t).map fun _ => .int .i64 n
 | _=>none
def isByte:PV->Bool
 | .int k _=>k == .u8
 | _=>false
def XO:PV->Int
 | .int _ n=>n
 | _=>0
def rX (es:List PV):Bool:=es.all isByte
def strOf (es:List PV):ByteArray:=(es.map XO).foldl (fun r n=>r.push (UInt8.ofNat n.toNat)) ByteArray.empty
def OY (P:Program) (s:TypeId):Bool:=match P.underlying s with
 | some (.slice e)=>(match P.underlying e with | some (.int k)=>k == .u8 | _=>false)
 | _=>false
def Rf (P:Program) (s d:TypeId) (x:PV):Option PV :=
 match x with
 | .sl _ _ es=>if OY P s=true/\tJ P d=true/\rX es=true then some (.str (strOf es)) else none
 | .int _ n=>match aL7 P d with | some k=>(match P.underlying s with | some _=>some (.int k (k.wrap n)) | none=>none) | none=>none
 | .str a=>match P.underlying s,P.underlying d with | some .string,some .string=>some (.str a) | _,_=>none
 | _=>none
def Zv:List PV->Option PV
 | [.int k a,.int k' b]=>if k=k' then some (.int k (if b<a then b else a)) else none
 | _=>none
def Zu:List PV->Option PV
 | [.int k a,.int k' b]=>if k=k' then some (.int k (if b>a then b else a)) else none
 | [.int k a,.int k1 b,.int k2 c,.int k3 d]=>if k=k1/\k=k2/\k=k3 then some (.int k (if d>(if c>(if b>a then b else a) then c else (if b>a then b else a)) then d else (if c>(if b>a then b else a) then c else (if b>a then b else a)))) else none
 | _=>none
def vw (P:Program) (t:TypeId) (x:PV) (lo hi:Option PV):Option PV :=
 let bound (d:Nat):Option PV->Option Int
  | none=>some d
  | some (.int _ n)=>some n
  | _=>none
 match x with
 | .str s=>match bound 0 lo,bound s.size hi with
  | some l,some h=>if tJ P t/\0<=l/\l<=h/\h<=s.size then some (.str (s.extract l.toNat h.toNat)) else none
  | _,_=>none
 | .sl _ sz es=>match bound 0 lo,bound es.length hi with
  | some l,some h=>if (je P t).map TI.size=some sz/\0<=l/\l<=h/\h<=es.length then some (.sl false sz ((es.take h.toNat).drop l.toNat)) else none
  | _,_=>none
 | .slh i off n sz=>match bound 0 lo,bound n hi with
  | some l,some h=>if (je P t).map TI.size=some sz/\0<=l/\l<=h/\h<=n/\0<sz then (if l<n then some (.slh i (off+l.toNat*sz) (h.toNat-l.toNat) sz) else some (.sl false sz [])) else none
  | _,_=>none
 | _=>none
def a0R (P:Program) (t:TypeId) (x a b c:PV):Option PV :=
 match x,a,b,c with
 | .sl _ sz es,.int _ l,.int _ h,.int _ m=>if (je P t).map TI.size=some sz/\0<=l/\l<=h/\h<=m/\m<=es.length then some (.sl false sz ((es.take h.toNat).drop l.toNat)) else none
 | _,_,_,_=>none
def jc:List (Option PV)->Option (List PV)
 | []=>some []
 | none::_=>none
 | some p::l=>(jc l).map (p :: ·)
def PV.newCells (p:PV):Option (List PV):=match p with | .agg ds=>if ds.all PV.one then some (ds.map PV.un) else none | q=>if q.one then some [q.un] else none
def Ep (place:Nat->Option (Nat×Nat)):List PV->List (Nat×PV)->Option (List PV)
 | cs,[]=>some cs
 | cs,(i,p)::ps=>match place i,p.newCells with
  | some (o,z),some new=>if new.length=z/\o+z<=cs.length then Ep place (cs.take o ++ new ++ cs.drop (o+z)) ps else none
  | _,_=>none
def tY (rd:Operand->Option PV):List (Nat×Operand)->Option (List (Nat×PV))
 | []=>some []
 | (i,x)::l=>match rd x,tY rd l with
  | some p,some ps=>some ((i,p)::ps)
  | _,_=>none
def FQ (P:Program) (rd:Operand->Option PV) (c:Call):Option PV :=
 match c.callee with
 | .builtin .len=>(match c.args.toList,c.argTypes.toList with
  | [x],[t]=>(rd x).bind (Zg P t)
  | _,_=>none)
 | .builtin .min=>(jc (c.args.toList.map rd)).bind Zv
 | .builtin .max=>(jc (c.args.toList.map rd)).bind Zu
 | _=>none
def pop (P:Program) (rd:Operand->Option PV):Op->Option PV
 | .move x=>rd x
 | .assign x=>rd x
 | .pick c a b=>match rd c with
  | some (.bool c)=>if c then rd a else rd b
  | _=>none
 | .fieldAddr s x f=>match fieldsOf P s,rd x with
  | some fs,some q=>(fs[f]?).bind fun (o,z,g)=>if z=0 then none else VF q o z g
  | _,_=>none
 | .field s x f=>match fieldsOf P s,rd x with
  | some fs,some (.agg cs)=>(fs[f]?).bind fun (o,z,g)=>xN cs o z g
  | _,_=>none
 | .indexAddr t x i=>match rd x,rd i with
  | some (.sl _ sz es),some (.int _ n)=>if (je P t).map TI.size=some sz/\0<=n then (es[n.toNat]?).map .cst else none
  | some (.slh i off m sz),some (.int _ n)=>if (je P t).map TI.size=some sz/\0<=n/\n<m then some (.ptr i (off+n.toNat*sz)) else none
  | some (.ptr i off),some (.int _ n)=>match Ec P t with
   | some (m,I)=>if 0<=n/\n<m then some (.ptr i (off+n.toNat*I.size)) else none
   | none=>none
  | some (.cst (.agg cs)),some (.int _ n)=>match Ec P t with
   | some (m,I)=>if 0<=n/\n<m then (xN cs (n.toNat*I.size) I.size I.agg).map .cst else none
   | none=>none
  | _,_=>none
 | .index t x i=>match rd x,rd i with
  | some (.str s),some (.int _ n)=>if tJ P t/\0<=n then (s[n.toNat]?).map fun b => .int .u8 b.toNat else none
  | some (.agg cs),some (.int _ n)=>match Ec P t with
   | some (m,I)=>if 0<=n/\n<m then xN cs (n.toNat*I.size) I.size I.agg else none
   | none=>none
  | _,_=>none
 | .slice t x lo hi none=>match rd x with
  | some q=>match lo,hi with
   | none,none=>vw P t q none none
   | some l,none=>(rd l).bind fun a=>vw P t q (some a) none
   | none,some h=>(rd h).bind fun b=>vw P t q none (some b)
   | some l,some h=>(rd l).bind fun a=>(rd h).bind fun b=>vw P t q (some a) (some b)
  | none=>none
 | .slice t x (some l) (some h) (some m)=>match rd x,rd l,rd h,rd m with
  | some q,some a,some b,some c=>a0R P t q a b c
  | _,_,_,_=>none
 | .binOp op t x y _=>match rd x,rd y with
  | some a,some b=>BC P op t a b
  | _,_=>none
 | .unOp op _ x=>(rd x).bind (a1I op)
 | .convert s d x=>(rd x).bind (Rf P s d)
 | .makeFunc fn first caps=>match jc (first.toList.map rd),jc (caps.toList.map rd) with
  | some f,some c=>some (.func fn f c)
  | _,_=>none
 | .extract x i=>(rd x).bind (Xy · i)
 | .nilCheck x=>match rd x with
  | some (.ptr i o)=>some (.ptr i o)
  | some (.cst e)=>some (.cst e)
  | some (.func (.func f) a b)=>some (.func (.func f) a b)
  | _=>none
 | .build t ps=>match ti P t,tY rd ps.toList with
  | some I,some qs=>match fieldsOf P t,Ec P t with
   | some fs,none=>(Ep (fun i=>(fs[i]?).map fun f=>(f.1,f.2.1)) (I.zero.map PV.un) qs).map .agg
   | none,some (_,J)=>(Ep (fun i=>some (i*J.size,J.size)) (I.zero.map PV.un) qs).map .agg
   | _,_=>none
  | _,_=>none
 | .call c=>FQ P rd c
 | _=>none
section
abbrev bTA:=List PV
abbrev bTB:=List UInt8
variable {P:Program} {M:Mem} {B:aN}
theorem aAC {cs:bTA} {vs:List Value} (h:aj M B cs vs) (o z:Nat):aj M B ((cs.drop o).take z) ((vs.drop o).take z):=by have hl:=nG h;grind [Ih,uh]
theorem extract_toList (cs:Array Value) (o z:Nat):(cs.extract o (o+z)).toList=(cs.toList.drop o).take z:=by simp_all
theorem aSZ (p:PV):p.un.one=p.one:=by cases p<;>rfl
theorem a0Y {cs:bTA} {vs:Array Value} (h:aj M B cs vs.toList) {t:TypeId} {I:TI} {i:TypeInfo} {zv:Value} {d:TypeDesc} (hT:qc P t I i zv d) {o:Nat} {p:PV} (hs:xN cs o I.size I.agg=some p) (w:World) :
 ∃ v,(part t vs o).run P w = .ok v w/\Rep M B p v/\p.own=false:=by
 unfold xN at hs;unfold part;rw[lu,hT.aAJ w];split at hs
 .rename_i hg;split at hs
  .cases hs;simp only[hg,yY,rJ,lu,hT.run_sizeOf w,ER];exact ⟨_,rfl,pG.2 ⟨_,rfl,by rw[extract_toList]; exact aAC h _ _⟩,rfl⟩
  .cases hs
 .rename_i hg;cases hc:cs[o]? with
  | none=>simp_all
  | some q =>
   simp only[hc,MJ] at hs;split at hs
   .cases hs;obtain ⟨u,hu,hr⟩:=uh h hc;have hu':vs[o]? = some u:=by grind
    have hg':I.agg=false:=by grind
    simp only[hg',GM,GY,rJ,hu'];exact ⟨u,rfl,oL.2 hr,qE q⟩
   .cases hs
theorem BJ {p:PV} (h1:p.one=true) {b o:Nat}:Loc M B p b o↔∃ u,M b o=some u/\Rep M B p u :=vV (by cases p<;>first | rfl | (simp[PV.one] at h1)) (fun cs e=>by grind [PV.one])
theorem aSC {cs:bTA} {b off:Nat} (h:Cells M B cs b off) {o z:Nat} {g:Bool} {p:PV} (hs:xN cs o z g=some p):Loc M B p b (off+o):=by
 unfold xN at hs;split at hs
 .split at hs
  .cases hs;refine yD.2 (Ei fun j q hq => ?_);rw[lM] at hq;grind [NZ]
  .cases hs
 grind [a7V,BJ,NZ]
theorem add_lit (b o k:Nat):(⟨b,o,none⟩:Addr).add k=⟨b,o+k,none⟩:=by grind [Addr.add]
theorem bN4 {q:PV} {v:Value} (hq:Rep M B q v) {s:TypeId} {fs:List (Nat×Nat×Bool)} (hf:fieldsOf P s=some fs) {f o z:Nat} {g:Bool} (hj:fs[f]? = some (o,z,g)) (hz:z≠0) {p:PV} (hs:VF q o z g=some p) (w:World) :
 ∃ u,(Instr.fieldAt s v f).run P w = .ok u w/\Rep M B p u/\p.own=false:=by
 obtain ⟨Fs,F,I,i,zv,d,hu,hF,ho,hT,hsz,hg⟩:=aFU hf hj;subst ho; subst hsz; subst hg;have run:∀ b off,(Instr.fieldAt s (.pointer (some ⟨b,off,none⟩)) f).run P w = .ok (.pointer (some ⟨b,off+F.offset,none⟩)) w:=fun b off=>by simp[Instr.fieldAt,eX hu,hF,Instr.sureAddr,fieldPlace,hT.run_sizeOf w,hz,add_lit]
 unfold VF at hs;split at hs
 .rename_i i off;cases hs;obtain ⟨c,hc,rfl⟩:=vZ.1 hq;exact ⟨_,run _ _,vZ.2 ⟨c,hc,rfl⟩,rfl⟩
 .rename_i cs;cases hv:xN cs F.offset I.size I.agg with
  | none=>simp_all
  | some r =>simp[hv] at hs; subst hs;obtain ⟨b,off,rfl,hl⟩:=AP.1 hq;exact ⟨_,run _ _,AP.2 ⟨b,_,rfl,aSC (yD.1 hl) hv⟩,rfl⟩
 .cases hs
theorem bDF {op:BinOp} {k:IntKind} {a b:Int} {p:PV} (h:OX op k a b=some p) (hop:op ≠ .shl/\op ≠ .shr) (t:TypeId) (w:World) :
 ∃ v,(binOp op t (.int k a) (.int k b)).run P w = .ok v w/\Rep M B p v/\p.own=false:=by
 cases op<;>simp only[OX,reduceCtorEq] at h<;>first
  | (cases h; exact ⟨_,by simp[binOp,Op.intArith,Op.intBits,Op.intCmp]; first | rfl | done,by first | exact dS.2 rfl | exact jo.2 rfl,rfl⟩)
  | (split at h; exact absurd h (by simp); rename_i h0; cases h; exact ⟨_,by simp[binOp,Op.intDiv,h0]; first | rfl | done,by rfl,rfl⟩)
  | (exact absurd rfl hop.1)
  | (exact absurd rfl hop.2)
theorem aRA {op:BinOp} {k k':IntKind} {a b:Int} {p:PV} (h:Pm op k a b=some p) (t:TypeId) (w:World) :
 ∃ v,(binOp op t (.int k a) (.int k' b)).run P w = .ok v w/\Rep M B p v/\p.own=false:=by
 unfold Pm at h;split at h
 .cases h
 .rename_i hb;cases op<;>simp only[reduceCtorEq] at h
  .cases h; exact ⟨_,by simp[binOp,Op.shift,hb],dS.2 rfl,rfl⟩
  .cases h; exact ⟨_,by simp[binOp,Op.shift,hb],dS.2 rfl,rfl⟩
theorem bM' {op:BinOp} {a b:ByteArray} {p:PV} (h:VE op a b=some p) (t:TypeId) (w:World) :
 ∃ v,(binOp op t (.string a) (.string b)).run P w = .ok v w/\Rep M B p v/\p.own=false:=by
 cases op<;>simp only[VE,reduceCtorEq] at h
 .split at h
  .rename_i hl;cases h;have h':¬ (((a.size+b.size:Nat):Int)>IntKind.i64.max):=by
    have:IntKind.i64.max=9223372036854775807:=by decide
    rw[this]; grind [bC]
   refine ⟨_,?_,iG.2 rfl,rfl⟩;simp only[binOp,Op.stringOp,aQ h'];rfl
  .cases h
 .cases h; exact ⟨_,rfl,jo.2 rfl,rfl⟩
 .cases h; exact ⟨_,rfl,jo.2 rfl,rfl⟩
theorem DC {op:BinOp} {t:TypeId} {x y:Operand} {a b:Value} (ha:a ≠ .nilIface/\∀ cs,a ≠ .agg cs) (w:World):(eqGuard op t x y a b).run P w = .ok () w:=by
 cases a with
 | nilIface=>simp_all
 | agg cs=>simp_all
 | _=>cases op<;>simp[eqGuard]
theorem aYB {t:TypeId} (h:P.underlying t=some .bool) (d:Nat) (a b:Bool) (w:World):(Op.equalIn (d+1) t (.bool a) (.bool b)).run P w = .ok (a==b) w:=by rw[Op.equalIn,lu,eX h w]; rfl
theorem aFC {t e:TypeId} (h:P.underlying t=some (.pointer e)) (d:Nat) (a:Addr) (w:World):(Op.equalIn (d+1) t (.pointer (some a)) (.pointer none)).run P w = .ok false w:=by rw[Op.equalIn,lu,eX h w]; rfl
theorem aYE {t e:TypeId} (h:P.underlying t=some (.pointer e)) (d:Nat) (w:World):(Op.equalIn (d+1) t (.pointer none) (.pointer none)).run P w = .ok true w:=by rw[Op.equalIn,lu,eX h w]; rfl
theorem aYD {t:TypeId} {x y:Array TypeId} {z:Bool} (h:P.underlying t=some (.func x y z)) (d:Nat) (f:Fn) (a b:Array Value) (w:World):(Op.equalIn (d+1) t (.func f a b) .nilFunc).run P w = .ok false w:=by rw[Op.equalIn,lu,eX h w]; rfl
theorem aYC {t:TypeId} {x y:Array TypeId} {z:Bool} (h:P.underlying t=some (.func x y z)) (d:Nat) (w:World):(Op.equalIn (d+1) t .nilFunc .nilFunc).run P w = .ok true w:=by rw[Op.equalIn,lu,eX h w]; rfl
theorem Ja {t:TypeId} {a b:Value} {r:Bool} {w:World} (h:∀ d,(Op.equalIn (d+1) t a b).run P w = .ok r w):(Op.equal t a b).run P w = .ok r w:=h 9999
theorem bDG {t:TypeId} (h:a6C P t=true):P.underlying t=some .bool:=by grind [a6C]
theorem Tn {t:TypeId} (h:tJ P t=true):P.underlying t=some .string:=by grind [tJ]
theorem a6D {t:TypeId} (h:Tj P t=true):∃ e,P.underlying t=some (.pointer e):=by grind [Tj]
theorem aLD {t:TypeId} (h:OZ P t=true):∃ a b c,P.underlying t=some (.func a b c):=by grind [OZ]
theorem KO {op:BinOp} {is:Bool} {p:PV} (h:BP op is=some p) {t:TypeId} {a b:Value} {w:World} (he:(Op.equal t a b).run P w = .ok is w)
 (hab:∀ op,op = .eql\/op = .neq->binOp op t a b=(if op = .eql then do pure (.bool (<- Op.equal t a b)) else do pure (.bool (!(<- Op.equal t a b))))) :
 ∃ v,(binOp op t a b).run P w = .ok v w/\Rep M B p v/\p.own=false:=by
 cases op<;>simp only[BP,reduceCtorEq] at h
 .cases h; rw[hab _ (.inl rfl)]; exact ⟨.bool is,by simp[he],jo.2 rfl,rfl⟩
 .cases h; rw[hab _ (.inr rfl)]; exact ⟨.bool (!is),by simp[he],jo.2 rfl,rfl⟩
theorem aFB {d:Nat} {E:TypeId->PV->PV->Option Bool} (hE:∀ t x y r,E t x y=some r->∀ a b,Rep M B x a->Rep M B y b->∀ w,(Op.equalIn d t a b).run P w = .ok r w) {cs ds:bTA} {xs ys:Array Value} (hx:aj M B cs xs.toList) (hy:aj M B ds ys.toList) (w:World) :
 ∀ (fs:List Field) (r:Bool),Rk P E cs ds fs=some r->(Op.eqFields d xs ys fs).run P w = .ok r w
 | [],r,h=>by simp[Rk] at h; subst h; rfl
 | f::fs,r,h=>by
  rw[Rk] at h;split at h
  .cases h
  .rename_i hn;split at h
   .rename_i I hI;split at h
    .rename_i p q hp hq;split at h
     .rename_i b r' hb hr;injection h with h; subst h
      obtain ⟨i,z,dd,hT⟩:=Fg hI;obtain ⟨u,h1,h2,_⟩:=a0Y hx hT hp w;obtain ⟨v,h3,h4,_⟩:=a0Y hy hT hq w;have h5:=hE _ _ _ _ hb u v h2 h4 w;have ih:=aFB hE hx hy w fs r' hr;rw[Op.eqFields,aS hn];simp only[lu,h1,h3,h5,rJ];cases b
      .rfl
      simp_all
     .cases h
    .cases h
   .cases h
theorem aFD:∀ (k d:Nat) (t:TypeId) (x y:PV) (r:Bool),Nc P k t x y=some r->∀ a b,Rep M B x a->Rep M B y b->∀ w,(Op.equalIn (d+k) t a b).run P w = .ok r w
 | 0,d,t,x,y,r,h,a,b,ha,hb,w=>by rw[Nc] at h; cases h
 | k+1,d,t,x,y,r,h,a,b,ha,hb,w=>by
  unfold Nc at h;split at h
  .rename_i hu;split at h
   .rename_i e; subst e;injection h with h; subst h
    rw[dS.1 ha,dS.1 hb];grind [run_equalIn_int]
   .cases h
  .rename_i hu;injection h with h; subst h
   rw[jo.1 ha,jo.1 hb];grind [run_equalIn_bool]
  .rename_i hu;injection h with h; subst h
   rw[iG.1 ha,iG.1 hb];grind [run_equalIn_string]
  .rename_i fs cs ds hu;by_cases hst:P.stoodInHeld t=true;simp_all
   .rw[aQ hst] at h;obtain ⟨xs,rfl,hx⟩:=pG.1 ha;obtain ⟨ys,rfl,hy⟩:=pG.1 hb;have hf:P.fieldsOf t=fs:=by simp[Program.fieldsOf,hu]
    rw[show d+(k+1)=(d+k)+1 from rfl,run_equalIn_struct w (d+k) t xs ys (by rw[hf]; exact hu) (by simpa using hst),hf];exact aFB (fun t x y r h a b ha hb w=>aFD k d t x y r h a b ha hb w) hx hy w fs.toList r h
  .cases h
theorem aVV {op:BinOp} {t:TypeId} {x y p:PV} (h:BC P op t x y=some p) {a b:Value} (ha:Rep M B x a) (hb:Rep M B y b) (w:World) :
 (∀ X Y:Operand,(eqGuard op t X Y a b).run P w = .ok () w)/\∃ v,(binOp op t a b).run P w = .ok v w/\Rep M B p v/\p.own=false:=by
 unfold BC at h;split at h
 .rename_i k a' k' b';rw[dS.1 ha,dS.1 hb];refine ⟨fun _ _=>DC ⟨by simp,by simp⟩ w,?_⟩;split at h
  .exact aRA h t w
  .exact aRA h t w
  .rename_i h1 h2;split at h
   .rename_i e; subst e; exact bDF h ⟨fun e=>h1 e,fun e=>h2 e⟩ t w
   .cases h
 .rw[iG.1 ha,iG.1 hb]; exact ⟨fun _ _=>DC ⟨by simp,by simp⟩ w,bM' h t w⟩
 .rename_i a' b';rw[jo.1 ha,jo.1 hb];refine ⟨fun _ _=>DC ⟨by simp,by simp⟩ w,?_⟩;split at h
  .rename_i ht;have hu:=bDG ht;have he:(Op.equal t (.bool a') (.bool b')).run P w = .ok (a'==b') w:=Ja fun d=>aYB hu d a' b' w
   refine KO (is:=a'==b') ?_ he (fun op ho=>by rcases ho with rfl | rfl<;>rfl);unfold a2Z at h; unfold BP; exact h
  .cases h
 .obtain ⟨c,hc,rfl⟩:=vZ.1 ha;rw[Ie.1 hb];refine ⟨fun _ _=>DC ⟨by simp,by simp⟩ w,?_⟩;split at h
  .rename_i ht;obtain ⟨e,hu⟩:=a6D ht;refine KO h (Ja fun d=>aFC hu d _ w) (fun op ho=>by rcases ho with rfl | rfl<;>rfl)
  .cases h
 .obtain ⟨b',off,rfl,_⟩:=AP.1 ha;rw[Ie.1 hb];refine ⟨fun _ _=>DC ⟨by simp,by simp⟩ w,?_⟩;split at h
  .rename_i ht;obtain ⟨e,hu⟩:=a6D ht;refine KO h (Ja fun d=>aFC hu d _ w) (fun op ho=>by rcases ho with rfl | rfl<;>rfl)
  .cases h
 .rw[Ie.1 ha,Ie.1 hb];refine ⟨fun _ _=>DC ⟨by simp,by simp⟩ w,?_⟩;split at h
  .rename_i ht;obtain ⟨e,hu⟩:=a6D ht;refine KO h (Ja fun d=>aYE hu d w) (fun op ho=>by rcases ho with rfl | rfl<;>rfl)
  .cases h
 .obtain ⟨f,c,rfl,_,_⟩:=zW.1 ha;rw[(Bc.1 hb).1];refine ⟨fun _ _=>DC ⟨by simp,by simp⟩ w,?_⟩;split at h
  .rename_i ht;obtain ⟨e1,e2,e3,hu⟩:=aLD ht;refine KO h (Ja fun d=>aYD hu d _ _ _ w) (fun op ho=>by rcases ho with rfl | rfl<;>rfl)
  .cases h
 .rw[(Bc.1 ha).1,(Bc.1 hb).1];refine ⟨fun _ _=>DC ⟨by simp,by simp⟩ w,?_⟩;split at h
  .rename_i ht;obtain ⟨e1,e2,e3,hu⟩:=aLD ht;refine KO h (Ja fun d=>aYC hu d w) (fun op ho=>by rcases ho with rfl | rfl<;>rfl)
  .cases h
 .rename_i cs ds;obtain ⟨xs,e1,_⟩:=pG.1 ha;obtain ⟨ys,e2,_⟩:=pG.1 hb;split at h
  .cases h
  .rename_i hg;cases he:Nc P 12 t (.agg cs) (.agg ds) with
   | none=>rw[he] at h; cases h
   | some r =>rw[he] at h;have hr:(Op.equal t a b).run P w = .ok r w:=aFD 12 9988 t _ _ r he a b ha hb w;refine ⟨fun X Y=>by rw[e1,e2]; grind [run_eqGuard_agg],KO h hr (fun op ho=>by rw[e1,e2]; rcases ho with rfl | rfl<;>rfl)⟩
 .cases h
end
section
variable {P:Program} {M:Mem} {B:aN}
theorem aZ1 {ρ:Operand->Value} {o:Oper} {s:Sem Value} {v:Value} {w:World} (h:execOp ρ o=(do pure (.value (<- s)))) (hr:s.run P w = .ok v w):(execOp ρ o).run P w = .ok (.value v) w:=by rw[h]; simp[hr]
theorem bFG {t ty:TypeId} {x p:PV} (h:Zg P t x=some p) {a:Value} (ha:Rep M B x a) (w:World) :
 ∃ v,(Builtin.len_ #[t] ty #[a]).run P w = .ok v w/\Rep M B p v/\p.own=false:=by
 have hsl:∀ {n:Nat} {A:Option Addr} {c:Nat},(wW P t).map (fun _=>PV.int .i64 n)=some p->∃ v,(Builtin.len_ #[t] ty #[.slice A n c]).run P w = .ok v w/\Rep M B p v/\p.own=false:=by
  intro n A c h;unfold wW at h;split at h
  .rename_i e hu;simp at h; subst h;exact ⟨_,by simp[Builtin.len_,eX hu]; rfl,dS.2 rfl,rfl⟩
  .simp at h
 unfold Zg at h;split at h
 .split at h
  .rename_i ht; cases h;rw[iG.1 ha];exact ⟨_,by simp[Builtin.len_,eX (Tn ht)]; rfl,dS.2 rfl,rfl⟩
  .cases h
 .obtain ⟨A,cap,rfl,_⟩:=jE.1 ha; exact hsl h
 .obtain ⟨c,cap,_,rfl,_⟩:=sN.1 ha; exact hsl h
 .obtain ⟨A,cap,rfl,_⟩:=FX.1 ha; exact hsl h
 .cases h
theorem bDH {s:TypeId} (h:OY P s=true):∃ e,P.underlying s=some (.slice e)/\P.underlying e=some (.int .u8):=by grind [OY]
theorem aW4 {es:bTA} {b:Nat} {w:World} (hmem:∀ (b o:Nat) (v:Value),M b o=some v->w.cell? ⟨b,o,none⟩=some v/\v.oneCell'=true) (hb:rX es=true) {off:Nat} (hl:jr M [] 1 es b off) :
 ∀ (j:Nat) v,((es.map XO).map (Value.int .u8))[j]? = some v->w.cell? ⟨b,off+j,none⟩=some v:=by
 intro j v hv;simp only[kJ,Option.map_map] at hv;obtain ⟨q,hq,rfl⟩:=JD.1 hv;have hloc:=Dj hl hq;have hbq:isByte q=true:=iY.1 hb q (nK hq);cases q<;>simp[isByte] at hbq
 subst hbq;obtain ⟨u,hu,F6⟩:=(vV rfl (fun cs e=>by cases e)).1 hloc;have hr:u = .int .u8 _:=dS.1 F6;subst hr;have:=(hmem _ _ _ hu).1;rwa [Nat.mul_one] at this
theorem aXL {s d:TypeId} {x p:PV} (h:Rf P s d x=some p) {a:Value} (ha:Rep M B x a) (w:World) (hmem:∀ (b o:Nat) (v:Value),M b o=some v->w.cell? ⟨b,o,none⟩=some v/\v.oneCell'=true) :
 ∃ v,(convert s d a).run P w = .ok v w/\Rep M B p v/\p.own=false:=by
 unfold Rf at h;split at h
 .rename_i ow sz es;split at h
  .rename_i hc;cases h;obtain ⟨e,hs,he⟩:=bDH hc.1;obtain ⟨A,cap,rfl,_,hsz,_,hA⟩:=jE.1 ha;refine ⟨.string (strOf es),?_,iG.2 rfl,rfl⟩;rw[run_convert_bytes_string w s d e A es.length cap hs he (Tn hc.2.1)];by_cases h0:es = []
   .subst h0;cases A with
    | none=>rfl
    | some A=>rfl
   .obtain ⟨b,off,rfl,hl⟩:=hA h0;have h1:sz=1:=by
     obtain ⟨q,qs,rfl⟩:=List.exists_cons_of_ne_nil h0;have hq:=hsz q (by simp);have hbq:isByte q=true:=iY.1 hc.2.2 q (by simp);cases q<;>simp[isByte] at hbq
     exact hq.symm
    subst h1;have:=run_loadCells_list (P:=P) w ⟨b,off,none⟩ ((es.map XO).map (Value.int .u8)) (fun j v hj=>by rw[add_lit]; grind [aW4]);simp only[aX] at this;exact run_bytesToString w ⟨b,off,none⟩ es.length cap (es.map XO) this
  .cases h
 .rename_i k0 n;rw[dS.1 ha];unfold aL7 at h;split at h
  .rename_i k hk;split at hk
   .rename_i k' hu;cases hk;split at h
    .rename_i ds hs;cases h;refine ⟨.int k (k.wrap n),?_,dS.2 rfl,rfl⟩;unfold convert;rw[lu,eX hs w,rJ,lu,eX hu w,rJ];cases ds<;>rfl
    .cases h
   .cases hk
  .cases h
 .rename_i a';rw[iG.1 ha];split at h
  .rename_i hs hd;cases h;refine ⟨.string a',?_,iG.2 rfl,rfl⟩;unfold convert;rw[lu,eX hs w,rJ,lu,eX hd w,rJ];rfl
  .cases h
 .cases h
theorem Wy:∀ {l:List (Option PV)} {ps:bTA},jc l=some ps->l=ps.map some
 | [],ps,h=>by grind [jc]
 | none::_,_,h=>by simp[jc] at h
 | some p::l,ps,h=>by
  rw[jc] at h;cases ha:jc l with
  | none=>grind
  | some qs=>simp[ha] at h; subst h; simp[Wy ha]
theorem LC {rd:Operand->Option PV} {ρ:Operand->Value} (hrd:∀ x q,rd x=some q->Rep M B q (ρ x)/\q.own=false):∀ {xs:List Operand} {ps:bTA},jc (xs.map rd)=some ps->aj M B ps (xs.map ρ)/\∀ p,p∈ps->p.own=false
 | [],ps,h=>by simp[jc] at h; subst h; exact ⟨dJ.2 rfl,by simp⟩
 | x::xs,ps,h=>by
  have h':=Wy h;cases ps with
  | nil=>simp at h'
  | cons p ps =>
   simp only[oN,List.cons.injEq] at h';obtain ⟨h1,h2⟩:=h';have ih:=LC hrd (xs:=xs) (ps:=ps) (by
    rw[h2];have:∀ ps:bTA,jc (ps.map some)=some ps:=by
     intro ps; induction ps with
     | nil=>rfl
     | cons a l ih=>simp[jc,ih]
    exact this ps)
   exact ⟨bg.2 ⟨_,_,rfl,(hrd _ _ h1).1,ih.1⟩,fun q hq=>by
    rcases jV.1 hq with rfl | hq
    .exact (hrd _ _ h1).2
    .exact ih.2 q hq⟩
theorem aAD {p q:PV} {vs:List Value} (h:aj M B [p,q] vs):∃ a b,vs = [a,b]/\Rep M B p a/\Rep M B q b:=by obtain ⟨a,us,rfl,ha,h2⟩:=bg.1 h;obtain ⟨b,wB,rfl,hb,h3⟩:=bg.1 h2;rw[dJ] at h3; grind
theorem bGJ {ts:Array TypeId} {ty:TypeId} {ps:bTA} {p:PV} (h:Zv ps=some p) {vs:Array Value} (hv:aj M B ps vs.toList) (w:World) :
 ∃ v,(Builtin.min_ ts ty vs).run P w = .ok v w/\Rep M B p v/\p.own=false:=by
 unfold Zv at h;split at h
 .split at h
  .rename_i e; subst e; cases h;obtain ⟨a,b,e,ha,hb⟩:=aAD hv;rw[dS.1 ha,dS.1 hb] at e;refine ⟨_,?_,dS.2 rfl,rfl⟩;unfold Builtin.min_; rw[e];rfl
  .cases h
 .cases h
theorem bGH {ts:Array TypeId} {ty:TypeId} {ps:bTA} {p:PV} (h:Zu ps=some p) {vs:Array Value} (hv:aj M B ps vs.toList) (w:World) :
 ∃ v,(Builtin.max_ ts ty vs).run P w = .ok v w/\Rep M B p v/\p.own=false:=by
 unfold Zu at h;split at h
 .split at h
  .rename_i e; subst e; cases h;obtain ⟨a,b,e,ha,hb⟩:=aAD hv;rw[dS.1 ha,dS.1 hb] at e;refine ⟨_,?_,dS.2 rfl,rfl⟩;unfold Builtin.max_; rw[e];rfl
  .cases h
 .split at h
  .rename_i e; obtain ⟨rfl,rfl,rfl⟩:=e; cases h;obtain ⟨a,us,e,ha,h2⟩:=bg.1 hv;obtain ⟨b,wB,rfl,hb,h2⟩:=bg.1 h2;obtain ⟨c,d,rfl,hc,hd⟩:=aAD h2;rw[dS.1 ha,dS.1 hb,dS.1 hc,dS.1 hd] at e;refine ⟨_,?_,dS.2 rfl,rfl⟩;unfold Builtin.max_; rw[e];rfl
  .cases h
 .cases h
theorem bOY {op:UnOp} {x p:PV} (h:a1I op x=some p) {a:Value} (ha:Rep M B x a) (w:World):∃ v,(Op.unary op a).run P w = .ok v w/\Rep M B p v/\p.own=false:=by
 unfold a1I at h;split at h
 .cases h; rw[dS.1 ha]; exact ⟨_,rfl,dS.2 rfl,rfl⟩
 .cases h; rw[jo.1 ha]; exact ⟨_,rfl,jo.2 rfl,rfl⟩
 .cases h
theorem aZ2 {x p:PV} {i:Nat} (h:Xy x i=some p) {a:Value} (ha:Rep M B x a) (w:World):∃ v,(Instr.extract a i).run P w = .ok v w/\Rep M B p v/\p.own=false:=by
 unfold Xy at h;split at h
 .rename_i ps;obtain ⟨vs,rfl,hr⟩:=sQ.1 ha;cases hp:ps[i]? with
  | none=>grind
  | some q =>
   simp[hp] at h; subst h;obtain ⟨u,hu,hq⟩:=uh hr hp;have hu':vs[i]? = some u:=by grind
   exact ⟨u,by simp[Instr.extract,hu'],oL.2 hq,qE q⟩
 .cases h
def BU (d:Nat):Option PV->Option Int
 | none=>some d
 | some (.int _ n)=>some n
 | _=>none
theorem P9 {d:Nat} {q:Option PV} {n:Int} (h:BU d q=some n) {x:Option Value} (hx:(q=none/\x=none)\/∃ p v,q=some p/\x=some v/\Rep M B p v) :
 (q=none/\x=none/\n=d)\/∃ k,x=some (.int k n):=by
 rcases hx with ⟨rfl,rfl⟩ | ⟨p,v,rfl,rfl,hr⟩
 grind [BU]
 .cases p<;>simp[BU] at h
  subst h; rw[dS.1 hr]; simp
theorem a3A {isS:Bool} {len cap:Nat} {lo hi:Option Value} {l h:Int} (hl:(lo=none/\l=0)\/∃ k,lo=some (.int k l)) (hh:(hi=none/\h=len)\/∃ k,hi=some (.int k h))
 (h0:0<=l) (h1:l<=h) (h2:h<=len) (hc:len<=cap) (w:World):(Instr.sliceBounds isS len cap lo hi none).run P w = .ok (l.toNat,h.toNat,cap) w:=by
 have e2:((h.toNat:Nat):Int)=h:=QM (by omega);rcases hl with ⟨rfl,rfl⟩ | ⟨k,rfl⟩<;>rcases hh with ⟨rfl,rfl⟩ | ⟨k',rfl⟩
 rfl
 .simp[Instr.sliceBounds,QU w k' h cap _ (by omega) (by omega)]
 .simp[Instr.sliceBounds,QU w k l len _ (by omega) (by omega)]
 .simp[Instr.sliceBounds,QU w k' h cap _ (by omega) (by omega),QU w k l h.toNat _ (by omega) (by omega)]
theorem aV' {len cap:Nat} {k1 k2 k3:IntKind} {l h m:Int} (h0:0<=l) (h1:l<=h) (h2:h<=m) (h3:m<=len) (hc:len<=cap) (w:World) :
 (Instr.sliceBounds true len cap (some (.int k1 l)) (some (.int k2 h)) (some (.int k3 m))).run P w = .ok (l.toNat,h.toNat,m.toNat) w:=by
 have e2:((h.toNat:Nat):Int)=h:=QM (by omega);have e3:((m.toNat:Nat):Int)=m:=QM (by omega);simp[Instr.sliceBounds,QU w k3 m cap _ (by omega) (by omega),QU w k2 h m.toNat _ (by omega) (by omega),QU w k1 l h.toNat _ (by omega) (by omega)]
theorem bMJ {t:TypeId} {x p pa pb pc:PV} (hs:a0R P t x pa pb pc=some p) {a l h m:Value} (ha:Rep M B x a) (hl:Rep M B pa l) (hh:Rep M B pb h) (hm:Rep M B pc m) (w:World) :
 ∃ v,(Instr.sliceAt t a (some l) (some h) (some m)).run P w = .ok v w/\Rep M B p v/\p.own=false:=by
 unfold a0R at hs;split at hs
 .rename_i o sz es k1 l' k2 h' k3 m';obtain ⟨A,cap,rfl,hle,hsz,hz,hA⟩:=jE.1 ha;obtain rfl:=dS.1 hl;obtain rfl:=dS.1 hh;obtain rfl:=dS.1 hm;split at hs
  .rename_i hc;obtain ⟨ht,b1,b2,b3,b4⟩:=hc;cases hs;obtain ⟨I,hI,hIs⟩:=JD.1 ht;obtain ⟨e,i,z,d,hu,hT⟩:=yw hI;have hu':P.underlying t=some (.slice (P.elem t)):=by rw[hu]; simp[Program.elem,hu]
   have Jw:P.elem t=e:=by simp_all
   have hrun:(Instr.sliceAt t (.slice A es.length cap) (some (.int k1 l')) (some (.int k2 h')) (some (.int k3 m'))).run P w = .ok (.slice (if m'.toNat=l'.toNat then A else A.map (·.add (l'.toNat*sz))) (h'.toNat-l'.toNat) (m'.toNat-l'.toNat)) w:=by rw[run_sliceAt_slice (P:=P) w t _ _ _ _ hu',run_slice_any (P:=P) w t A es.length cap hu',aV' (P:=P) b1 b2 b3 b4 hle w,rJ,Jw,hT.run_sizeOf w];simp[sliced,hIs]
   refine ⟨_,hrun,jE.2 ⟨_,_,by simp only[xY,wI]; rw[a1S (by omega)],?_,fun e he=>hsz e (QP (List.mem_of_mem_drop he)),fun h0=>by grind,?_⟩,rfl⟩;grind
   .intro hne;have hlen:((es.take h'.toNat).drop l'.toNat).length≠0:=fun e=>hne (kU e)
    simp only[xY,wI] at hlen;obtain ⟨b,off,rfl,hloc⟩:=hA (fun e=>by rw[e] at hlen; simp at hlen);rw[aQ (by omega)];refine ⟨b,off+l'.toNat*sz,by rw[JE,add_lit],zK fun j p hj => ?_⟩;rw[aC9,lM] at hj;split at hj
    .have:=Dj hloc hj;rwa [show off+l'.toNat*sz+j*sz=off+(l'.toNat+j)*sz by rw[nM]; omega]
    .cases hj
  .cases hs
 .cases hs
theorem a0S {t:TypeId} {x p:PV} {lo hi:Option PV} (hs:vw P t x lo hi=some p) {a:Value} (ha:Rep M B x a) {l h:Option Value}
 (hl:(lo=none/\l=none)\/∃ p v,lo=some p/\l=some v/\Rep M B p v) (hh:(hi=none/\h=none)\/∃ p v,hi=some p/\h=some v/\Rep M B p v) (w:World) :
 ∃ v,(Instr.sliceAt t a l h none).run P w = .ok v w/\Rep M B p v/\p.own=false:=by
 have hb:∀ d q,(match q with | none=>some (d:Int) | some (.int _ n)=>some n | _=>none)=BU d q:=fun d q=>rfl
 unfold vw at hs;simp only at hs;split at hs
 .rename_i s;rw[iG.1 ha];split at hs
  .rename_i l' h' e1 e2;have e1:BU 0 lo=some l':=e1;have e2:BU s.size hi=some h':=e2;split at hs
   .rename_i hc;obtain ⟨ht,b1,b2,b3⟩:=hc;cases hs;have hu:=Tn ht;have hl':(l=none/\l'=0)\/∃ k,l=some (.int k l'):=by
     rcases P9 e1 hl with ⟨_,r1,r2⟩ | r
     simp_all;simp_all
    have hh':(h=none/\h'=s.size)\/∃ k,h=some (.int k h'):=by
     rcases P9 e2 hh with ⟨_,r1,r2⟩ | r
     simp_all;simp_all
    refine ⟨_,?_,iG.2 rfl,rfl⟩;rw[run_sliceAt_string (P:=P) w t _ _ _ _ hu];simp[Instr.slice,eX hu,a3A (P:=P) (isS:=false) hl' hh' b1 b2 (by omega) (cu _) w]
   .cases hs
  .cases hs
 .rename_i o sz es;obtain ⟨A,cap,rfl,hle,hsz,hz,hA⟩:=jE.1 ha;split at hs
  .rename_i l' h' e1 e2;have e1:BU 0 lo=some l':=e1;have e2:BU es.length hi=some h':=e2;split at hs
   .rename_i hc;obtain ⟨ht,b1,b2,b3⟩:=hc;cases hs;obtain ⟨I,hI,hIs⟩:=JD.1 ht;obtain ⟨e,i,z,d,hu,hT⟩:=yw hI;have hu':P.underlying t=some (.slice (P.elem t)):=by rw[hu]; simp[Program.elem,hu]
    have Jw:P.elem t=e:=by simp_all
    have hl':(l=none/\l'=0)\/∃ k,l=some (.int k l'):=by
     rcases P9 e1 hl with ⟨_,r1,r2⟩ | r
     simp_all;simp_all
    have hh':(h=none/\h'=es.length)\/∃ k,h=some (.int k h'):=by
     rcases P9 e2 hh with ⟨_,r1,r2⟩ | r
     simp_all;simp_all
    have hrun:(Instr.sliceAt t (.slice A es.length cap) l h none).run P w = .ok (.slice (if cap=l'.toNat then A else A.map (·.add (l'.toNat*sz))) (h'.toNat-l'.toNat) (cap-l'.toNat)) w:=by rw[run_sliceAt_slice (P:=P) w t _ _ _ _ hu',run_slice_any (P:=P) w t A es.length cap hu',a3A (P:=P) (isS:=true) hl' hh' b1 b2 b3 hle w,rJ,Jw,hT.run_sizeOf w];simp[sliced,hIs]
    refine ⟨_,hrun,jE.2 ⟨_,_,by simp only[xY,wI]; rw[a1S (by omega)],?_,fun e he=>hsz e (QP (List.mem_of_mem_drop he)),fun h0=>by simp_all,?_⟩,rfl⟩;grind
    .intro hne;have hlen:((es.take h'.toNat).drop l'.toNat).length≠0:=fun e=>hne (kU e)
     simp only[xY,wI] at hlen;obtain ⟨b,off,rfl,hloc⟩:=hA (fun e=>by rw[e] at hlen; simp at hlen);rw[aQ (by omega)];refine ⟨b,off+l'.toNat*sz,by rw[JE,add_lit],zK fun j p hj => ?_⟩;rw[aC9,lM] at hj;split at hj
     .have:=Dj hloc hj;rwa [show off+l'.toNat*sz+j*sz=off+(l'.toNat+j)*sz by rw[nM]; omega]
     .cases hj
   .cases hs
  .cases hs
 .rename_i i off n sz;obtain ⟨c,cap,hc',rfl,hle,hfit⟩:=sN.1 ha;split at hs
  .rename_i l' h' e1 e2;have e1:BU 0 lo=some l':=e1;have e2:BU n hi=some h':=e2;split at hs
   .rename_i hc;obtain ⟨ht,b1,b2,b3,b4⟩:=hc;obtain ⟨I,hI,hIs⟩:=JD.1 ht;obtain ⟨e,i',z,d,hu,hT⟩:=yw hI;have hu':P.underlying t=some (.slice (P.elem t)):=by rw[hu]; simp[Program.elem,hu]
    have Jw:P.elem t=e:=by simp_all
    have hl':(l=none/\l'=0)\/∃ k,l=some (.int k l'):=by
     rcases P9 e1 hl with ⟨_,r1,r2⟩ | r
     simp_all;simp_all
    have hh':(h=none/\h'=n)\/∃ k,h=some (.int k h'):=by
     rcases P9 e2 hh with ⟨_,r1,r2⟩ | r
     simp_all;simp_all
    have hrun:(Instr.sliceAt t (.slice (some ⟨c.1,off,none⟩) n cap) l h none).run P w = .ok (.slice (if cap=l'.toNat then some ⟨c.1,off,none⟩ else some ⟨c.1,off+l'.toNat*sz,none⟩) (h'.toNat-l'.toNat) (cap-l'.toNat)) w:=by rw[run_sliceAt_slice (P:=P) w t _ _ _ _ hu',run_slice_any (P:=P) w t _ n cap hu',a3A (P:=P) (isS:=true) hl' hh' b1 b2 b3 hle w,rJ,Jw,hT.run_sizeOf w];simp[sliced,hIs,add_lit]
    split at hs
    .rename_i hlt;cases hs;rw[aQ (by omega)] at hrun;refine ⟨_,hrun,sN.2 ⟨c,cap-l'.toNat,hc',rfl,by omega,?_⟩,rfl⟩;have:l'.toNat*sz+(cap-l'.toNat)*sz=cap*sz:=by rw[<- nM]; grind
     omega
    .rename_i hlt;cases hs;refine ⟨_,hrun,jE.2 ⟨_,_,by rw[show h'.toNat-l'.toNat=([]:bTA).length by simp; omega],by simp,by simp,fun h=>absurd h (by omega),fun h0=>absurd rfl h0⟩,rfl⟩
   .cases hs
  .cases hs
 .cases hs
end
theorem a4G (off:Nat):∀ (l:List Value) (k:Nat) (cs:Array Value),off+k+l.length<=cs.size ->
 ((l.zipIdx k).foldl (fun (cs:Array Value) (cj:Value×Nat)=>cs.setIfInBounds (off+cj.2) cj.1) cs).toList=cs.toList.take (off+k) ++ l ++ cs.toList.drop (off+k+l.length)
 | [],k,cs,_=>by simp
 | v::l,k,cs,h=>by simp only[List.zipIdx_cons,List.foldl_cons];rw[a4G off l (k+1) _ (by simp at h ⊢; omega),aTD];have:=list_seg_step cs.toList (off+k) v l (by simp at h ⊢; omega);rw[show off+(k+1)=off+k+1 by omega,this];simp[Nat.add_assoc]
section
variable {P:Program} {M:Mem} {B:aN}
theorem E8 {ps qs:bTA} {us vs:List Value} (h1:aj M B ps us) (h2:aj M B qs vs):aj M B (ps ++ qs) (us ++ vs):=by have l1:=nG h1;grind [Ih,nG,uh]
theorem aQ7 {ps:bTA} {us:List Value} (h:aj M B ps us) (k:Nat):aj M B (ps.take k) (us.take k):=by have:=aAC h 0 k; simp_all
theorem bKV {ps:bTA} {us:List Value} (h:aj M B ps us) (k:Nat):aj M B (ps.drop k) (us.drop k):=by have:=aAC h k (ps.length-k);have hl:=nG h;rwa [yU (by simp),yU (by simp[hl])] at this
theorem Ii {ps:bTA} {us:List Value} (h:aj M B ps us):aj M B (ps.map PV.un) us:=by
 refine Ih (by simp[nG h]) fun j p u hp hu => ?_
 rw[kJ] at hp;cases hq:ps[j]? with
 | none=>simp_all
 | some q =>simp[hq] at hp; subst hp;obtain ⟨u',e,hr⟩:=uh h hq;rw[e] at hu; cases hu; exact oL.2 hr
theorem Du {p:PV} (h:p.one=true) {v:Value} (hr:Rep M B p v):v.cells = #[v]/\v.oneCell'=true:=by
 cases p with
 | int k n=>rw[dS.1 hr]; exact ⟨rfl,rfl⟩
 | bool b=>rw[jo.1 hr]; exact ⟨rfl,rfl⟩
 | str b=>rw[iG.1 hr]; exact ⟨rfl,rfl⟩
 | nilp=>rw[Ie.1 hr]; exact ⟨rfl,rfl⟩
 | raw u=>obtain ⟨rfl,h1⟩:=Bc.1 hr; refine ⟨?_,h1⟩; cases v<;>first | rfl | (simp[Value.oneCell'] at h1)
 | ptr i off=>obtain ⟨c,_,rfl⟩:=vZ.1 hr; exact ⟨rfl,rfl⟩
 | cO T i =>
  obtain ⟨c,_,h0,h1⟩:=FW.1 hr;by_cases hT:T=0
  .obtain ⟨_,rfl⟩:=h0 hT; exact ⟨rfl,rfl⟩
  .have h1:=h1 hT;unfold XH at h1;split at h1
   .obtain ⟨_,rfl⟩:=h1; exact ⟨rfl,rfl⟩
   .obtain ⟨_,rfl | rfl⟩:=h1<;>exact ⟨rfl,rfl⟩
 | cst e=>obtain ⟨c,_,rfl,_⟩:=AP.1 hr; exact ⟨rfl,rfl⟩
 | sl o sz es=>obtain ⟨A,c,rfl,_⟩:=jE.1 hr; exact ⟨rfl,rfl⟩
 | slh i off n sz=>obtain ⟨A,c,_,rfl,_⟩:=sN.1 hr; exact ⟨rfl,rfl⟩
 | cZ l=>obtain ⟨A,c,rfl,_⟩:=a0G.1 hr; exact ⟨rfl,rfl⟩
 | gB o n sz cs=>obtain ⟨A,c,rfl,_⟩:=FX.1 hr; exact ⟨rfl,rfl⟩
 | mp l=>obtain ⟨f,rfl,_⟩:=aQ1.1 hr; exact ⟨rfl,rfl⟩
 | func fn f c=>obtain ⟨f,c,rfl,_⟩:=zW.1 hr; exact ⟨rfl,rfl⟩
 | agg cs=>simp[PV.one] at h
 | tuple cs=>simp[PV.one] at h
theorem UU {p:PV} {new:bTA} (h:p.newCells=some new) {v:Value} (hr:Rep M B p v):aj M B new v.cells.toList/\∀ q,q∈new->q.own=false:=by
 unfold PV.newCells at h;split at h
 .split at h
  .cases h;obtain ⟨vs,rfl,hs⟩:=pG.1 hr;exact ⟨Ii hs,fun q hq=>by grind [qE]⟩
  .cases h
 .split at h
  .rename_i h1;cases h;rw[(Du h1 hr).1];exact ⟨bg.2 ⟨v,[],rfl,oL.2 hr,dJ.2 rfl⟩,fun q hq=>by rw[uI.1 hq]; exact qE p⟩
  .cases h
theorem aOA {p:PV} {new:bTA} (h:p.newCells=some new) {v:Value} (hr:Rep M B p v):∀ u,u∈v.cells.toList->u.oneCell'=true:=by
 have h1:=(UU h hr).1;have h2:∀ q,q∈new->q.one=true:=by unfold PV.newCells at h;grind [aSZ]
 intro u hu;obtain ⟨j,hj⟩:=yR.1 hu;have hl:=nG h1;have hjl:=(iJ.1 hj).1;have hd:new[j]? = some (new[j]'(by omega)):=jF (by omega);obtain ⟨u',e,hr'⟩:=uh h1 hd;rw[e] at hj; cases hj;exact (Du (h2 _ (gG _)) hr').2
theorem a3Z {place:Nat->Option (Nat×Nat)}:∀ {ps:List (Nat×PV)} {vs:List (Nat×Value)} {cs:bTA} {us:Array Value} {r:bTA},Ep place cs ps=some r->aj M B cs us.toList ->
 ps.length=vs.length->(∀ (j:Nat) p v,ps[j]? = some p->vs[j]? = some v->p.1=v.1/\Rep M B p.2 v.2)->∃ r',Instr.fill place us vs=some r'/\aj M B r r'.toList
 | [],[],cs,us,r,h,hc,_,_=>by simp[Ep] at h; subst h; exact ⟨us,rfl,hc⟩
 | [],_::_,_,_,_,_,_,hl,_=>by simp at hl
 | _::_,[],_,_,_,_,_,hl,_=>by simp at hl
 | (i,p)::ps,(i',v)::vs,cs,us,r,h,hc,hl,hv=>by
  obtain ⟨e,hr⟩:=hv 0 (i,p) (i',v) rfl rfl;simp only at e hr; subst e;rw[Ep] at h;split at h
  .rename_i o z new hp hn;split at h
   .rename_i hlen;obtain ⟨hz,hfit⟩:=hlen;have hnr:=(UU hn hr).1;have hsz:v.cells.size=z:=by have:=nG hnr; simp at this; omega
    have hus:us.size=cs.length:=by have:=nG hc; simp at this; omega
    have hfold:=a4G o v.cells.toList 0 us (by simp; omega);simp only[GU] at hfold;have ha:(v.cells.zipIdx.foldl (fun cs (c,j)=>cs.setIfInBounds (o+j) c) us)=((v.cells.toList.zipIdx 0).foldl (fun (cs:Array Value) (cj:Value×Nat)=>cs.setIfInBounds (o+cj.2) cj.1) us):=by rw[<- Array.foldl_toList,Array.toList_zipIdx]
    obtain ⟨r',h1,h2⟩:=a3Z (ps:=ps) (vs:=vs) (us:=(v.cells.toList.zipIdx 0).foldl (fun (cs:Array Value) (cj:Value×Nat)=>cs.setIfInBounds (o+cj.2) cj.1) us) h (by
     rw[hfold];have:(v.cells.toList.length)=z:=by simpa using hsz
     rw[this];exact E8 (E8 (aQ7 hc o) hnr) (bKV hc _)) (by simpa using hl) (fun j p v a b=>hv (j+1) p v (by simpa using a) (by simpa using b))
    refine ⟨r',?_,h2⟩;rw[Instr.fill,hp];simp only;rw[aQ (by simp; omega),ha];exact h1
   .cases h
  .cases h
theorem a96 {rd:Operand->Option PV} {ρ:Operand->Value} (hrd:∀ x q,rd x=some q->Rep M B q (ρ x)/\q.own=false):∀ {xs:List (Nat×Operand)} {ps:List (Nat×PV)},tY rd xs=some ps ->
 ps.length=(xs.map fun ix=>(ix.1,ρ ix.2)).length/\∀ (j:Nat) p v,ps[j]? = some p->(xs.map fun ix=>(ix.1,ρ ix.2))[j]? = some v->p.1=v.1/\Rep M B p.2 v.2
 | [],ps,h=>by grind [tY]
 | (i,x)::xs,ps,h=>by
  rw[tY] at h;split at h
  .rename_i p qs hp hq;cases h;obtain ⟨h1,h2⟩:=a96 hrd hq;grind
  .cases h
theorem aTB {z:Value} (h:∀ v,v∈z.cells->v.oneCell'=true):aj M B ((z.cells.toList.map mM).map PV.un) z.cells.toList:=by grind [Ii,Ih,Ig]
theorem bJX {t:TypeId} {fs:List (Nat×Nat×Bool)} (h:fieldsOf P t=some fs):∃ Fs,P.underlying t=some (.struct Fs)/\Fs.toList.mapM (fun f=>(P.info? f.type).map fun i=>(f.offset,i.size))=some (fs.map fun f=>(f.1,f.2.1)):=by
 unfold fieldsOf at h;split at h
 .rename_i Fs hu;refine ⟨Fs,hu,?_⟩;generalize Fs.toList=L at h;induction L generalizing fs with
  | nil=>simp_all
  | cons f L ih =>
   rw[List.mapM_cons] at h ⊢;cases hf:ti P f.type with
   | none=>grind
   | some I =>
    cases hm:L.mapM (fun f=>(ti P f.type).map fun i=>(f.offset,i.size,i.agg)) with
    | none=>simp_all
    | some bs =>simp[hf,hm] at h;subst h;obtain ⟨i,z,d,hT⟩:=Fg hf;rw[ih hm];simp[hT.info,hT.size]
 .cases h
theorem aW1 {t:TypeId} {xs:Array (Nat×Operand)} {rd:Operand->Option PV} {ρ:Operand->Value} (hrd:∀ x q,rd x=some q->Rep M B q (ρ x)/\q.own=false) {p:PV} (h:pop P rd (.build t xs)=some p) (w:World) :
 ∃ v,(Instr.build t (xs.map fun (i,x)=>(i,ρ x))).run P w = .ok v w/\Rep M B p v/\p.own=false:=by
 have hxs:(xs.map fun (i,x)=>(i,ρ x)).toList=xs.toList.map fun ix=>(ix.1,ρ ix.2):=by simp
 rw[pop] at h;split at h
 .rename_i I qs hI hq;obtain ⟨i,z,d,hT⟩:=Fg hI;obtain ⟨p1,p2⟩:=a96 hrd hq;have hz:aj M B (I.zero.map PV.un) z.cells.toList:=by rw[hT.Tu]; exact aTB hT.one
  split at h
  .rename_i fs hf ha;obtain ⟨Fs,hu,hm⟩:=bJX hf;cases TS:Ep (fun i=>(fs[i]?).map fun f=>(f.1,f.2.1)) (I.zero.map PV.un) qs with
   | none=>simp_all
   | some r =>
    simp[TS] at h; subst h;obtain ⟨r',h1,h2⟩:=a3Z TS hz p1 p2;refine ⟨.agg r',run_build w t _ r' ?_,pG.2 ⟨r',rfl,h2⟩,rfl⟩;have hpl:(fun (j:Nat)=>((fs.map fun f=>(f.1,f.2.1)).toArray)[j]?)=fun (i:Nat)=>(fs[i]?).map fun f=>(f.1,f.2.1):=by simp
    simp only[Program.built,hT.info,hu,hT.zero,hm];rw[hpl,hxs]; exact h1
  .rename_i n J hf ha;obtain ⟨e,j,z',d',hu,hJ⟩:=X6 ha;cases TS:Ep (fun i=>some (i*J.size,J.size)) (I.zero.map PV.un) qs with
   | none=>simp_all
   | some r =>simp[TS] at h; subst h;obtain ⟨r',h1,h2⟩:=a3Z TS hz p1 p2;refine ⟨.agg r',run_build w t _ r' ?_,pG.2 ⟨r',rfl,h2⟩,rfl⟩;simp only[Program.built,hT.info,hu,hT.zero,hJ.info];rw[hxs,<- hJ.size]; exact h1
  .cases h
 .cases h
theorem aWT {c:Call} {ty:TypeId} {rd:Operand->Option PV} {ρ:Operand->Value} (hrd:∀ x q,rd x=some q->Rep M B q (ρ x)/\q.own=false) {p:PV} (h:FQ P rd c=some p) (w:World) :
 ∃ v,(do let d<-resolve ρ c ty; invoke d.target d.args:Sem Next).run P w = .ok (.value v) w/\Rep M B p v/\p.own=false:=by
 obtain ⟨callee,args,argTypes⟩:=c;unfold FQ at h;simp only at h;split at h
 .split at h
  .rename_i x t h1 h2;cases hx:rd x with
   | none=>grind
   | some q =>
    simp[hx] at h;have e1:args = #[x]:=by rw[<- qP]; exact h1
    have e2:argTypes = #[t]:=by rw[<- qP]; exact h2
    subst e1; subst e2;obtain ⟨v,h3,h4⟩:=bFG (ty:=ty) h (hrd _ _ hx).1 w;exact ⟨v,by simp[resolve,invoke,builtin,h3],h4⟩
  .cases h
 .cases ha:jc (args.toList.map rd) with
  | none=>grind
  | some ps =>simp[ha] at h;obtain ⟨h1,_⟩:=LC hrd ha;obtain ⟨v,h3,h4⟩:=bGJ (ts:=argTypes) (ty:=ty) h (vs:=args.map ρ) (by simpa using h1) w;exact ⟨v,by simp only[resolve,invoke,builtin,lu,ER,rJ]; rw[h3]; rfl,h4⟩
 .cases ha:jc (args.toList.map rd) with
  | none=>grind
  | some ps =>simp[ha] at h;obtain ⟨h1,_⟩:=LC hrd ha;obtain ⟨v,h3,h4⟩:=bGH (ts:=argTypes) (ty:=ty) h (vs:=args.map ρ) (by simpa using h1) w;exact ⟨v,by simp only[resolve,invoke,builtin,lu,ER,rJ]; rw[h3]; rfl,h4⟩
 .cases h
theorem aL1 {t:TypeId} {A:Option Addr} {n cap:Nat} {k:IntKind} {j:Int} {I:TI} {e:TypeId} {i:TypeInfo} {z:Value} {d:TypeDesc} (hu:P.underlying t=some (.slice e)) (hT:qc P e I i z d) {b off:Nat} (hA:A=some ⟨b,off,none⟩)
 (h0:0<=j) (h1:j<n) (w:World):(Instr.indexAt t (.slice A n cap) (.int k j)).run P w = .ok (.pointer (some ⟨b,off+j.toNat*I.size,none⟩)) w:=by
 subst hA;simp[Instr.indexAt,asIntOf,eX hu,h0,h1,hT.run_sizeOf w,add_lit]
theorem bDB {t:TypeId} {x i:Operand} {rd:Operand->Option PV} {ρ:Operand->Value} (hrd:∀ x q,rd x=some q->Rep M B q (ρ x)/\q.own=false) {p:PV} (h:pop P rd (.indexAddr t x i)=some p) (w:World) :
 ∃ v,(Instr.indexAt t (ρ x) (ρ i)).run P w = .ok v w/\Rep M B p v/\p.own=false:=by
 rw[pop] at h;split at h
 .rename_i o sz es k n hx hi;have hrx:=(hrd _ _ hx).1;rw[dS.1 (hrd _ _ hi).1];split at h
  .rename_i hc;obtain ⟨I,hI,hIs⟩:=JD.1 hc.1;obtain ⟨e,i',z,d,hu,hT⟩:=yw hI;cases hg:es[n.toNat]? with
   | none=>grind
   | some q =>
    simp[hg] at h; subst h;have hlt:=(iJ.1 hg).1;obtain ⟨A,cap,e1,hle,hsz,_,hA⟩:=jE.1 hrx
    .obtain ⟨b,off,rfl,hl⟩:=hA (fun e=>by rw[e] at hlt; simp at hlt);rw[e1];refine ⟨_,aL1 hu hT rfl hc.2 (by omega) w,AP.2 ⟨b,_,rfl,?_⟩,rfl⟩;rw[hIs]; exact Dj hl hg
  .cases h
 .rename_i j off m sz k n hx hi;rw[dS.1 (hrd _ _ hi).1];split at h
  .rename_i hc;cases h;obtain ⟨I,hI,hIs⟩:=JD.1 hc.1;obtain ⟨e,i',z,d,hu,hT⟩:=yw hI;obtain ⟨c,cap,hc',e1,_⟩:=sN.1 (hrd _ _ hx).1;rw[e1];exact ⟨_,aL1 hu hT rfl hc.2.1 (by omega) w,vZ.2 ⟨c,hc',by rw[hIs]⟩,rfl⟩
  .cases h
 .rename_i j off k n hx hi;rw[dS.1 (hrd _ _ hi).1];split at h
  .rename_i m I hI;split at h
   .rename_i hc;cases h;obtain ⟨e,i',z,d,hu,hT⟩:=X6 hI;obtain ⟨c,hc',e1⟩:=vZ.1 (hrd _ _ hx).1;rw[e1];refine ⟨_,?_,vZ.2 ⟨c,hc',rfl⟩,rfl⟩;simp[Instr.indexAt,asIntOf,eX hu,hc.1,hc.2,Instr.sureAddr,hT.run_sizeOf w,add_lit]
   .cases h
  .cases h
 .rename_i cs k n hx hi;rw[dS.1 (hrd _ _ hi).1];split at h
  .rename_i m I hI;split at h
   .rename_i hc;obtain ⟨e,i',z,d,hu,hT⟩:=X6 hI;obtain ⟨b,off,e1,hl⟩:=AP.1 (hrd _ _ hx).1;rw[e1];cases hv:xN cs (n.toNat*I.size) I.size I.agg with
    | none=>grind
    | some r =>simp[hv] at h; subst h;refine ⟨_,?_,AP.2 ⟨b,_,rfl,aSC (yD.1 hl) hv⟩,rfl⟩;simp[Instr.indexAt,asIntOf,eX hu,hc.1,hc.2,Instr.sureAddr,hT.run_sizeOf w,add_lit]
   .cases h
  .cases h
 .cases h
theorem bDD {t:TypeId} {x i:Operand} {rd:Operand->Option PV} {ρ:Operand->Value} (hrd:∀ x q,rd x=some q->Rep M B q (ρ x)/\q.own=false) {p:PV} (h:pop P rd (.index t x i)=some p) (w:World) :
 ∃ v,(Instr.index t (ρ x) (ρ i)).run P w = .ok v w/\Rep M B p v/\p.own=false:=by
 rw[pop] at h;split at h
 .rename_i s k n hx hi;rw[dS.1 (hrd _ _ hi).1,iG.1 (hrd _ _ hx).1];split at h
  .rename_i hc;cases hb:s[n.toNat]? with
   | none=>grind
   | some b =>simp[hb] at h; subst h;refine ⟨.int .u8 b.toNat,?_,dS.2 rfl,rfl⟩;simp[Instr.index,asIntOf,eX (Tn hc.1),hc.2,hb]
  .cases h
 .rename_i cs k n hx hi;rw[dS.1 (hrd _ _ hi).1];split at h
  .rename_i m I hI;split at h
   .rename_i hc;obtain ⟨e,i',z,d,hu,hT⟩:=X6 hI;obtain ⟨vs,e1,hv⟩:=pG.1 (hrd _ _ hx).1;rw[e1];obtain ⟨v,h1,h2⟩:=a0Y hv hT h w;refine ⟨v,?_,h2⟩;simp[Instr.index,asIntOf,eX hu,hc.1,hc.2,hT.run_sizeOf w,h1]
   .cases h
  .cases h
 .cases h
theorem bJZ {rd:Operand->Option PV} {ρ:Operand->Value} (hrd:∀ x q,rd x=some q->Rep M B q (ρ x)/\q.own=false) {o:Oper} {p:PV} (h:pop P rd o.op=some p) (w:World) (hmem:∀ (b o:Nat) (v:Value),M b o=some v->w.cell? ⟨b,o,none⟩=some v/\v.oneCell'=true) :
 ∃ v,(execOp ρ o).run P w = .ok (.value v) w/\Rep M B p v/\p.own=false:=by
 obtain ⟨dst,op,type,pos,after,guard⟩:=o;simp only at h;have fin:∀ {s:Sem Value},(∃ v,s.run P w = .ok v w/\Rep M B p v/\p.own=false)->execOp ρ ⟨dst,op,type,pos,after,guard⟩=(do pure (.value (<- s)))->∃ v,(execOp ρ ⟨dst,op,type,pos,after,guard⟩).run P w = .ok (.value v) w/\Rep M B p v/\p.own=false :=fun ⟨v,h1,h2⟩ he=>⟨v,aZ1 he h1,h2⟩
 cases op with
 | move x=>exact ⟨ρ x,rfl,hrd _ _ h⟩
 | assign x=>exact ⟨ρ x,rfl,hrd _ _ h⟩
 | pick c a b =>
  rw[pop] at h;split at h
  .rename_i cc hc;have e:=jo.1 (hrd _ _ hc).1;cases cc with
   | true=>exact ⟨ρ a,by simp[execOp,e,asBool],hrd _ _ (by grind)⟩
   | false=>exact ⟨ρ b,by simp[execOp,e,asBool],hrd _ _ (by grind)⟩
  .cases h
 | fieldAddr s x f =>
  rw[pop] at h;split at h
  .rename_i fs q hf hq;cases hj:fs[f]? with
   | none=>grind
   | some ozg =>
    obtain ⟨o,z,g⟩:=ozg;simp only[hj,MJ] at h;split at h
    .cases h
    .rename_i hz;exact fin (bN4 (hrd _ _ hq).1 hf hj hz h w) rfl
  .cases h
 | field s x f =>
  rw[pop] at h;split at h
  .rename_i fs cs hf hq;cases hj:fs[f]? with
   | none=>grind
   | some ozg =>obtain ⟨o,z,g⟩:=ozg;simp only[hj,MJ] at h;obtain ⟨Fs,F,I,i,zv,d,hu,hF,ho,hT,hsz,hg⟩:=aFU hf hj;subst ho; subst hsz; subst hg;obtain ⟨vs,e,hv⟩:=pG.1 (hrd _ _ hq).1;obtain ⟨v,h1,h2⟩:=a0Y hv hT h w;refine fin ⟨v,?_,h2⟩ rfl;rw[e];simp[Instr.field,eX hu,hF,asAgg,h1]
  .cases h
 | indexAddr t x i=>exact fin (bDB hrd h w) rfl
 | index t x i=>exact fin (bDD hrd h w) rfl
 | slice t x lo hi mx =>
  cases mx with
  | some m =>
   cases lo with
   | none=>simp[pop] at h
   | some l =>
    cases hi with
    | none=>simp[pop] at h
    | some b =>
     rw[pop] at h;split at h
     .rename_i q pa pb pc hx ha hb hc;exact fin (bMJ h (hrd _ _ hx).1 (hrd _ _ ha).1 (hrd _ _ hb).1 (hrd _ _ hc).1 w) rfl
     .cases h
  | none =>
   rw[pop] at h;cases hx:rd x with
   | none=>grind
   | some q =>
    cases lo with
    | none =>
     cases hi with
     | none=>simp[hx] at h; exact fin (a0S h (hrd _ _ hx).1 (.inl ⟨rfl,rfl⟩) (.inl ⟨rfl,rfl⟩) w) rfl
     | some b =>
      cases hb:rd b with
      | none=>simp_all
      | some pb=>simp[hx,hb] at h; exact fin (a0S h (hrd _ _ hx).1 (.inl ⟨rfl,rfl⟩) (.inr ⟨_,_,rfl,rfl,(hrd _ _ hb).1⟩) w) rfl
    | some a =>
     cases ha:rd a with
     | none=>cases hi<;>simp[hx,ha] at h
     | some pa =>
      cases hi with
      | none=>simp[hx,ha] at h; exact fin (a0S h (hrd _ _ hx).1 (.inr ⟨_,_,rfl,rfl,(hrd _ _ ha).1⟩) (.inl ⟨rfl,rfl⟩) w) rfl
      | some b =>
       cases hb:rd b with
       | none=>simp_all
       | some pb=>simp[hx,ha,hb] at h; exact fin (a0S h (hrd _ _ hx).1 (.inr ⟨_,_,rfl,rfl,(hrd _ _ ha).1⟩) (.inr ⟨_,_,rfl,rfl,(hrd _ _ hb).1⟩) w) rfl
 | binOp op t x y yt =>
  rw[pop] at h;split at h
  .rename_i a b ha hb;obtain ⟨h1,v,h2,h3⟩:=aVV h (hrd _ _ ha).1 (hrd _ _ hb).1 w;refine fin (s:=do eqGuard op t x y (ρ x) (ρ y); binOp op t (ρ x) (ρ y)) ⟨v,?_,h3⟩ rfl;rw[lu,h1 x y,rJ,h2]
  .cases h
 | unOp op t x =>
  rw[pop] at h;cases hx:rd x with
  | none=>grind
  | some q=>simp[hx] at h; exact fin (bOY h (hrd _ _ hx).1 w) rfl
 | convert s d x =>
  rw[pop] at h;cases hx:rd x with
  | none=>grind
  | some q=>simp[hx] at h; exact fin (aXL h (hrd _ _ hx).1 w hmem) rfl
 | makeFunc fn first caps =>
  rw[pop] at h;split at h
  .rename_i f c hf hc;cases h;exact fin (s:=Instr.makeFunc fn (first.map ρ) (caps.map ρ)) ⟨_,rfl,zW.2 ⟨_,_,rfl,by simpa using (LC hrd hf).1,by simpa using (LC hrd hc).1⟩,rfl⟩ rfl
  .cases h
 | extract x i =>
  rw[pop] at h;cases hx:rd x with
  | none=>grind
  | some q=>simp[hx] at h; exact fin (aZ2 h (hrd _ _ hx).1 w) rfl
 | nilCheck x =>
  rw[pop] at h;split at h
  .rename_i i o hx;cases h;obtain ⟨c,_,e⟩:=vZ.1 (hrd _ _ hx).1;exact ⟨ρ x,by simp[execOp,e],(hrd _ _ hx)⟩
  .rename_i q hx;cases h;obtain ⟨b,off,e,_⟩:=AP.1 (hrd _ _ hx).1;exact ⟨ρ x,by simp[execOp,e],(hrd _ _ hx)⟩
  .rename_i f a b hx;cases h;obtain ⟨f',c',e,_,_⟩:=zW.1 (hrd _ _ hx).1;exact ⟨ρ x,by simp[execOp,e],(hrd _ _ hx)⟩
  .cases h
 | build t ps=>exact fin (aW1 hrd h w) rfl
 | call c =>obtain ⟨v,h1,h2⟩:=aWT (ty:=type) hrd (by simpa[pop] using h) w;exact ⟨v,h1,h2⟩
 | _=>simp[pop] at h
end
structure AE where
 P:Program
 n:Nat
 vars:List Nat
 mv:List Nat
 mu:List Nat
 sz:List (Nat×List Nat) := []
 jt:List (Nat×List Nat) := []
 lt:List (Nat×List Nat) := []
 pt:List (Nat×List Nat) := []
 fz:List Nat := []
 ft:List (Nat×List Nat) := []
 sy:List Nat := []
 ln:List Nat := []
def ASt.ev (Z:ASt):Operand->Option PV
 | .tmp t=>bT t Z.s
 | .const v=>a03 v
 | .func f=>some (.func (.func f) [] [])
 | .global _=>none
def ASt.rd (Z:ASt) (x:Operand):Option PV:=(Z.ev x).map PV.un
def ASt.rdT (zs:List Nat) (Z:ASt) (x:Operand):Option PV:=(Z.rd x).map (PV.zX zs)
def elT (P:Program) (t:TypeId):List Nat:=match wW P t with | some e=>NW P 8 e | none => []
def ASt.clr (Z:ASt):Operand->ASt
 | .tmp t=>match bT t Z.s with
  | some p => { Z with s:=iI t p.un Z.s }
  | none=>Z
 | _=>Z
def ASt.put (E:AE) (dst:Option Nat) (p:PV) (Z:ASt):Option ASt :=
 match dst with
 | none=>some Z
 | some d=>if d<E.n then some { Z with s:=iI d p Z.s } else none
def dB (l:List Nat):Option Nat->Bool
 | some d=>l.contains d
 | none=>false
def o9 (mv:Bool) (I:TI) (q:PV) (Z:ASt):Option (PV×ASt) :=
 match q with
 | .cst e=>if e.isAgg=I.agg/\e.size=I.size then some (e.un,Z) else none
 | .ptr i off=>match Z.h[i]? with
  | some (some cs) =>
   if I.agg then (if off+I.size<=cs.length then some (.agg (((cs.drop off).take I.size).map PV.un),Z) else none)
   else match cs[off]? with
    | some p=>if mv then some (p,{ Z with h:=Z.h.set i (some (cs.set off p.un)) }) else some (p.un,Z)
    | none=>none
  | _=>none
 | _=>none
def yL (I:TI) (a x:PV) (Z:ASt):Option ASt :=
 match a with
 | .ptr i off=>match Z.h[i]? with
  | some (some cs)=>match x with
   | .agg ds=>if ds.length=I.size/\off+I.size<=cs.length/\ds.all PV.one then some { Z with h:=Z.h.set i (some (cs.take off ++ ds.map PV.un ++ cs.drop (off+I.size))) } else none
   | p=>if p.one/\I.size=1/\off<cs.length then some { Z with h:=Z.h.set i (some (cs.set off p)) } else none
  | _=>none
 | _=>none
def PV.okE:PV->Bool
 | .agg ds=>ds.all PV.one&&PV.flats ds
 | p=>p.one&&p.flat
theorem bHJ {p:PV} (h:p.okE=true):p.flat=true:=by
 cases p with
 | agg ds=>simp only[PV.okE,bF] at h; exact h.2
 | _=>first | (simp only[PV.okE,bF] at h; exact h.2) | (simp[PV.okE,PV.one] at h; done)
def D9 (sz:Nat):Nat->List (Nat×PV)->Option (bTA)
 | _,[]=>some []
 | k,(i,p)::ps=>if i=k/\p.size=sz/\p.okE then (D9 sz (k+1) ps).map (p.un :: ·) else none
def dm:bTA->bTA
 | [] => []
 | .agg ds::ps=>ds.map PV.un ++ dm ps
 | p::ps=>p.un::dm ps
def Nv (q:PV):Option PV:=match q.newCells with
 | some cs=>if q.flat=true then some (match q with | .agg _ => .agg cs | _=>q) else none
 | none=>none
def JR (b:Bool) (t:Nat) (i:Nat) (cs:bTA):bTA:=match b,cs with
 | true,[.nilp,.sl true 0 []]=>(match Nat.beq t 0||Nat.beq t CW with | true=>cs | false => [.cO t i,.cZ []])
 | _,cs=>cs
theorem aVZ (b:Bool) (t:TypeId) (i:Nat) (cs:bTA):(JR b t i cs).length=cs.length:=by unfold JR; grind
theorem aVY {b:Bool} {t:TypeId} {i:Nat} {cs:bTA} {j:Nat} {p:PV} (h:(JR b t i cs)[j]? = some p):cs[j]? = some p\/(j=0/\p = .cO t i/\cs[0]? = some .nilp/\cs.length=2/\(t≠0/\Nat.beq t CW=false))\/(j=1/\p = .cZ []/\cs[1]? = some (.sl true 0 [])):=by
 unfold JR at h;split at h
 .split at h
  simp_all
  .rename_i ht;rw[aC4] at ht;match j with
   | 0=>simp at h; exact .inr (.inl ⟨rfl,h.symm,rfl,rfl,fun e=>by simp_all,ht.2⟩)
   | 1=>simp_all
   | j+2=>simp at h
 simp_all
def uo (I:TI):PV:=match I.agg with
 | true => .agg (I.zero.map PV.un)
 | false=>match I.zero with | [p]=>p.un | _ => .nilp
def wG (n:Nat) (I:TI):bTA:=match I.zero with
 | [p]=>List.replicate n p
 | zs=>(List.replicate n zs).flatten
theorem bPR (n:Nat) (I:TI):wG n I=(List.replicate n I.zero).flatten:=by
 unfold wG;split;simp_all
 .rfl
def Ip (b:ByteArray):bTA:=b.data.toList.map fun x => .int .u8 x.toNat
theorem bN1 (b:ByteArray):(Ip b).length=b.size:=by rw[Ip,aX,Array.length_toList]; rfl
theorem bN0 (b:ByteArray):Ip b=mY b.data.toList:=rfl
theorem aEC (a b:bTB):mY (a ++ b)=mY a ++ mY b:=lq
theorem XP (a:bTB):(mY a).length=a.length:=aX _
def aOX (l:List Nat):PV->Bool
 | .cst _=>true
 | .ptr i _=>dB l (some (1000000+i))
 | _=>false
def kD:Operand->Option Nat
 | .tmp t=>some t
 | _=>none
def Py (mu ln:List Nat) (d:Option Nat) (q:Option PV):Bool:=match dB mu d with
 | true=>(match q with | some (.ptr i _) => !dB ln (some (1000000+i)) | _=>false)
 | false=>true
def Uc:bTA->Option Int
 | [.int .u8 c]=>some c
 | _=>none
theorem bHO {es:bTA} {c:Int} (h:Uc es=some c):es = [.int .u8 c]:=by unfold Uc at h; grind
theorem bHN {c:Int} (h0:0<=c) (h1:c<256):mY [UInt8.ofNat c.toNat] = [.int .u8 c]:=by have:(UInt8.ofNat c.toNat).toNat=c.toNat:=UInt8.toNat_ofNat_of_lt' (by simp_all);grind [mY]
def En (Z:ASt) (sz:Nat):PV->Option (Nat×bTA)
 | .sl _ sz' es=>(match Nat.beq sz' sz||Nat.beq sz' 0 with | true=>some (es.length,dm es) | false=>none)
 | .slh j off m sz'=>(match Z.h[j]? with
  | some (some cs)=>if sz'=sz/\off+m*sz<=cs.length then some (m,((cs.drop off).take (m*sz)).map PV.un) else none
  | _=>none)
 | _=>none
def aM1 (P:Program) (k:TypeId):Option (Option IntKind):=match P.underlying k with
 | some .string=>some none
 | some (.int kd)=>some (some kd)
 | _=>none
def zeroOf:Value->PV
 | .agg cs => .agg ((cs.toList.map mM).map PV.un)
 | v=>(mM v).un
def WC:Value->Bool
 | .agg cs=>cs.toList.all (·.oneCell')
 | v=>v.oneCell'
def BM (P:Program) (t:TypeId):Option (Option IntKind×PV):=match P.underlying t with
 | some (.map k e)=>(match aM1 P k,(P.info? e).bind (·.zero) with
  | some s,some z=>(match WC z with | true=>some (s,zeroOf z) | false=>none)
  | _,_=>none)
 | _=>none
def eqK (s:Option IntKind) (a b:PV):Option Bool:=match s,a,b with
 | some kd,.int k x,.int k' y=>(match decide (k=kd)&&decide (k'=kd) with | true=>some (x==y) | false=>none)
 | none,.str x,.str y=>some (x.data.toList==y.data.toList)
 | _,_,_=>none
def xE (s:Option IntKind):bTA->PV->Option (Option PV)
 | k::v::L,q=>(match eqK s q k with
  | some true=>some (some v)
  | some false=>xE s L q
  | none=>none)
 | [],_=>some none
 | [_],_=>none
def qo (s:Option IntKind):bTA->PV->Bool
 | k::_::L,q=>(match eqK s q k with | some _=>true | none=>false)&&qo s L q
 | [],_=>true
 | [_],_=>false
def sF (s:Option IntKind):bTA->PV->Bool
 | k::_::L,q=>(match eqK s q k with | some true=>true | _=>sF s L q)
 | _,_=>false
def nD (s:Option IntKind):bTA->PV->PV->bTA
 | k::v::L,q,x=>(match eqK s q k with | some true=>q::x::L | _=>k::v::nD s L q x)
 | L,_,_=>L
def oD:PV->PV->Bool
 | .str a,.str b=>D5 a.data.toList b.data.toList
 | _,_=>false
def oG:bTA->PV->PV->bTA
 | k::v::L,q,x=>(match oD q k with | true=>q::x::k::v::L | false=>k::v::oG L q x)
 | _,q,x => [q,x]
def jW (s:Option IntKind) (L:bTA) (q x:PV):bTA:=match sF s L q with
 | true=>nD s L q x
 | false=>oG L q x
def nU (b:Bool) (L:bTA):PV:=match b with | true => .mp L | false => .func (.yield Gi) L []
def zx:bTA->Option (Bool×bTA)
 | [.func (.yield n) L []]=>(match Nat.beq n Gi with | true=>some (false,L) | false=>none)
 | [.mp L]=>some (true,L)
 | _=>none
theorem aNW {cs L:bTA} {b:Bool} (h:zx cs=some (b,L)):cs = [nU b L]:=by
 unfold zx at h;split at h
 .split at h
  .rename_i hn; cases h; rw[nZ hn]; rfl
  .cases h
 .cases h; rfl
 .cases h
def zF (s:ByteArray) (p:Int):PV := .func (.yield WZ) [.str s,.int .i64 p] []
def Oc:bTA->Option (ByteArray×Int)
 | [.func (.yield n) [.str s,.int .i64 p] []]=>(match Nat.beq n WZ with | true=>some (s,p) | false=>none)
 | _=>none
theorem aLG {cs:bTA} {s:ByteArray} {p:Int} (h:Oc cs=some (s,p)):cs = [zF s p]:=by
 unfold Oc at h;split at h
 .split at h
  .rename_i hn; cases h; rw[nZ hn]; rfl
  .cases h
 .cases h
def Oe (s:ByteArray) (p:Int):Int:=p+((Utf8.decode s p.toNat).2:Int)
def ZK (s:ByteArray) (p:Int):Int:=((Utf8.decode s p.toNat).1:Int)
def UO (b:Bool) (B:aN):aN:=match b with | true => [] | false=>B
theorem a0F {M:Mem} {B:aN} {b:Bool} {L:bTA} {v:Value}:Rep M B (nU b L) v↔∃ f,v = .func (.yield Gi) f #[]/\aj M (UO b B) L f.toList:=by
 cases b with
 | true=>exact aQ1
 | false =>
  refine zW.trans ⟨?_,?_⟩
  .rintro ⟨f,c,rfl,h1,h2⟩;rw[dJ] at h2;have:c = #[]:=by rw[<- qP]; exact h2
   subst this;exact ⟨f,rfl,h1⟩
  .rintro ⟨f,rfl,h1⟩;exact ⟨f,#[],rfl,h1,dJ.2 rfl⟩
theorem Ou (b:Bool) (L:bTA):(nU b L).own=false:=by cases b<;>rfl
def y8 (s:Option IntKind) (q:PV):Bool:=match s,q with
 | some kd,.int k _=>decide (k=kd)
 | none,.str _=>true
 | _,_=>false
def BK (ok:Bool) (z:PV):Option PV->PV
 | some p=>(match ok with | true => .tuple [p.un,.bool true] | false=>p.un)
 | none=>(match ok with | true => .tuple [z,.bool false] | false=>z)
def bDC (mu:List Nat) (d:Option Nat):Bool:=dB mu (d.map (5000000 + ·))
def aAG (l:List Nat) (n:Nat):Bool:=l.all fun k=>match Nat.ble 1000000 k with | true=>Nat.blt (k-1000000) n | false=>true
def VB (mu ln:List Nat) (d:Option Nat) (q:Option PV):Bool:=match dB mu (d.map (6000000 + ·)) with
 | true=>(match q with | some (.cO _ i) => !dB ln (some (1000000+i)) | _=>false)
 | false=>true
def bQ (E:AE) (o:Oper) (Z:ASt):Option (PV×ASt) :=
 match o.op with
 | .move x=>if dB E.mv o.dst then (Z.ev x).map fun p=>(p,Z.clr x) else (Z.rd x).map fun p=>(p,Z)
 | .assign x=>(Z.ev x).map fun p=>(p,Z.clr x)
 | .alloc t=>match dB E.ln o.dst && !aAG E.ln Z.h.length with
  | true=>none
  | false=>(ti E.P t).map fun I=>(.ptr Z.h.length 0,{ Z with h:=Z.h ++ [some (JR (dB E.mu o.dst) t Z.h.length I.zero)] })
 | .box _ x=>if dB E.fz o.dst then ((Z.rd x).bind Nv).map fun e=>(.cst e,Z) else ((Z.rd x).bind PV.newCells).map fun cs=>(.ptr Z.h.length 0,{ Z with h:=Z.h ++ [some cs] })
 | .load t a=>match ti E.P t,Z.rd a with
  | some I,some q=>(match dB E.ln o.dst with | true=>(match aOX E.ln q with | true=>o9 false I q Z | false=>none) | false=>o9 (dB E.mv o.dst) I q Z)
  | _,_=>none
 | .store t a x=>match Py E.mu E.ln (kD a) (Z.rd a) with
  | false=>none
  | true=>match ti E.P t,Z.rd a,Z.ev x,o.dst with
   | some I,some q,some p,none=>(yL I q p (Z.clr x)).map fun Z'=>(.tuple [],Z')
   | _,_,_,_=>none
 | .buildSlice t len ps=>match je E.P t,tY (Z.rdT (elT E.P t)) ps.toList with
  | some I,some qs=>match D9 I.size 0 qs with
   | some es=>if es.length=len/\0<I.size/\len*I.size<=16777216 then
    (if dB E.mu o.dst then some (.slh Z.h.length 0 len I.size,{ Z with h:=Z.h ++ [some (dm es)] }) else (match bDC E.mu o.dst with
     | true=>(match (dm es).all PV.lit with | true=>some (.gB true len I.size (dm es),Z) | false=>none)
     | false=>some (.sl true I.size es,Z))) else none
   | none=>none
  | _,_=>none
 | .makeSlice t l c=>match je E.P t,Z.rd l,Z.rd c with
  | some I,some (.int _ n),some (.int _ n')=>if n=n'/\0<=n/\n<=1073741824/\0<I.size/\I.bytes<=1024 then
   (if dB E.mu o.dst then some (.slh Z.h.length 0 n.toNat I.size,{ Z with h:=Z.h ++ [some (wG n.toNat I)] }) else if (uo I).size=I.size/\(uo I).okE=true then some (.sl true I.size (List.replicate n.toNat (uo I)),Z) else none) else none
  | _,_,_=>none
 | .makeMap t r=>match dB E.ln o.dst && !aAG E.ln Z.h.length with
  | true=>none
  | false=>(match BM E.P t,r with
   | some _,none=>some (.cO 0 Z.h.length,{ Z with h:=Z.h ++ [some [nU (dB E.mu o.dst) []]] })
   | _,_=>none)
 | .lookup t m k ok=>match BM E.P t,Z.rd m,Z.rd k with
  | some (s,z),some (.cO 0 i),some q=>(match Z.h[i]? with
   | some (some cs)=>(match zx cs with
    | some (_,L)=>(match y8 s q,xE s L q with
     | true,some r=>some (BK ok z r,Z)
     | _,_=>none)
    | none=>none)
   | _=>none)
  | _,_,_=>none
 | .mapUpdate t m k v=>match BM E.P t,Z.rd m,Z.rd k,Z.rd v,o.dst with
  | some (s,_),some (.cO 0 i),some q,some x,none=>(match Z.h[i]? with
   | some (some cs)=>(match zx cs with
    | some (b,L)=>(match y8 s q&&(qo s L q&&(!b||x.flat)) with
     | true=>some (.tuple [],{ Z with h:=Z.h.set i (some [nU b (jW s L q x)]) })
     | false=>none)
    | none=>none)
   | _=>none)
  | _,_,_,_,_=>none
 | .insert t m k v=>match VB E.mu E.ln (kD m) (Z.rd m) with
  | false=>none
  | true=>match BM E.P t,Z.rd m,Z.rd k,Z.rd v,o.dst with
   | some (s,_),some (.cO 0 i),some q,some x,none=>(match Z.h[i]? with
    | some (some cs)=>(match zx cs with
     | some (b,L)=>(match y8 s q&&(qo s L q&&(!b||x.flat)) with
      | true=>some (.tuple [],{ Z with h:=Z.h.set i (some [nU b (jW s L q x)]) })
      | false=>none)
     | none=>none)
    | _=>none)
   | _,_,_,_,_=>none
 | .range t x=>match tJ E.P t,Z.rd x with
  | true,some (.str s)=>some (.cO CW Z.h.length,{ Z with h:=Z.h ++ [some [zF s 0]] })
  | _,_=>none
 | .next x b=>match b,Z.rd x with
  | true,some (.cO T i)=>(match Z.h[i]? with
   | some (some cs)=>(match Oc cs with
    | some (s,p)=>(match Nat.beq T CW&&decide (0<=p) with
     | true=>(match decide (p<(s.size:Int)) with
      | true=>some (.tuple [.bool true,.int .i64 p,.int .i32 (ZK s p)],{ Z with h:=Z.h.set i (some [zF s (Oe s p)]) })
      | false=>some (.tuple [.bool false],Z))
     | false=>none)
    | none=>none)
   | _=>none)
  | _,_=>none
 | .call c=>match c.callee with
  | .builtin .copy=>(match c.args.toList,c.argTypes.toList with
   | [x,y],[t,_]=>(match je E.P t,Z.rd x,Z.rd y with
    | some I,some (.slh i off n sz),some q=>(match Z.h[i]?,En Z sz q with
     | some (some cs),some (m,cells)=>if I.size=sz/\0<sz/\off+n*sz<=cs.length then some (.int .i64 ((Nat.min m n:Nat):Int),{ Z with h:=Z.h.set i (some (cs.take off ++ cells.take (Nat.min m n*sz) ++ cs.drop (off+Nat.min m n*sz))) }) else none
     | _,_=>none)
    | _,_,_=>none)
   | _,_=>none)
  | .builtin .clear=>(match c.args.toList,c.argTypes.toList,o.dst with
   | [x],[t],none=>(match je E.P t,Z.rd x with
    | some I,some (.slh i off n sz)=>(match Z.h[i]? with
     | some (some cs)=>if I.size=sz/\off+n*sz<=cs.length then some (.tuple [],{ Z with h:=Z.h.set i (some (cs.take off ++ (wG n I).map PV.un ++ cs.drop (off+n*sz))) }) else none
     | _=>none)
    | some _,some (.sl _ _ [])=>some (.tuple [],Z)
    | _,_=>none)
   | _,_,_=>none)
  | .builtin .append=>(match c.args.toList,c.argTypes.toList with
   | [s,x],[t,u]=>(match je E.P t,Z.ev s,Z.rd x with
    | some I,some (.sl ow sz es),some (.sl _ sz' es')=>if (ow=true\/sz=0)/\t=u/\0<I.size/\I.bytes<=1024/\(sz=I.size\/sz=0)/\(sz'=I.size\/sz'=0) then some (.sl true I.size (es ++ es'),Z.clr s) else none
    | some I,some (.sl ow sz es),some (.str b)=>if (ow=true\/sz=0)/\OY E.P t=true/\tJ E.P u=true/\I.size=1/\I.bytes<=1024/\(sz=I.size\/sz=0) then some (.sl true I.size (es ++ Ip b),Z.clr s) else none
    | some I,some (.gB true k sz cs),some (.sl _ sz' es')=>if t=u/\0<I.size/\I.bytes<=1024/\sz=I.size/\(sz'=I.size\/sz'=0)/\(dm es').all PV.lit=true then some (.gB true (k+es'.length) I.size (cs ++ dm es'),Z.clr s) else none
    | some I,some (.cZ l),some (.str b)=>if wW E.P t=some JW/\tJ E.P u=true/\I.size=1/\I.bytes<=1024 then some (.cZ (l ++ b.data.toList),Z.clr s) else none
    | some I,some (.cZ l),some (.sl _ sz' es')=>(match Uc es' with
     | some c=>if wW E.P t=some JW/\t=u/\I.size=1/\I.bytes<=1024/\sz'=1 then some (.cZ (l ++ [UInt8.ofNat c.toNat]),Z.clr s) else none
     | none=>none)
    | _,_,_=>none)
   | _,_=>none)
  | _=>(FQ E.P Z.rd c).map fun p=>(p,Z)
 | op=>(pop E.P Z.rd op).map fun p=>(p,Z)
def ja (E:AE) (o:Oper) (Z:ASt):Prop :=
 match o.op with
 | .call c=>match c.callee with
  | .builtin .append=>(match c.args.toList with
   | [s,x]=>(match Z.ev s,Z.rd x with
    | some (.sl _ _ es),some (.sl _ _ es')=>es.length+es'.length<=bC
    | some (.sl _ _ es),some (.str b)=>es.length+b.size<=bC
    | some (.gB _ k _ _),some (.sl _ _ es')=>k+es'.length<=bC
    | some (.cZ l),some (.str b)=>l.length+b.size<=bC
    | some (.cZ l),some (.sl _ _ es')=>(match Uc es' with | some c=>l.length+1<=bC/\0<=c/\c<256 | none=>True)
    | _,_=>True)
   | _=>True)
  | _=>True
 | _=>True
section
variable {n:Nat} {out:Nat->Nat} {M:Mem} {B:aN} {Z:ASt} {a:Act} {w:World} {E:AE}
theorem Inv.ev (hI:Inv n M B out Z a.tmps w) {x:Operand} {p:PV} (h:Z.ev x=some p):Rep M B p (a.eval x)/\Tl M w p (a.eval x):=by
 cases x with
 | tmp t=>exact (hI.slots t p h).2
 | const v=>obtain ⟨h1,_,h3⟩:=aOW (M:=M) (B:=B) h; exact ⟨h1,h3 w⟩
 | func f=>cases h; exact ⟨zW.2 ⟨_,_,rfl,dJ.2 rfl,dJ.2 rfl⟩,fA rfl⟩
 | global g=>cases h
theorem Inv.rd (hI:Inv n M B out Z a.tmps w) (x:Operand) (q:PV) (h:Z.rd x=some q):Rep M B q (a.eval x)/\q.own=false:=by
 unfold ASt.rd at h;cases he:Z.ev x with
 | none=>grind
 | some p=>simp[he] at h; subst h; exact ⟨oL.2 (hI.ev he).1,qE p⟩
theorem Inv.rdT (hI:Inv n M B out Z a.tmps w) (zs:List Nat) (x:Operand) (q:PV) (h:Z.rdT zs x=some q):Rep M B q (a.eval x)/\q.own=false:=by
 unfold ASt.rdT at h;cases he:Z.rd x with
 | none=>grind
 | some p=>simp[he] at h; subst h; obtain ⟨h1,h2⟩:=hI.rd x p he; grind [Uy,aQC]
theorem Inv.XZ (hI:Inv n M B out Z a.tmps w) {x:Operand} {p:PV} (h:Z.ev x=some p):Inv n M B out (Z.clr x) a.tmps w/\(∀ b,fp B (Z.clr x) a.tmps w b+bK p (a.eval x) b=fp B Z a.tmps w b)/\(Z.clr x).h=Z.h:=by
 cases x with
 | tmp t =>have h':bT t Z.s=some p:=h;have:=hI.clr h';simp only[ASt.clr,h'];exact ⟨this.1,this.2,trivial⟩
 | const v=>exact ⟨hI,fun b=>by rw[show a.eval (.const v)=v from rfl,(aOW (M:=M) (B:=B) h).2.1]; rfl,rfl⟩
 | func f=>cases h; exact ⟨hI,fun b=>by rfl,rfl⟩
 | global g=>cases h
structure Pre (n:Nat) (out:Nat->Nat) (M:Mem) (B:aN) (Z:ASt) (t:Array Value) (w:World) (M':Mem) (B':aN) (Z':ASt) (w':World) (p:PV) (v:Value):Prop where
 inv:Inv n M' B' out Z' t w'
 le:dG M M' B B'
 fr:Fr (fp B Z t w) M w M' w'
 own:∀ b,b<w.heap.size->fp B' Z' t w' b+bK p v b<=fp B Z t w b
 rep:Rep M' B' p v
 tl:Tl M' w' p v
 cnt:∀ b,fp B' Z' t w' b+bK p v b+out b<=1
 new:∀ b,w'.heap.size<=b->bK p v b=0
theorem Pre.put {M':Mem} {B':aN} {Z1 Z':ASt} {w':World} {p:PV} {v:Value} (h:Pre E.n out M B Z a.tmps w M' B' Z1 w' p v) {dst:Option Nat} (hp:ASt.put E dst p Z1=some Z') :
 Good E.n out M B Z a.tmps w M' B' Z' (a.put dst v).tmps w':=by
 cases dst with
 | none =>simp only[ASt.put] at hp; cases hp;exact ⟨h.inv,h.le,h.fr,fun b hb=>by have:=h.own b hb; show fp B' Z1 a.tmps w' b<=_; omega⟩
 | some d =>
  simp only[ASt.put] at hp;split at hp
  .rename_i hd;cases hp;obtain ⟨h1,h2⟩:=h.inv.bK8 hd h.rep h.tl h.cnt h.new;exact ⟨h1,h.le,h.fr,fun b hb=>mP (h2 b) (h.own b hb)⟩
  .cases hp
theorem Pre.plain (hI:Inv n M B out Z a.tmps w) {p:PV} {v:Value} (hr:Rep M B p v) (ho:∀ b,bK p v b=0) (hT:Tl M w p v):Pre n out M B Z a.tmps w M B Z w p v :=⟨hI,dG.refl _ _,Fr.refl _ _ _,fun b _=>by rw[ho]; omega,hr,hT,fun b=>by rw[ho]; exact hI.cnt b,fun b _=>ho b⟩
theorem Pre.AC {M':Mem} {B':aN} {Z':ASt} {w':World} (h:Good n out M B Z a.tmps w M' B' Z' a.tmps w') {p:PV} {v:Value} (hr:Rep M' B' p v) (ho:p.own=false):Pre n out M B Z a.tmps w M' B' Z' w' p v :=⟨h.inv,h.le,h.fr,fun b hb=>by rw[dC ho]; exact h.own b hb,hr,fA ho,fun b=>by rw[dC ho]; exact h.inv.cnt b,fun b _=>dC ho v b⟩
theorem Pre.moved (hI:Inv n M B out Z a.tmps w) {x:Operand} {p:PV} (h:Z.ev x=some p):Pre n out M B Z a.tmps w M B (Z.clr x) w p (a.eval x):=by obtain ⟨h1,h2,h3⟩:=hI.XZ h;obtain ⟨r1,r2⟩:=hI.ev h;exact ⟨h1,dG.refl _ _,Fr.refl _ _ _,fun b _=>by rw[h2]; omega,r1,r2,fun b=>by rw[h2]; exact hI.cnt b,fun b hb=>by have:=h2 b; have:=hI.new b hb; omega⟩
theorem aUZ {P:Program} {t:TypeId} {I:TI} (h:ti P t=some I) (w:World):∃ vs:Array Value,(Instr.alloc t true (.tuple #[])).run P w = .ok (.pointer (some ⟨w.heap.size,0,none⟩)) (w.alloc (.cells vs t))/\vs.size=I.size/\I.zero=vs.toList.map mM/\∀ v,v∈vs->v.oneCell'=true:=by obtain ⟨i,z,d,hT⟩:=Fg h;refine ⟨z.cells,?_,by rw[hT.J3,hT.size],hT.Tu,hT.one⟩;simp only[Instr.alloc,lu,hT.bLI w,rJ,newVar,newRow,run_newObj];rfl
theorem XW:∀ {ps:bTA} {b o:Nat},Cells M B ps b o->∃ vs:List Value,aj M B ps vs/\∀ (j:Nat) v,vs[j]? = some v->M b (o+j)=some v
 | [],_,_,_=>⟨[],dJ.2 rfl,by simp⟩
 | p::ps,b,o,h=>by
  obtain ⟨⟨u,hu,hr⟩,h2⟩:=a3G.1 h;obtain ⟨vs,h3,h4⟩:=XW h2;refine ⟨u::vs,bg.2 ⟨u,vs,rfl,hr,h3⟩,fun j v hv => ?_⟩;cases j with
  | zero=>simp at hv; subst hv; exact hu
  | succ j=>have:=h4 j v (by simpa using hv); rwa [show o+(j+1)=o+1+j by omega]
theorem Zp {P:Program} {t:TypeId} {I:TI} (h:ti P t=some I) {b off:Nat} {w:World} :
 (I.agg=true->∀ vs:List Value,vs.length=I.size->(∀ (j:Nat) v,vs[j]? = some v->w.cell? ⟨b,off+j,none⟩=some v)->(Instr.loadAt t (.pointer (some ⟨b,off,none⟩))).run P w = .ok (.agg vs.toArray) w) /\
 (I.agg=false->∀ v,w.cell? ⟨b,off,none⟩=some v->(Instr.loadAt t (.pointer (some ⟨b,off,none⟩))).run P w = .ok v w):=by
 obtain ⟨i,z,d,hT⟩:=Fg h;constructor
 .intro hg vs hl hv;have:=run_loadCells_list (P:=P) w ⟨b,off,none⟩ vs (fun j v hj=>by rw[add_lit]; simp_all);rw[hl] at this;simp[Instr.loadAt,Instr.sureAddr,loadVar,hT.aAJ w,hg,hT.run_sizeOf w,this]
 .intro hg v hv;simp[Instr.loadAt,Instr.sureAddr,loadVar,hT.aAJ w,hg,hv]
theorem a7U (hI:Inv n M B out Z a.tmps w) {P:Program} {t:TypeId} {I:TI} (h:ti P t=some I) {x:Operand} {q:PV} (hq:Z.rd x=some q) {mv:Bool} {p:PV} {Z1:ASt} (hl:o9 mv I q Z=some (p,Z1)) :
 ∃ v,(Instr.loadAt t (a.eval x)).run P w = .ok v w/\Pre n out M B Z a.tmps w M B Z1 w p v:=by
 have hr:=(hI.rd x q hq).1;unfold o9 at hl;split at hl
 .rename_i e;split at hl
  .rename_i hc;cases hl;obtain ⟨b,off,e1,hloc⟩:=AP.1 hr;have hloc:=hloc.mono (dG.zero M B);rw[e1];cases hg:I.agg with
   | true =>
    rw[hg] at hc;cases e<;>simp[PV.isAgg] at hc
    rename_i cs;obtain ⟨vs,h1,h2⟩:=XW (yD.1 hloc);have hlen:=nG h1;refine ⟨_,(Zp h).1 hg vs (by rw[<- hlen]; grind [PV.size]) (fun j v hv=>(hI.mem _ _ _ (h2 j v hv)).1),Pre.plain hI (pG.2 ⟨_,rfl,by omega⟩) (fun b=>dC rfl _ _) (fA rfl)⟩
   | false =>
    rw[hg] at hc;have h1:e.isAgg=false:=hc.1;have h2:∀ cs,e ≠ .tuple cs:=fun cs e'=>by subst e'; exact Zq.1 hloc
    obtain ⟨u,hu,F6⟩:=(vV h1 h2).1 hloc;exact ⟨u,(Zp h).2 hg u (hI.mem _ _ _ hu).1,Pre.plain hI (oL.2 F6) (fun b=>PM _ _ _) (fA (qE _))⟩
  .cases hl
 .rename_i i off;obtain ⟨c,⟨hc,hcm⟩,e1⟩:=vZ.1 hr;rw[e1];split at hl
  .rename_i cs hcs;obtain ⟨vs,ty,r1,o2,o3,o4,o5⟩:=hI.heap.at hcs hc;obtain ⟨ty,rfl,o1⟩:=EE r1 (by rw[o2.2]; exact hcm);have hcell:∀ (j:Nat) v,vs[j]? = some v->w.cell? ⟨c.1,j,none⟩=some v:=fun j v hv=>by simp[World.cell?,o1,hv]
   split at hl
   .rename_i hg;split at hl
    .rename_i hfit;cases hl;have OU:aj M B (((cs.drop off).take I.size).map PV.un) ((vs.toList.drop off).take I.size):=by grind [Ii,Ih]
     refine ⟨_,(Zp h).1 hg ((vs.toList.drop off).take I.size) (by simp; omega) (fun j v hv => ?_),Pre.plain hI (pG.2 ⟨_,rfl,by omega⟩) (fun b=>dC rfl _ _) (fA rfl)⟩;rw[lM] at hv;simp_all
    .cases hl
   .rename_i hg;have hg':I.agg=false:=by grind
    cases hp:cs[off]? with
    | none=>simp_all
    | some p0 =>
     simp only[hp] at hl;obtain ⟨v,hv,hrv,hTv,hone⟩:=o4 off p0 hp;have hrun:=(Zp (P:=P) (b:=c.1) (off:=off) (w:=w) h).2 hg' v (hcell _ _ hv);cases mv with
     | false =>simp at hl;obtain ⟨rfl,rfl⟩:=hl;exact ⟨v,hrun,Pre.plain hI (oL.2 hrv) (fun b=>PM _ _ _) (fA (qE _))⟩
     | true =>
      simp at hl;obtain ⟨rfl,rfl⟩:=hl;have hlt:=(iJ.1 hp).1;have hset:w.setCell ⟨c.1,off,none⟩ v=w:=by
       have:=setCell_eq_setRow w c.1 off vs ty (0,0) v o1;rw[this];have e2:vs.setIfInBounds off v=vs:=by grind
       rw[e2]; grind [setRow_self]
      have hcu:∀ b,bK p0.un v b=0:=fun b=>PM _ _ _
      obtain ⟨s1,s2,s3,_,_⟩:=hI.setCell hcs hc hcm hlt (oL.2 hrv) (fA (qE _)) hone (fun b=>by rw[hcu]; exact hI.cnt b) (fun b _=>hcu b);rw[hset] at s1 s2 s3;have hfp:∀ b,fp B { Z with h:=Z.h.set i (some (cs.set off p0.un)) } a.tmps w b+bK p0 v b<=fp B Z a.tmps w b:=fun b=>by
       have key:∀ (cs:bTA) (us:List Value) (j:Nat),cs[j]? = some p0->us[j]? = some v->dQ (cs.set j p0.un) us b+bK p0 v b=dQ cs us b:=by
        intro cs;induction cs with
        | nil=>simp
        | cons q qs ih =>
         intro us j h1 h2;cases us with
         | nil=>simp at h2
         | cons u us =>
          cases j with
          | zero=>grind [dQ]
          | succ j=>have:=ih us j (by grind) (by grind); grind [dQ]
       have U3:∀ (h:aG) (B:aN) (i:Nat),h[i]? = some (some cs)->B[i]? = some c->aP w (h.set i (some (cs.set off p0.un))) B b+bK p0 v b=aP w h B b:=by
        intro h;induction h with
        | nil=>simp
        | cons x h ih =>
         intro B i h1 h2;cases B with
         | nil=>simp at h2
         | cons d B =>
          cases i with
          | zero =>grind [gZ,aP]
          | succ i =>simp at h1 h2;have:=ih B i h1 h2;cases x<;>simp only[List.set_cons_succ,aP]<;>omega
       have:=U3 Z.h B i hcs hc;simp only[fp]; omega
      exact ⟨v,hrun,s1,dG.refl _ _,Fr.refl _ _ _,fun b _=>hfp b,hrv,hTv,fun b=>by have:=hfp b; have:=hI.cnt b; omega,fun b hb=>by have:=hfp b; have:=hI.new b hb; omega⟩
  .cases hl
 .cases hl
end
section
variable {n:Nat} {out:Nat->Nat} {M:Mem} {B:aN} {Z:ASt} {a:Act} {w:World} {t:Array Value}
theorem a0W {P:Program} {i:Nat} {c:Nat×Nat×TypeId} (hc:B[i]? = some c) (hcm:c.2.2≠0) {off:Nat}:∀ (ds:bTA) (us:List Value) (k:Nat) (cs:bTA) (Z:ASt) (w:World),Inv n M B out Z t w->Z.h[i]? = some (some cs) ->
 aj M B ds us->(∀ d,d∈ds->d.own=false)->(∀ u,u∈us->u.oneCell'=true)->off+k+ds.length<=cs.length ->
 ∃ w',(storeCells ⟨c.1,off,none⟩ us k).run P w = .ok () w'/\Good n out M B Z t w M B { Z with h:=Z.h.set i (some (cs.take (off+k) ++ ds ++ cs.drop (off+k+ds.length))) } t w'
 | [],us,k,cs,Z,w,hI,hi,hr,_,_,_=>by
  rw[dJ] at hr; subst hr;refine ⟨w,rfl,?_⟩;have:Z.h.set i (some (cs.take (off+k) ++ [] ++ cs.drop (off+k+([]:bTA).length)))=Z.h:=by simp only[wH,dZ,GU,WL];apply MG;grind
  rw[this]; exact Good.refl hI
 | d::ds,us,k,cs,Z,w,hI,hi,hr,hown,hone,hfit=>by
  obtain ⟨u,us,rfl,h1,h2⟩:=bg.1 hr;have ho:=hown d (by simp);have hu1:=hone u (by simp);simp only[bP] at hfit;obtain ⟨s1,s2,s3,s4,s5⟩:=hI.setCell hi hc hcm (by omega:off+k<cs.length) h1 (fA ho) hu1 (fun b=>by rw[dC ho]; exact hI.cnt b) (fun b _=>dC ho _ _);have hst:(store ((⟨c.1,off,none⟩:Addr).add k) u).run P w = .ok () (w.setCell ⟨c.1,off+k,none⟩ u):=by rw[add_lit,run_store P w _ u _ hu1];grind
  have hi':({ Z with h:=Z.h.set i (some (cs.set (off+k) d)) }:ASt).h[i]? = some (some (cs.set (off+k) d)):=zf (iJ.1 hi).1;obtain ⟨w',hw,hG⟩:=a0W (P:=P) (off:=off) hc hcm ds us (k+1) (cs.set (off+k) d) _ _ s1 hi' h2 (fun e he=>hown e (by simp[he])) (fun v hv=>hone v (by simp[hv])) (by rw[J9]; omega);refine ⟨w',by grind [storeCells,Sem.run_bind,Result.andThen_ok],?_⟩;have hG1:Good n out M B Z t w M B { Z with h:=Z.h.set i (some (cs.set (off+k) d)) } t (w.setCell ⟨c.1,off+k,none⟩ u) :=⟨s1,dG.refl _ _,s3,fun b _=>by have:=s2 b; rw[dC ho] at this; exact this⟩;have:=hG1.trans hG;have e:(cs.set (off+k) d).take (off+(k+1)) ++ ds ++ (cs.set (off+k) d).drop (off+(k+1)+ds.length)=cs.take (off+k) ++ (d::ds) ++ cs.drop (off+k+(d::ds).length):=by
   have e1:(cs.set (off+k) d).take (off+(k+1))=cs.take (off+k) ++ [d]:=by apply MG;grind
   have e2:(cs.set (off+k) d).drop (off+(k+1)+ds.length)=cs.drop (off+k+(d::ds).length):=by rw[List.drop_set_of_lt (by omega)];congr 1; simp; omega
   rw[e1,e2]; simp
  rw[List.set_set,e] at this;exact this
theorem aQ6 {ds:bTA} {us:List Value} (h:aj M B ds us) (ho:∀ d,d∈ds->d.one=true):∀ u,u∈us->u.oneCell'=true:=by intro u hu;obtain ⟨j,hj⟩:=yR.1 hu;have hl:=nG h;have hjl:=(iJ.1 hj).1;have hd:ds[j]? = some ds[j]:=jF (by omega);obtain ⟨u',e,hr⟩:=uh h hd;rw[e] at hj; cases hj;exact (Du (ho _ (gG _)) hr).2
theorem bMZ (hI:Inv n M B out Z a.tmps w) {P:Program} {ty:TypeId} {I:TI} (h:ti P ty=some I) {x y:Operand} {q p:PV} (hq:Z.rd x=some q) (hp:Z.ev y=some p) {Z1:ASt} (hs:yL I q p (Z.clr y)=some Z1) :
 ∃ w' M' B',(Instr.storeAt ty (a.eval x) (a.eval y)).run P w = .ok () w'/\Pre n out M B Z a.tmps w M' B' Z1 w' (.tuple []) undef:=by
 have hr:=(hI.rd x q hq).1;obtain ⟨hpr,hpT⟩:=hI.ev hp;obtain ⟨i',z,d,hT⟩:=Fg h;obtain ⟨c1,c2,c3⟩:=hI.XZ hp;have aKQ:Rep M B (.tuple []) undef:=sQ.2 ⟨#[],rfl,dJ.2 rfl⟩;unfold yL at hs;split at hs
 .rename_i i off;obtain ⟨c,⟨hc,hcm⟩,e1⟩:=vZ.1 hr;rw[e1];split at hs
  .rename_i cs hcs;split at hs
   .rename_i ds;split at hs
    .rename_i hlen;cases hs;obtain ⟨vs,e2,hv⟩:=pG.1 hpr;have hvs:vs.size=I.size:=by have:=nG hv; simp_all
     have hone:∀ d,d∈ds->d.one=true:=fun d hd=>iY.1 hlen.2.2 d hd
     .obtain ⟨w',hw,hG⟩:=a0W (P:=P) hc hcm (off:=off) (ds.map PV.un) vs.toList 0 cs _ _ c1 hcs (Ii hv) (fun d hd=>by grind [qE]) (aQ6 hv hone) (by simp; omega);refine ⟨w',M,B,?_,?_⟩
      .rw[e2];have hsz:(Value.agg vs).cells.size=I.size:=hvs;simp only[Instr.storeAt,Instr.sureAddr,lu,ER,rJ,storeVar,hT.run_sizeOf w];rw[aQ (by rw[hsz]; simp)];exact hw
      .have hp0:∀ b,bK (.agg ds) (a.eval y) b=0:=fun b=>dC rfl _ _
       have hfp:∀ b,fp B (Z.clr y) a.tmps w b=fp B Z a.tmps w b:=fun b=>by have:=c2 b; rw[hp0] at this; exact this
       have e3:({ Z.clr y with h:=(Z.clr y).h.set i (some (cs.take (off+0) ++ ds.map PV.un ++ cs.drop (off+0+(ds.map PV.un).length))) }:ASt) = { Z.clr y with h:=(Z.clr y).h.set i (some (cs.take off ++ ds.map PV.un ++ cs.drop (off+I.size))) }:=by simp_all
       rw[e3] at hG;exact ⟨hG.inv,hG.le,hG.fr.mono fun b _ h0=>by rw[hfp]; exact h0,fun b hb=>by have:=hG.own b hb; rw[hfp] at this; simpa[bK,PV.own] using this,aKQ,fA rfl,fun b=>by have:=hG.inv.cnt b; simpa[bK,PV.own] using this,fun b _=>by rfl⟩
    .cases hs
   .split at hs
    .rename_i p bQW hcond;cases hs;obtain ⟨h1,h2,h3⟩:=hcond;obtain ⟨k1,k2⟩:=Du h1 hpr;obtain ⟨s1,s2,s3,s4,s5⟩:=c1.setCell hcs hc hcm h3 hpr hpT k2 (fun b=>by rw[c2]; exact hI.cnt b) (fun b hb=>by have:=c2 b; have:=hI.new b hb; omega);refine ⟨_,M,B,?_,s1,dG.refl _ _,s3.mono fun b _ h0=>by have:=c2 b; omega,fun b _=>by have:=s2 b; have:=c2 b; simp only[bK,PV.own]; simp; omega,aKQ,fA rfl,fun b=>by have:=s1.cnt b; simpa[bK,PV.own] using this,fun b _=>by rfl⟩;have hst:(store ((⟨c.1,off,none⟩:Addr).add 0) (a.eval y)).run P w = .ok () (w.setCell ⟨c.1,off,none⟩ (a.eval y)):=by rw[add_lit,run_store P w _ _ _ k2];grind
     simp only[Instr.storeAt,Instr.sureAddr,lu,ER,rJ,storeVar,hT.run_sizeOf w,k1];rw[aQ (by simp; omega)];grind [Sem.run_bind,Sem.run_pure,Result.andThen_ok,storeCells]
    .cases hs
  .cases hs
 .cases hs
end
section
variable {n:Nat} {out:Nat->Nat} {M M':Mem} {B:aN} {Z:ASt} {a:Act} {w:World} {t:Array Value}
theorem aFV (sz:Nat):∀ (vs:List (Nat×Value)) (k:Nat) (done rest:List Value),(∀ (j:Nat) v,vs[j]? = some v->v.1=k+j/\v.2.cells.size=sz)->done.length=k*sz->rest.length=vs.length*sz ->
 Instr.fill (fun i=>some (i*sz,sz)) (done ++ rest).toArray vs=some (done ++ vs.flatMap fun v=>v.2.cells.toList).toArray
 | [],k,done,rest,_,_,hr=>by have:rest = []:=kU (by grind);grind [Instr.fill]
 | v::vs,k,done,rest,h,hd,hr=>by
  obtain ⟨e1,e2⟩:=h 0 v rfl;obtain ⟨i,v⟩:=v;simp only[GU] at e1 e2;subst e1;have hfold:=a4G (i*sz) v.cells.toList 0 (done ++ rest).toArray (by simp[hd,e2]; rw[hr]; simp[nM]);have ha:(v.cells.zipIdx.foldl (fun cs (c,j)=>cs.setIfInBounds (i*sz+j) c) (done ++ rest).toArray)=((v.cells.toList.zipIdx 0).foldl (fun (cs:Array Value) (cj:Value×Nat)=>cs.setIfInBounds (i*sz+cj.2) cj.1) (done ++ rest).toArray):=by rw[<- Array.foldl_toList,Array.toList_zipIdx]
  have hl:v.cells.toList.length=sz:=by simpa using e2
  simp only[GU,hl,<- hd] at hfold;rw[List.take_left,<- QO,List.drop_left] at hfold;rw[Instr.fill];simp only;rw[aQ (by simp[e2,hd,hr,nM]),ha];have harr:(v.cells.toList.zipIdx 0).foldl (fun (cs:Array Value) (cj:Value×Nat)=>cs.setIfInBounds (i*sz+cj.2) cj.1) (done ++ rest).toArray=((done ++ v.cells.toList) ++ rest.drop sz).toArray:=by rw[<- qP,<- hd,hfold]
  rw[harr,aFV sz vs (i+1) (done ++ v.cells.toList) (rest.drop sz) (fun j x hx=>by obtain ⟨a1,a2⟩:=h (j+1) x (by simpa using hx);exact ⟨by omega,a2⟩) (by simp[hd,hl,nM]) (by simp[hr,nM])];simp
theorem bFW {p:PV} {b o b' o':Nat} (h:Loc M B p b o) (hle:∀ (b o:Nat) (v:Value),M b o=some v->M' b o=some v) (hc:∀ j,j<p.size->∀ v,M b (o+j)=some v->M' b' (o'+j)=some v):Loc M' B p b' o':=by
 have hm:dG M M' B B:=⟨hle,fun _ _ h=>h⟩;by_cases ha:p.isAgg=true
 .cases p<;>simp[PV.isAgg] at ha
  rename_i cs;refine yD.2 (Ei fun j q hq => ?_);obtain ⟨u,hu,hr⟩:=NZ (yD.1 h) hq;exact ⟨u,hc j (iJ.1 hq).1 u hu,hr.mono hm⟩
 .have ha':p.isAgg=false:=by grind
  have ht:∀ cs,p ≠ .tuple cs:=fun cs e=>by subst e; exact Zq.1 h
  obtain ⟨u,hu,hr⟩:=(vV ha' ht).1 h;have hsz:p.size=1:=by cases p<;>first | rfl | (simp[PV.isAgg] at ha')
  refine (vV ha' ht).2 ⟨u,?_,hr.mono hm⟩;have:=hc 0 (by omega) u (by omega);omega
theorem bFY {ps:bTA} {sz b o b' o':Nat} (h:jr M B sz ps b o) (hs:∀ p,p∈ps->p.size=sz) (hle:∀ (b o:Nat) (v:Value),M b o=some v->M' b o=some v) (hc:∀ j,j<ps.length*sz->∀ v,M b (o+j)=some v->M' b' (o'+j)=some v):jr M' B sz ps b' o' :=
 zK fun j p hp=>bFW (Dj h hp) hle fun i hi v hv=>by
  have hj:=(iJ.1 hp).1;have hsz:=hs p (nK hp);have:j*sz+i<ps.length*sz:=by have:(j+1)*sz<=ps.length*sz:=uu _ hj;rw[nM] at this; omega
  have:=hc (j*sz+i) this v (by rwa [show o+(j*sz+i)=o+j*sz+i by omega]);rwa [show o'+(j*sz+i)=o'+j*sz+i by omega] at this
theorem bFX {p:PV} {b o:Nat} (h:Loc M B p b o):∃ vs:List Value,vs.length=p.size/\∀ (j:Nat) v,vs[j]? = some v->M b (o+j)=some v:=by
 by_cases ha:p.isAgg=true
 .cases p<;>simp[PV.isAgg] at ha
  rename_i cs;obtain ⟨vs,h1,h2⟩:=XW (yD.1 h);exact ⟨vs,(nG h1).symm,h2⟩
 .have ha':p.isAgg=false:=by grind
  have ht:∀ cs,p ≠ .tuple cs:=fun cs e=>by subst e; exact Zq.1 h
  obtain ⟨u,hu,hr⟩:=(vV ha' ht).1 h;have hsz:p.size=1:=by cases p<;>first | rfl | (simp[PV.isAgg] at ha')
  refine ⟨[u],by simp[hsz],fun j v hv => ?_⟩;grind
theorem aNL:∀ {ps:bTA} {sz b o:Nat},jr M B sz ps b o->(∀ p,p∈ps->p.size=sz)->∃ vs:List Value,vs.length=ps.length*sz/\∀ (j:Nat) v,vs[j]? = some v->M b (o+j)=some v
 | [],_,_,_,_,_=>⟨[],by simp,by simp⟩
 | p::ps,sz,b,o,h,hs=>by
  obtain ⟨h1,h2⟩:=KI.1 h;obtain ⟨us,u1,u2⟩:=bFX h1;obtain ⟨vs,v1,v2⟩:=aNL h2 fun q hq=>hs q (by simp[hq])
  have hp:=hs p (by simp);refine ⟨us ++ vs,by simp[u1,v1,hp,nM]; omega,fun j v hv => ?_⟩;rcases yV j us.length with hj | hj
  .exact u2 j v (by rwa [ut hj] at hv)
  .have:=v2 (j-us.length) v (by rwa [EQ hj] at hv);rwa [show o+sz+(j-us.length)=o+j by omega] at this
theorem aF8 {sz:Nat}:∀ {qs:List (Nat×PV)} {k:Nat} {es:bTA},D9 sz k qs=some es->es.length=qs.length/\∀ (j:Nat) q,qs[j]? = some q->q.1=k+j/\q.2.size=sz/\q.2.okE=true/\es[j]? = some q.2.un
 | [],k,es,h=>by grind [D9]
 | (i,p)::qs,k,es,h=>by
  rw[D9] at h;split at h
  .rename_i hc;cases he:D9 sz (k+1) qs with
   | none=>grind
   | some es' =>
    simp[he] at h; subst h;obtain ⟨h1,h2⟩:=aF8 he;refine ⟨by simp[h1],fun j q hq => ?_⟩;cases j with
    | zero=>simp at hq; subst hq; exact ⟨hc.1,hc.2.1,hc.2.2,rfl⟩
    | succ j =>obtain ⟨a1,a2,a3,a4⟩:=h2 j q (by simpa using hq);exact ⟨by omega,a2,a3,by simpa using a4⟩
  .cases h
theorem aZC {vs:List (Nat×Value)} {sz:Nat} (hs:∀ (j:Nat) v,vs[j]? = some v->v.2.cells.size=sz):∀ {j:Nat} {v:Nat×Value},vs[j]? = some v->∀ i,i<sz->(vs.flatMap fun v=>v.2.cells.toList)[j*sz+i]? = v.2.cells.toList[i]? := by
 induction vs with
 | nil=>simp
 | cons u us ih =>
  intro j v h i hi;have hu:u.2.cells.toList.length=sz:=by simpa using hs 0 u rfl
  rw[CJ];cases j with
  | zero=>grind
  | succ j =>rw[EQ (by rw[hu,nM]; omega),hu,show (j+1)*sz+i-sz=j*sz+i by rw[nM]; omega];exact ih (fun j v h=>hs (j+1) v (by grind)) (by grind) i hi
theorem aZD {vs:List (Nat×Value)} {sz:Nat} (hs:∀ (j:Nat) v,vs[j]? = some v->v.2.cells.size=sz):(vs.flatMap fun v=>v.2.cells.toList).length=vs.length*sz:=by
 induction vs with
 | nil=>simp
 | cons u us ih =>
  rw[CJ,aY,ih (fun j v h=>hs (j+1) v (by grind))];have hu:u.2.cells.toList.length=sz:=by simpa using hs 0 u rfl
  rw[hu]; grind
theorem bFP {P:Program} {ty:TypeId} {I:TI} (hI':je P ty=some I) {len:Nat} {parts:Array (Nat×Value)} (hl:parts.size=len) (hs:∀ (j:Nat) v,parts.toList[j]? = some v->v.1=j/\v.2.cells.size=I.size) (hpos:0<I.size) (hsm:len*I.size<=16777216) (w:World) :
 ∃ e,(Instr.buildSlice ty len parts).run P w = .ok (.slice (some ⟨w.heap.size,0,none⟩) len len) (w.alloc (.cells (parts.toList.flatMap fun v=>v.2.cells.toList).toArray e)):=by
 obtain ⟨e,i,z,d,hu,hT⟩:=yw hI';refine ⟨e,?_⟩;have hsz:=hT.size;by_cases h0:len=0
 .subst h0;have hp:parts = #[]:=by simp_all
  subst hp;simp[Instr.buildSlice,eX hu,hT.run_sizeOf w,Instr.fill,newRow];grind
 .refine run_buildSlice w ty e len parts _ i z hu hT.info hT.zero (by rw[<- hsz]; omega) (by rw[<- hsz]; grind [Nat.mul_ne_zero]) ?_;have:=aFV i.size parts.toList 0 [] ((List.range (len*i.size)).map (z.cells[· % z.cells.size]!)) (fun j v hv=>by grind) (by simp) (by grind);have e:(Array.range (len*i.size)).map (z.cells[· % z.cells.size]!)=([] ++ (List.range (len*i.size)).map (z.cells[· % z.cells.size]!)).toArray:=by grind
  rw[e,this]; rfl
theorem aW0 {rd:Operand->Option PV} {ρ:Operand->Value} (hrd:∀ x q,rd x=some q->Rep M B q (ρ x)/\q.own=false) {ps:Array (Nat×Operand)} {qs:List (Nat×PV)} (hq:tY rd ps.toList=some qs) {sz:Nat} {es:bTA} (he:D9 sz 0 qs=some es) :
 (∀ (j:Nat) v,(ps.map fun (i,x)=>(i,ρ x)).toList[j]? = some v->v.1=j/\v.2.cells.size=sz/\∃ q:Nat×PV,qs[j]? = some q/\es[j]? = some q.2.un/\q.2.size=sz/\Rep M B q.2 v.2/\q.2.okE=true)/\(ps.map fun (i,x)=>(i,ρ x)).size=es.length:=by
 obtain ⟨p1,p2⟩:=a96 hrd hq;obtain ⟨e1,e2⟩:=aF8 he;have hps:(ps.map fun (i,x)=>(i,ρ x)).toList=ps.toList.map fun ix=>(ix.1,ρ ix.2):=by simp
 refine ⟨fun j v hv => ?_,by rw[e1,p1]; simp⟩;rw[hps] at hv;have hj:=(iJ.1 hv).1;have hq':qs[j]? = some (qs[j]'(by rw[p1]; exact hj)):=jF _;obtain ⟨a1,a2⟩:=p2 j _ v hq' hv;obtain ⟨b1,b2,b3,b4⟩:=e2 j _ hq';refine ⟨by omega,?_,_,hq',b4,b2,a2,b3⟩;generalize qs[j]'(by rw[p1]; exact hj)=q at *;cases hq2:q.2 with
 | agg cs =>rw[hq2] at a2 b2;obtain ⟨vs,hv2,hr⟩:=pG.1 a2;have:=nG hr;rw[hv2];simp[PV.size] at b2;simp at this;show vs.size=sz;omega
 | tuple cs=>rw[hq2] at b3; simp[PV.okE,PV.one] at b3
 | _ =>rw[(Du (p:=q.2) (by rw[hq2]; rfl) a2).1,<- b2,hq2]; rfl
theorem bKO {p:PV} {v:Value} (h:Rep M B p v) (hg:p.okE=true):∀ u,u∈v.cells.toList->u.oneCell'=true:=by
 have key:p.one=true->∀ u,u∈v.cells.toList->u.oneCell'=true:=fun ho u hu=>by
  rw[(Du ho h).1] at hu;have:u=v:=by grind
  subst this; exact (Du ho h).2
 cases p with
 | agg cs =>obtain ⟨vs,rfl,hr⟩:=pG.1 h;simp only[PV.okE,bF] at hg;exact aQ6 hr (iY.1 hg.1)
 | tuple cs=>grind [PV.okE]
 | _=>exact key rfl
end
section
variable {n:Nat} {out:Nat->Nat} {M:Mem} {B:aN} {Z:ASt} {a:Act} {w:World} {E:AE}
theorem PL {p:PV} {b0 off m c:Nat} {b:Nat}:bK p (.slice (some ⟨b0,off,none⟩) m c) b<=if b0=b then 1 else 0:=by grind [bK]
theorem Pre.newRow (hI:Inv n M B out Z a.tmps w) {vs:Array Value} {ty:TypeId} {sz k:Nat} {es:bTA} {cap:Nat} (hpos:0<sz) (h1:∀ v,v∈vs->v.oneCell'=true) (hk:k=es.length*sz) (hcap:es.length<=cap) (hcap2:cap*sz<=vs.size)
 (hs:∀ e,e∈es->e.size=sz) (hl:jr (laid M w.heap.size (vs.toList.take k)) [] sz es w.heap.size 0) :
 Pre n out M B Z a.tmps w (laid M w.heap.size (vs.toList.take k)) B Z (w.alloc (.cells vs ty)) (.sl true sz es) (.slice (some ⟨w.heap.size,0,none⟩) es.length cap):=by
 obtain ⟨hG,hfp⟩:=hI.lay vs ty k h1;have h0:=fun b (hb:w.heap.size<=b)=>hI.new b hb
 refine ⟨hG.inv,hG.le,hG.fr,fun b hb => ?_,jE.2 ⟨_,cap,rfl,hcap,hs,fun h=>absurd h (by omega),fun _=>⟨_,_,rfl,hl⟩⟩,?_,fun b => ?_,fun b hb => ?_⟩;grind [PL]
 .refine Q7 (fun l h=>by cases h) ?_;intro sz' es' x n' cap' e ev;grind [heap_alloc_new,yB,yC]
 .rw[hfp];have:=PL (p := .sl true sz es) (b0:=w.heap.size) (off:=0) (m:=es.length) (c:=cap) (b:=b);have:=hI.cnt b;grind
 .have:=PL (p := .sl true sz es) (b0:=w.heap.size) (off:=0) (m:=es.length) (c:=cap) (b:=b);simp at hb;rw[aQ (by omega)] at this; omega
theorem aNF {M:Mem} {B:aN} {p:PV} {u:Value} (h:p.lit=true) (hr:Rep M B p u):Rep KU [] p u:=by
 cases p with
 | int k n=>exact dS.2 (dS.1 hr)
 | bool b=>exact jo.2 (jo.1 hr)
 | str s=>exact iG.2 (iG.1 hr)
 | _=>simp[PV.lit] at h
theorem aNC {M:Mem} {B:aN} {p:PV} {u:Value} (h:p.lit=true) (hr:Rep KU [] p u):Rep M B p u:=by
 cases p with
 | int k n=>exact dS.2 (dS.1 hr)
 | bool b=>exact jo.2 (jo.1 hr)
 | str s=>exact iG.2 (iG.1 hr)
 | _=>simp[PV.lit] at h
theorem a7W {M:Mem} {sz b:Nat}:∀ {es:bTA} {o:Nat},jr M [] sz es b o->(∀ e,e∈es->e.size=sz)->∀ {j:Nat} {p:PV},(dm es)[j]? = some p->∃ u,M b (o+j)=some u/\Rep M [] p u
 | [],_,_,_,j,p,h=>by simp[dm] at h
 | e::es,o,hl,hs,j,p,h=>by
  obtain ⟨h1,h2⟩:=KI.1 hl;have ih:=fun {j:Nat} {p:PV}=>a7W (es:=es) (o:=o+sz) h2 (fun e he=>hs e (by simp[he])) (j:=j) (p:=p)
  have hz:=hs e (by simp);cases e with
  | agg ds =>
   rw[dm] at h;simp only[PV.size] at hz;rcases yV j ds.length with hj | hj
   .rw[ut (by grind),kJ] at h;cases hd:ds[j]? with
    | none=>grind
    | some q =>simp[hd] at h; subst h;obtain ⟨u,hu,hr⟩:=NZ (yD.1 h1) hd;exact ⟨u,hu,oL.2 hr⟩
   grind
  | tuple ds=>exact (Zq.1 h1).elim
  | _ =>
   rw[dm] at h
   .simp only[PV.size] at hz;subst hz;cases j with
    | zero =>simp at h; subst h;obtain ⟨u,hu,hr⟩:=(BJ rfl).1 h1;exact ⟨u,hu,oL.2 hr⟩
    | succ j =>simp at h;obtain ⟨u,hu,hr⟩:=ih h;exact ⟨u,by rw[<- hu]; congr 1; omega,hr⟩
   .simp
theorem Y2 {sz:Nat}:∀ {es:bTA},(∀ e,e∈es->e.size=sz)->(dm es).length=es.length*sz
 | [],_=>by simp[dm]
 | e::es,hs=>by
  have ih:=Y2 (es:=es) fun e he=>hs e (by simp[he])
  have hz:=hs e (by simp);rw[bP,GV];cases e with
  | agg ds=>grind [PV.size,dm]
  | _=>simp only[PV.size] at hz; rw[dm,bP,ih,hz]; simp
theorem Pre.aOD (hI:Inv n M B out Z a.tmps w) {vs:Array Value} {ty:TypeId} {sz k:Nat} {cs:bTA} {cap:Nat} (hpos:0<sz) (h1:∀ v,v∈vs->v.oneCell'=true) (hk:cs.length=k*sz) (hcap:k<=cap) (hcap2:cap*sz<=vs.size)
 (hc:∀ (j:Nat) p,cs[j]? = some p->p.lit=true/\∃ u,vs[j]? = some u/\Rep KU [] p u/\u.oneCell'=true) :
 Pre n out M B Z a.tmps w (laid M w.heap.size (vs.toList.take 0)) B Z (w.alloc (.cells vs ty)) (.gB true k sz cs) (.slice (some ⟨w.heap.size,0,none⟩) k cap):=by
 obtain ⟨hG,hfp⟩:=hI.lay vs ty 0 h1;have h0:=fun b (hb:w.heap.size<=b)=>hI.new b hb
 refine ⟨hG.inv,hG.le,hG.fr,fun b hb => ?_,FX.2 ⟨_,cap,rfl,hcap⟩,?_,fun b => ?_,fun b hb => ?_⟩;grind [PL]
 .refine aBC ?_;intro k' sz' cs' x m' cap' e ev;grind [heap_alloc_new,yB,yC]
 .rw[hfp];have:=PL (p := .gB true k sz cs) (b0:=w.heap.size) (off:=0) (m:=k) (c:=cap) (b:=b);have:=hI.cnt b;grind
 .have:=PL (p := .gB true k sz cs) (b0:=w.heap.size) (off:=0) (m:=k) (c:=cap) (b:=b);simp at hb;rw[aQ (by omega)] at this; omega
theorem flat_get:∀ {es:bTA} {p:PV},p∈dm es->p.own=false
 | [],p,h=>by simp[dm] at h
 | e::es,p,h=>by
  cases e with
  | agg ds =>
   rw[dm] at h;rcases qQ.1 h with h | h
   .obtain ⟨x,_,rfl⟩:=qR.1 h; exact qE x
   .exact flat_get h
  | _ =>
   rw[dm] at h
   .rcases jV.1 h with rfl | h
    .exact qE _
    .exact flat_get h
   .simp
theorem a4F:∀ {es:bTA} {vs:List (Nat×Value)},es.length=vs.length->(∀ (j:Nat) e v,es[j]? = some e->vs[j]? = some v->Rep M B e v.2/\e.okE=true)->aj M B (dm es) (vs.flatMap fun v=>v.2.cells.toList)
 | [],[],_,_=>dJ.2 rfl
 | [],_::_,h,_=>by simp at h
 | _::_,[],h,_=>by simp at h
 | e::es,v::vs,hl,h=>by
  obtain ⟨h1,h2⟩:=h 0 e v rfl rfl;have ih:=a4F (es:=es) (vs:=vs) (by simpa using hl) fun j e v a b=>h (j+1) e v (by simpa using a) (by simpa using b)
  rw[CJ];cases e with
  | agg ds =>obtain ⟨us,e1,hr⟩:=pG.1 h1;rw[dm,e1];exact E8 (Ii hr) ih
  | tuple ds=>simp[PV.okE,PV.one] at h2
  | _ =>
   rw[dm]
   .rw[(Du rfl h1).1];exact bg.2 ⟨_,_,rfl,oL.2 h1,ih⟩
   .simp
theorem bOX (p:PV):p.un.okE=p.okE:=by cases p<;>rfl
theorem bFQ (hI:Inv n M B out Z a.tmps w) {zs:List Nat} {P:Program} {ty:TypeId} {I:TI} (hT:je P ty=some I) {ps:Array (Nat×Operand)} {qs:List (Nat×PV)} (hq:tY (Z.rdT zs) ps.toList=some qs) {es:bTA} (he:D9 I.size 0 qs=some es) {len:Nat} (hlen:es.length=len) (hpos:0<I.size) (hsm:len*I.size<=16777216) :
 (∃ v w' M' B',(Instr.buildSlice ty len (ps.map fun (i,x)=>(i,a.eval x))).run P w = .ok v w'/\Pre n out M B Z a.tmps w M' B' Z w' (.sl true I.size es) v) /\
 (∃ v w' M' B',(Instr.buildSlice ty len (ps.map fun (i,x)=>(i,a.eval x))).run P w = .ok v w'/\Pre n out M B Z a.tmps w M' B' { Z with h:=Z.h ++ [some (dm es)] } w' (.slh Z.h.length 0 len I.size) v) /\
 ((dm es).all PV.lit=true->∃ v w' M' B',(Instr.buildSlice ty len (ps.map fun (i,x)=>(i,a.eval x))).run P w = .ok v w'/\Pre n out M B Z a.tmps w M' B' Z w' (.gB true len I.size (dm es)) v):=by
 subst hlen;obtain ⟨hp,hsz⟩:=aW0 (M:=M) (B:=B) (hI.rdT zs) hq he;obtain ⟨e,hrun⟩:=bFP hT hsz (fun j v hv=>by grind) hpos hsm w;generalize hps:(ps.map fun (i,x)=>(i,a.eval x))=parts at *;have hfl:=aZD (vs:=parts.toList) (sz:=I.size) fun j v hv=>(hp j v hv).2.1
 have hpl:parts.toList.length=es.length:=by omega
 rw[hpl] at hfl;have hes:∀ (j:Nat) e v,es[j]? = some e->parts.toList[j]? = some v->Rep M B e v.2/\e.okE=true/\e.size=I.size:=fun j e v h1 h2=>by obtain ⟨_,_,q,_,h3,h4,h5,h6⟩:=hp j v h2;rw[h1] at h3; cases h3;exact ⟨oL.2 h5,by rw[bOX]; exact h6,by rw[aBV]; exact h4⟩
 have hone:∀ v,v∈(parts.toList.flatMap fun v=>v.2.cells.toList)->v.oneCell'=true:=by intro u hu;obtain ⟨v,hv,hu⟩:=List.mem_flatMap.1 hu;obtain ⟨j,hj⟩:=yR.1 hv;grind [bKO]
 refine ⟨?_,?_,?_⟩
 .refine ⟨_,_,_,_,hrun,Pre.newRow hI (k:=es.length*I.size) hpos (by grind) rfl (cu _) (by simp[hfl]) (fun e he => ?_) (zK fun j p hj => ?_)⟩
  .obtain ⟨j,hj⟩:=yR.1 he;have hlt:=(iJ.1 hj).1;exact (hes j e _ hj (jF (by omega))).2.2
  .have hlt:=(iJ.1 hj).1;have hv:parts.toList[j]? = some (parts.toList[j]'(by omega)):=jF (by omega);generalize parts.toList[j]'(by omega)=v at hv;obtain ⟨r1,r2,r3⟩:=hes j p v hj hv;have r1:=r1.flat [] (bHJ r2);have hm:=(UA hI ((parts.toList.flatMap fun v=>v.2.cells.toList).toArray.toList.take (es.length*I.size))).none;have hcell:∀ i,i<I.size->∀ u,v.2.cells.toList[i]? = some u->laid M w.heap.size ((parts.toList.flatMap fun v=>v.2.cells.toList).toArray.toList.take (es.length*I.size)) w.heap.size (0+j*I.size+i)=some u:=fun i hi u hu=>by rw[yB (yC hI),aS rfl,lM,aS (by have:(j+1)*I.size<=es.length*I.size:=uu _ hlt;rw[nM] at this; omega)];grind [aZC]
   cases p with
   | agg ds =>obtain ⟨us,e1,hr⟩:=pG.1 r1;refine yD.2 (Ei fun i q hq => ?_);obtain ⟨u,hu,F6⟩:=uh hr hq;have hi:=(iJ.1 hq).1;simp[PV.size] at r3;exact ⟨u,hcell i (by omega) u (by rw[e1]; exact hu),F6.mono hm⟩
   | tuple ds=>simp[PV.okE,PV.one] at r2
   | _ =>refine (BJ rfl).2 ⟨v.2,?_,r1.mono hm⟩;have:=hcell 0 (by simp[PV.size] at r3; omega) v.2 (by rw[(Du rfl r1).1]; rfl);simpa using this
 .have hfr:aj M B (dm es) (parts.toList.flatMap fun v=>v.2.cells.toList):=a4F hpl.symm fun j e v h1 h2=>⟨(hes j e v h1 h2).1,(hes j e v h1 h2).2.1⟩
  have hG:=hI.newObj (parts.toList.flatMap fun v=>v.2.cells.toList).toArray e (dm es) (by have:=nG hfr; simp_all) (fun j p hj=>by grind [uh,flat_get,fA,dC]);refine ⟨_,_,_,_,hrun,Pre.AC hG (sN.2 ⟨(w.heap.size,(parts.toList.flatMap fun v=>v.2.cells.toList).toArray.size,e+1),es.length,⟨by rw[hI.heap.1]; simp,by simp⟩,rfl,cu _,by simp[hfl]⟩) rfl⟩
 .intro a5Y;have hfr:aj M B (dm es) (parts.toList.flatMap fun v=>v.2.cells.toList):=a4F hpl.symm fun j e v h1 h2=>⟨(hes j e v h1 h2).1,(hes j e v h1 h2).2.1⟩
  refine ⟨_,_,_,_,hrun,Pre.aOD hI (k:=es.length) hpos (by grind) (by have:=nG hfr; omega) (cu _) (by simp[hfl]) fun j p hj => ?_⟩;grind [uh,aNF]
end
section
variable {n:Nat} {out:Nat->Nat} {M:Mem} {B:aN} {Z:ASt} {a:Act} {w:World}
theorem aDW {P:Program} {t ty e:TypeId} {i:TypeInfo} {z:Value} (ht:P.underlying t=some (.slice e)) (hi:P.info? e=some i) (hz:i.zero=some z) {base A':Option Addr} {sLen sCap m c:Nat} {olds news:List Value}
 (hfo:(Builtin.firstCells i.size sLen (.slice base sLen sCap)).run P w.drew = .ok olds.toArray w.drew) (hfn:(Builtin.firstCells i.size m (.slice A' m c)).run P w.drew = .ok news.toArray w.drew)
 (hg:sCap<sLen+m) (h63:sLen+m<=bC) (hb:i.bytes<=1024) :
 (Builtin.append_ #[t,t] ty #[.slice base sLen sCap,.slice A' m c]).run P w =
  .ok (.slice (some ⟨w.heap.size,0,none⟩) (sLen+m) (grownCap w (sLen+m) sCap e)) (w.drew.alloc (.cells (olds.toArray ++ news.toArray ++ Builtin.zeroCells z.cells (grownCap w (sLen+m) sCap e-(sLen+m))) e)):=by
 unfold bC at h63;have hn:¬ (sLen+m<=sCap):=by omega
 have h63':¬ (9223372036854775807<((sLen:Int)+(m:Int))):=by omega
 have hb2:(sLen+m)*i.bytes<=140737488355328:=mP (Nat.mul_le_mul h63 hb) (by decide);have h48':¬ (281474976710656<Builtin.nextslicecap (sLen+m) sCap*i.bytes):=by have:=growslice_fits hg hb2; omega
 simp[Builtin.append_,eX ht,sizeOf,typeInfo,zeroValue,hi,hz,Builtin.lenOf,hn,h63',h48',Question.forced,hfo,hfn,newRow,grownCap];grind
theorem aDY {P:Program} {t ty e:TypeId} {i:TypeInfo} (ht:P.underlying t=some (.slice e)) (hi:P.info? e=some i) {g off:Nat} {A':Option Addr} {sLen sCap m c:Nat} {news:List Value}
 (hfn:(Builtin.firstCells i.size m (.slice A' m c)).run P w = .ok news.toArray w) {cur:Array Value} {ty':TypeId} (hh:w.heap[g]? = some (.cells cur ty' (0,0))) (hroom:sLen+m<=sCap) (h1:∀ u,u∈news->u.oneCell'=true) (hfit:off+sLen*i.size+news.length<=cur.size) :
 (Builtin.append_ #[t,t] ty #[.slice (some ⟨g,off,none⟩) sLen sCap,.slice A' m c]).run P w =
  .ok (.slice (some ⟨g,off,none⟩) (sLen+m) sCap) (w.setRow g (cur.toList.take (off+sLen*i.size) ++ news ++ cur.toList.drop (off+sLen*i.size+news.length)).toArray):=by
 have hst:=run_storeCells_at P g (off+sLen*i.size) ty' news 0 cur w hh (by omega) h1;simp only[GU] at hst;simp[Builtin.append_,eX ht,sizeOf,typeInfo,hi,Builtin.lenOf,hroom,hfn,add_lit,hst]
theorem aDX {P:Program} {t ty e:TypeId} {i:TypeInfo} (ht:P.underlying t=some (.slice e)) (hi:P.info? e=some i) {A':Option Addr} {c:Nat} {news:List Value}
 (hfn:(Builtin.firstCells i.size 0 (.slice A' 0 c)).run P w = .ok news.toArray w) :
 (Builtin.append_ #[t,t] ty #[.slice none 0 0,.slice A' 0 c]).run P w = .ok (.slice none 0 0) w:=by
 simp[Builtin.append_,eX ht,sizeOf,typeInfo,hi,Builtin.lenOf,hfn]
theorem Y4 {t:Array Value} {b:Nat}:fp B Z t w.drew b=fp B Z t w b:=by simp only[fp]; rw[FN (w':=w.drew) (w:=w) b (fun _ _ _ _ _=>rfl)]
theorem a4B {P:Program} {sz:Nat} {es:bTA} {A:Option Addr} {cap:Nat} (hs:∀ e,e∈es->e.size=sz) (hle:es.length<=cap) (hA:es ≠ []->∃ b off,A=some ⟨b,off,none⟩/\jr M [] sz es b off) (hmem:∀ (b o:Nat) (v:Value),M b o=some v->w.cell? ⟨b,o,none⟩=some v/\v.oneCell'=true) :
 ∃ vs:List Value,vs.length=es.length*sz/\(∀ w',(∀ (b o:Nat) (v:Value),M b o=some v->w'.cell? ⟨b,o,none⟩=some v)->(Builtin.firstCells sz es.length (.slice A es.length cap)).run P w' = .ok vs.toArray w')/\(∀ u,u∈vs->u.oneCell'=true) /\
  ∀ (M':Mem) (b' o':Nat),(∀ (b o:Nat) (v:Value),M b o=some v->M' b o=some v)->(∀ (j:Nat) v,vs[j]? = some v->M' b' (o'+j)=some v)->jr M' [] sz es b' o':=by
 cases A with
 | none =>
  have:es = []:=by simp_all
  subst this;exact ⟨[],by simp,fun w' _=>by rfl,by simp,fun _ _ _ _ _=>UM⟩
 | some x =>
  by_cases hcc:es = []
  .subst hcc;exact ⟨[],by simp,fun w' _=>WN (P:=P) w' sz 0 x 0 cap [] (by simp) (fun j v hv=>by simp at hv),by simp,fun _ _ _ _ _=>UM⟩
  obtain ⟨b,off,hx,hl⟩:=hA hcc;cases hx;obtain ⟨vs,h1,h2⟩:=aNL hl hs;refine ⟨vs,h1,fun w' hw=>WN (P:=P) w' sz es.length ⟨b,off,none⟩ es.length cap vs h1 (fun j v hv=>by rw[add_lit]; simp_all),fun u hu => ?_,fun M' b' o' hM hc=>bFY hl hs hM fun j hj v hv => ?_⟩
  .obtain ⟨j,hj⟩:=yR.1 hu;grind
  simp_all
theorem Ux {M:Mem} {B:aN} {o o':Bool} {sz:Nat} {es:bTA} {v:Value}:Rep M B (.sl o sz es) v↔Rep M B (.sl o' sz es) v:=by rw[jE,jE]
theorem aRG {ow:Bool} {sz:Nat} {es:bTA} {v:Value} (how:ow=true\/sz=0) (hr:Rep M B (.sl ow sz es) v) (hTl:Tl M w (.sl ow sz es) v):∀ A cap,v = .slice A es.length cap->(A=none->cap=0)/\(sz=0->A=none)/\∀ a,A=some a->(PV.sl ow sz es).own=true/\∃ cs ty,w.heap[a.block]? = some (.cells cs ty (0,0))/\a.off+cap*sz<=cs.size/\(∀ o,a.off+es.length*sz<=o->M a.block o=none)/\a.spot=none/\a.off=0:=fun A cap e1=>by
 obtain ⟨A',cap',e2,_,_,hzz,_⟩:=jE.1 hr;rw[e1] at e2; injection e2 with e3 _ e4; subst e3; subst e4
 by_cases h0:sz=0;simp_all
 .have:=how.resolve_right h0;subst this;obtain ⟨h1,h2,h3⟩:=hTl.s sz es _ _ _ rfl e1;exact ⟨h1,h2,fun a ha=>⟨rfl,h3 a ha⟩⟩
def Wl (w w':World) (e:TypeId) (size:Nat) (v0 v:Value):Prop:=∀ A n cap,v = .slice (some A) n cap->∃ cs ty,w'.heap[A.block]? = some (.cells cs ty (0,0))/\((ty=e/\cs.size=cap*size/\cap<=maxLen)\/∃ A0 n0 cs0,v0 = .slice (some A0) n0 cap/\w.heap[A0.block]? = some (.cells cs0 ty (0,0))/\cs.size=cs0.size)
theorem aDZ (hI:Inv n M B out Z a.tmps w) {P:Program} {t u ty e:TypeId} {I:TI} {i:TypeInfo} {z:Value} {d:TypeDesc} (iw:qc P e I i z d) {s:Operand} {X:Value} {sz:Nat} {es es':bTA} {p0:PV} (hs:Z.ev s=some p0) (hr:Rep M B (.sl true sz es) (a.eval s))
 (hrow:∀ A cap,a.eval s = .slice A es.length cap->(A=none->cap=0)/\(sz=0->A=none)/\∀ a,A=some a->p0.own=true/\∃ cs ty,w.heap[a.block]? = some (.cells cs ty (0,0))/\a.off+cap*sz<=cs.size/\(∀ o,a.off+es.length*sz<=o->M a.block o=none)/\a.spot=none/\a.off=0)
 (hpos:0<I.size) (hby:I.bytes<=1024) (hsz0:sz=I.size\/sz=0) (hs2:∀ p,p∈es'->p.size=I.size) (hlim:es.length+es'.length<=bC)
 {news:List Value} (n1:news.length=es'.length*I.size) (n3:∀ u,u∈news->u.oneCell'=true)
 (n4:∀ (M':Mem) (b' o':Nat),(∀ (b o:Nat) (v:Value),M b o=some v->M' b o=some v)->(∀ (j:Nat) v,news[j]? = some v->M' b' (o'+j)=some v)->jr M' [] I.size es' b' o')
 (bL4:es' = []->(Builtin.append_ #[t,u] ty #[.slice none 0 0,X]).run P w = .ok (.slice none 0 0) w)
 (bL9:∀ {g off sLen sCap:Nat} {cur:Array Value} {ty':TypeId},w.heap[g]? = some (.cells cur ty' (0,0))->sLen+es'.length<=sCap->off+sLen*i.size+news.length<=cur.size ->
  (Builtin.append_ #[t,u] ty #[.slice (some ⟨g,off,none⟩) sLen sCap,X]).run P w = .ok (.slice (some ⟨g,off,none⟩) (sLen+es'.length) sCap) (w.setRow g (cur.toList.take (off+sLen*i.size) ++ news ++ cur.toList.drop (off+sLen*i.size+news.length)).toArray))
 (bL1:∀ {base:Option Addr} {sLen sCap:Nat} {olds:List Value},(Builtin.firstCells i.size sLen (.slice base sLen sCap)).run P w.drew = .ok olds.toArray w.drew->sCap<sLen+es'.length->sLen+es'.length<=bC ->
  (Builtin.append_ #[t,u] ty #[.slice base sLen sCap,X]).run P w = .ok (.slice (some ⟨w.heap.size,0,none⟩) (sLen+es'.length) (grownCap w (sLen+es'.length) sCap e)) (w.drew.alloc (.cells (olds.toArray ++ news.toArray ++ Builtin.zeroCells z.cells (grownCap w (sLen+es'.length) sCap e-(sLen+es'.length))) e))) :
 ∃ v w' M' B',(Builtin.append_ #[t,u] ty #[a.eval s,X]).run P w = .ok v w'/\Pre n out M B Z a.tmps w M' B' (Z.clr s) w' (.sl true I.size (es ++ es')) v/\Wl w w' e i.size (a.eval s) v:=by
 have hsi:=iw.size;have hbi:=iw.bytes;obtain ⟨c1,c2,c3⟩:=hI.XZ hs;obtain ⟨A,cap,e1,hle,hss,hzz,hA⟩:=jE.1 hr;obtain ⟨hn,hz,hTl⟩:=hrow A cap e1;have hsz:sz=I.size\/es = []:=hsz0.imp id fun h=>(hzz h).1
 have hs1:∀ p,p∈es->p.size=I.size:=fun p hp=>by grind
 have hA1:es ≠ []->∃ b off,A=some ⟨b,off,none⟩/\jr M [] I.size es b off:=fun hc=>by simp_all
 obtain ⟨olds,o1,o2,o3,o4⟩:=a4B (P:=P) hs1 hle hA1 hI.mem;have aKP:∀ p,p∈es ++ es'->p.size=I.size:=fun p hp=>by grind
 rw[e1];by_cases hroom:es.length+es'.length<=cap
 .cases A with
  | none =>
   have hc0:=hn rfl;have h1:es = []:=kU (by omega);have h2:es' = []:=kU (by omega);subst h1; subst h2; subst hc0;refine ⟨.slice none 0 0,w,M,B,bL4 rfl,⟨c1,dG.refl _ _,Fr.refl _ _ _,fun b _ => ?_,jE.2 ⟨none,0,rfl,cu _,by simp,fun _=>⟨rfl,rfl,rfl⟩,by simp⟩,Q7 (fun l h=>by cases h) fun _ _ _ _ _ _ e=>by grind,fun b => ?_,fun b _=>by simp[bK]⟩,fun A n cap e=>by cases e⟩
   .have:=c2 b; simp[bK] at *; omega
   .have:=c2 b; have:=hI.cnt b; simp[bK] at *; omega
  | some ad =>
   obtain ⟨g,off,rfl,hloc⟩:∃ b off,ad=⟨b,off,none⟩/\jr M [] I.size es b off:=by
    by_cases hc:es = []
    .obtain ⟨_,_,_,_,_,_,hsp⟩:=hTl ad rfl;have hsp:=hsp.1;exact ⟨ad.block,ad.off,by cases ad; simp_all,by rw[hc]; exact UM⟩
    simp_all
   obtain ⟨hpo,cur,ty',t1,t2,t3,_,aKN⟩:=hTl _ rfl;simp only at t1 t2 t3 aKN;have hown:∀ b,bK p0 (a.eval s) b=if g=b then 1 else 0:=fun b=>by rw[e1]; simp[bK,hpo]
   have hg1:fp B Z a.tmps w g=1/\out g=0/\fp B (Z.clr s) a.tmps w g=0:=by have:=hI.cnt g; have:=c2 g; rw[hown,aS rfl] at this; omega
   have hfree:∀ o,off+es.length*I.size<=o->M g o=none:=fun o ho=>t3 o (by simp_all)
   have hszI:sz=I.size:=hsz0.resolve_right fun h=>by have:=hz h; cases this
   rw[hszI] at t2;have hfit:off+es.length*I.size+news.length<=cur.size:=by rw[n1];have:(es.length+es'.length)*I.size<=cap*I.size:=uu _ hroom;rw[nM] at this; omega
   have hrun:=bL9 (g:=g) (off:=off) (sLen:=es.length) (sCap:=cap) t1 hroom (by rw[<- hsi]; exact hfit);rw[<- hsi] at hrun;generalize hk:off+es.length*I.size=k at *;have hlt:g<w.heap.size:=(yQ.1 t1).1;generalize Jv:(cur.toList.take k ++ news ++ cur.toList.drop (k+news.length)).toArray=cur' at *;have hsz2:cur'.size=cur.size:=by rw[<- Jv]; simp; omega
   have hnew:∀ j,j<news.length->cur'[k+j]? = news[j]? := fun j hj=>by
    rw[<- Jv];rw[aCA];have hl:(cur.toList.take k).length=k:=by simp; omega
    rw[mO,EQ (by omega),hl,a1R,ut hj]
   have hold:∀ o,o<k->cur'[o]? = cur[o]? := fun o ho=>by
    rw[<- Jv];rw[aCA];have hl:(cur.toList.take k).length=k:=by simp; omega
    rw[mO,ut (by omega),lM,aS ho]; simp
   have hM:∀ (b o:Nat) (v:Value),M b o=some v->(if b=g/\k<=o/\o<k+news.length then news[o-k]? else M b o)=some v:=fun b o v h=>by
    by_cases hc:b=g/\k<=o/\o<k+news.length;simp_all
    .rw[aQ hc]; exact h
   have hheap:(w.setRow g cur').heap[g]? = some (.cells cur' ty' (0,0)):=setRow_heap w g cur _ ty' (0,0) t1;have hoth:∀ b,b≠g->(w.setRow g cur').heap[b]? = w.heap[b]? := fun b hb=>setRow_other w g b _ hb
   obtain ⟨M2,hM2⟩:∃ M2:Mem,∀ b o,M2 b o=if b=g/\k<=o/\o<k+news.length then news[o-k]? else M b o:=⟨yE _ _,BO fun b o v h=>hM b o v (M.g _ _ _ h)⟩
   have hle2:dG M M2 B B:=⟨fun b o v h=>by rw[hM2]; grind,fun _ _ h=>h⟩;obtain ⟨f1,f2⟩:=c1.ext (w':=w.setRow g cur') hle2 (fun b o v h=>by
    by_cases hb:b=g
    .subst hb;have hcell:(w.setRow b cur').cell? ⟨b,o,none⟩=cur'[o]? := by simp[World.cell?,hheap]
     rw[hcell];by_cases hc:k<=o/\o<k+news.length
     .rw[hM2,aS ⟨rfl,hc⟩] at h;have:=hnew (o-k) (by omega);rw[show k+(o-k)=o by omega] at this;grind
     .rw[hM2,aQ (fun x=>hc x.2)] at h;have hm:=hI.mem b o v h;have:o<k:=by grind
      have h3:w.cell? ⟨b,o,none⟩=cur[o]? := by simp[World.cell?,t1]
      grind
    .rw[hM2,aQ (fun x=>hb x.1)] at h;have hm:=hI.mem b o v h;grind [World.cell?_of_block]) (fun b hb=>by
    have hbg:b≠g:=fun e=>by grind
    grind) (by simp[World.setRow])
   have hcnt2:∀ b,bK (.sl true I.size (es ++ es')) (.slice (some ⟨g,off,none⟩) (es.length+es'.length) cap) b=if g=b then 1 else 0:=fun b=>by rfl
   refine ⟨_,_,_,_,hrun,⟨f1,hle2,⟨rfl,rfl,rfl,by simp[World.setRow],fun b hb h0 => ?_⟩,fun b hb => ?_,jE.2 ⟨_,cap,by rw[aY],by rw[aY]; exact hroom,aKP,fun h=>absurd h (by omega),fun _ => ?_⟩,?_,fun b => ?_,fun b hb => ?_⟩,fun A2 n2' cap2 e2=>by grind⟩
   .have hbg:b≠g:=fun e=>by grind
    grind
   grind
   .refine ⟨g,off,rfl,aNJ (hloc.mono hle2.none) ?_⟩;rw[hk];refine n4 _ _ _ hle2.mem fun j v hv => ?_
    have hj:=(iJ.1 hv).1;rw[hM2,aS ⟨rfl,by omega,by omega⟩,a1R]; exact hv
   .refine Q7 (fun l h=>by cases h) ?_;intro sz2 es2 x2 n2' cap2 e3 e4;cases e3; cases e4;refine ⟨by simp,fun h=>absurd h (by omega),fun x hx => ?_⟩;cases hx;refine ⟨cur',ty',hheap,by rw[hsz2]; exact t2,fun o ho => ?_,rfl,aKN⟩;simp only at ho;have hkk:off+(es ++ es').length*I.size=k+news.length:=by rw[aY,nM,n1]; omega
    grind
   .rw[f2,hcnt2]; have:=c2 b; rw[hown] at this; have:=hI.cnt b; omega
   .rw[hcnt2,aQ];grind
 .have hrun:=bL1 (base:=A) (sLen:=es.length) (sCap:=cap) (olds:=olds) (by rw[<- hsi]; exact o2 w.drew fun b o v h=>(hI.mem b o v h).1) (by omega) hlim;obtain ⟨d1,d2⟩:=c1.drew;have hge:=grownCap_ge w (es.length+es'.length) cap e;have hlen:(es ++ es').length*I.size=olds.length+news.length:=by rw[o1,n1,aY,nM]
  have htake:((olds.toArray ++ news.toArray ++ Builtin.zeroCells z.cells (grownCap w (es.length+es'.length) cap e-(es.length+es'.length))).toList.take ((es ++ es').length*I.size))=olds ++ news:=by rw[hlen];grind [List.take_left]
  have hone:∀ v,v∈(olds.toArray ++ news.toArray ++ Builtin.zeroCells z.cells (grownCap w (es.length+es'.length) cap e-(es.length+es'.length)))->v.oneCell'=true:=fun v hv=>by
   rcases Array.mem_append.1 hv with hv | hv
   grind
   .unfold Builtin.zeroCells at hv;obtain ⟨j,hj,rfl⟩:=Array.mem_map.1 hv;by_cases h0:z.cells.size=0
    .rw[h0] at hj; simp at hj
    .have:j % z.cells.size<z.cells.size:=Nat.mod_lt _ (by omega);rw[getElem!_pos z.cells _ this];exact iw.one _ (Array.getElem_mem _)
  have hmem:=d1.mem;have hpre:=Pre.newRow (a:=a) d1 (ty:=e) (sz:=I.size) (k:=(es ++ es').length*I.size) (es:=es ++ es') (cap:=grownCap w (es.length+es'.length) cap e) hpos hone rfl (by rw[aY]; exact hge) (by
   simp only[Array.size_append,List.size_toArray,size_zeroCells,iw.J3,<- hsi,o1,n1];rw[<- nM,<- nM];exact uu _ (by omega)) aKP (by
   rw[htake];have hle:=UA d1 (olds ++ news);refine aNJ (o4 _ _ _ hle.mem fun j v hv => ?_) (n4 _ _ _ hle.mem fun j v hv => ?_)
   .show laid M w.drew.heap.size (olds ++ news) w.drew.heap.size (0+j)=some v;rw[yB (yC d1),aS rfl,qU,ut (iJ.1 hv).1]; exact hv
   .show laid M w.drew.heap.size (olds ++ news) w.drew.heap.size (0+es.length*I.size+j)=some v;rw[yB (yC d1),aS rfl,qU,<- o1,EQ (Nat.le_add_right _ _),a1R]; exact hv)
  rw[aY] at hpre;refine ⟨_,_,_,_,hrun,⟨hpre.inv,hpre.le,?_,fun b hb => ?_,hpre.rep,hpre.tl,hpre.cnt,hpre.new⟩,fun A2 n2' cap2 e2=>by
   cases e2;refine ⟨_,e,QS w.drew _,.inl ⟨rfl,?_,grownCap_le_maxLen w _ cap e (by unfold bC at hlim; unfold maxLen; omega)⟩⟩;simp only[Array.size_append,List.size_toArray,size_zeroCells,iw.J3,o1,n1,hsi];rw[<- nM,<- nM];congr 1
   omega⟩
  .refine (Fr.trans (f:=fp B Z a.tmps w) (g:=fp B (Z.clr s) a.tmps w.drew) (M':=M) (w':=w.drew) ⟨rfl,rfl,rfl,cu _,fun _ _ _=>⟨rfl,fun _=>rfl⟩⟩ hpre.fr fun b hb h0 => ?_);have:=c2 b;rw[Y4];omega
  .have h1:=hpre.own b hb;have h2:=c2 b;rw[Y4] at h1;exact mP h1 (by omega)
def a2K (M:Mem) (w:World) (p0:PV) (sz:Nat) (es:bTA) (v:Value):Prop:=∀ A cap,v = .slice A es.length cap->(A=none->cap=0)/\(sz=0->A=none)/\∀ a,A=some a->p0.own=true/\∃ cs ty,w.heap[a.block]? = some (.cells cs ty (0,0))/\a.off+cap*sz<=cs.size/\(∀ o,a.off+es.length*sz<=o->M a.block o=none)/\a.spot=none/\a.off=0
theorem aNS {α:Type} {p:α->World->Prop} {q:α->World->Mem->aN->Prop} {r r':α->World->Prop} (hm:∀ v w',r v w'->r' v w') (h:∃ v w' M' B',p v w'/\q v w' M' B'/\r v w'):∃ v w' M' B',p v w'/\q v w' M' B'/\r' v w':=let ⟨v,w',M',B',h1,h2,h3⟩:=h; ⟨v,w',M',B',h1,h2,hm v w' h3⟩
theorem aF6 {α:Type} {p:α->World->Prop} {q:α->World->Mem->aN->Prop} {r:α->World->Prop} (h:∃ v w' M' B',p v w'/\q v w' M' B'/\r v w'):∃ v w' M' B',p v w'/\q v w' M' B':=let ⟨v,w',M',B',h1,h2,_⟩:=h; ⟨v,w',M',B',h1,h2⟩
theorem aD' (hI:Inv n M B out Z a.tmps w) {P:Program} {t ty:TypeId} {I:TI} (hT:je P t=some I) {s x:Operand} {sz sz':Nat} {es es':bTA} {o:Bool} {p0:PV} (hs:Z.ev s=some p0) (hrs:Rep M B (.sl true sz es) (a.eval s)) (hrow:a2K M w p0 sz es (a.eval s)) (hx:Z.rd x=some (.sl o sz' es'))
 (hpos:0<I.size) (hby:I.bytes<=1024) (hsz0:sz=I.size\/sz=0) (TT:sz'=I.size\/sz'=0) (hlim:es.length+es'.length<=bC) :
 ∃ v w' M' B',(Builtin.append_ #[t,t] ty #[a.eval s,a.eval x]).run P w = .ok v w'/\Pre n out M B Z a.tmps w M' B' (Z.clr s) w' (.sl true I.size (es ++ es')) v/\∃ e,P.underlying t=some (.slice e)/\Wl w w' e I.size (a.eval s) v:=by
 obtain ⟨e,i,z,d,hu,iw⟩:=yw hT;have hsi:=iw.size;have hbi:=iw.bytes;have hr':=(hI.rd x _ hx).1;obtain ⟨A',cap',e2,a5X,bD7,hz',hA'⟩:=jE.1 hr';have hsz':sz'=I.size\/es' = []:=TT.imp id fun h=>(hz' h).1
 have hs2:∀ p,p∈es'->p.size=I.size:=fun p hp=>by grind
 have hA2:es' ≠ []->∃ b off,A'=some ⟨b,off,none⟩/\jr M [] I.size es' b off:=fun hc=>by simp_all
 obtain ⟨news,n1,n2,n3,n4⟩:=a4B (P:=P) hs2 a5X hA2 hI.mem;rw[e2];refine aNS (fun v w' h=>⟨e,hu,hsi▸h⟩) (aDZ (ty:=ty) (u:=t) hI iw hs hrs hrow hpos hby hsz0 hs2 hlim n1 n3 n4 (X := .slice A' es'.length cap') (fun h0 => ?_) (fun hh hroom hfit => ?_) (fun hfo hg h63 => ?_))
 .subst h0;exact aDX hu iw.info (by rw[<- hsi]; exact n2 w fun b o v h=>(hI.mem b o v h).1)
 .exact aDY hu iw.info (by rw[<- hsi]; exact n2 w fun b o v h=>(hI.mem b o v h).1) hh hroom n3 hfit
 .exact aDW hu iw.info iw.zero hfo (by rw[<- hsi]; exact n2 w.drew fun b o v h=>(hI.mem b o v h).1) hg h63 (by rw[<- hbi]; exact hby)
theorem aV9 (hI:Inv n M B out Z a.tmps w) {P:Program} {t ty:TypeId} {I:TI} (hT:je P t=some I) {s x:Operand} {sz sz':Nat} {es es':bTA} {o ow:Bool} (how:ow=true\/sz=0) (hs:Z.ev s=some (.sl ow sz es)) (hx:Z.rd x=some (.sl o sz' es'))
 (hpos:0<I.size) (hby:I.bytes<=1024) (hsz0:sz=I.size\/sz=0) (TT:sz'=I.size\/sz'=0) (hlim:es.length+es'.length<=bC) :
 ∃ v w' M' B',(Builtin.append_ #[t,t] ty #[a.eval s,a.eval x]).run P w = .ok v w'/\Pre n out M B Z a.tmps w M' B' (Z.clr s) w' (.sl true I.size (es ++ es')) v:=by
 obtain ⟨hrs,hTl⟩:=hI.ev hs;exact aF6 (aD' hI hT hs (Ux.1 hrs) (aRG how hrs hTl) hx hpos hby hsz0 TT hlim)
theorem aV4 {P:Program} {t u ty e:TypeId} {i:TypeInfo} {z:Value} (ht:P.underlying t=some (.slice e)) (hu:P.underlying u=some .string) (hi:P.info? e=some i) (hz:i.zero=some z) {base:Option Addr} {sLen sCap:Nat} {olds:List Value} {s:ByteArray}
 (hfo:(Builtin.firstCells i.size sLen (.slice base sLen sCap)).run P w.drew = .ok olds.toArray w.drew) (hg:sCap<sLen+s.size) (h63:sLen+s.size<=bC) (hb:i.bytes<=1024) :
 (Builtin.append_ #[t,u] ty #[.slice base sLen sCap,.string s]).run P w =
  .ok (.slice (some ⟨w.heap.size,0,none⟩) (sLen+s.size) (grownCap w (sLen+s.size) sCap e)) (w.drew.alloc (.cells (olds.toArray ++ (Lib.strCells s).toArray ++ Builtin.zeroCells z.cells (grownCap w (sLen+s.size) sCap e-(sLen+s.size))) e)):=by
 unfold bC at h63;have hn:¬ (sLen+s.size<=sCap):=by omega
 have h63':¬ (9223372036854775807<((sLen:Int)+(s.size:Int))):=by omega
 have hb2:(sLen+s.size)*i.bytes<=140737488355328:=mP (Nat.mul_le_mul h63 hb) (by decide);have h48':¬ (281474976710656<Builtin.nextslicecap (sLen+s.size) sCap*i.bytes):=by have:=growslice_fits hg hb2; omega
 have hfn:=aTE (P:=P) w.drew i.size s;simp[Builtin.append_,eX ht,eX hu,sizeOf,typeInfo,zeroValue,hi,hz,Builtin.lenOf,hn,h63',h48',Question.forced,hfo,hfn,newRow,grownCap];grind
theorem aV5 {P:Program} {t u ty e:TypeId} {i:TypeInfo} (ht:P.underlying t=some (.slice e)) (hu:P.underlying u=some .string) (hi:P.info? e=some i) {s:ByteArray} (h0:s.size=0) :
 (Builtin.append_ #[t,u] ty #[.slice none 0 0,.string s]).run P w = .ok (.slice none 0 0) w:=by
 have hfn:=aTE (P:=P) w i.size s;rw[h0,show Lib.strCells s = [] from kU (by rw[Lib.strCells_length]; exact h0)] at hfn;simp[Builtin.append_,eX ht,eX hu,sizeOf,typeInfo,hi,Builtin.lenOf,h0,hfn]
theorem aE0 (hI:Inv n M B out Z a.tmps w) {P:Program} {t u ty:TypeId} {I:TI} (hT:je P t=some I) (hst:tJ P u=true) {s x:Operand} {sz:Nat} {es:bTA} {b:ByteArray} {p0:PV} (hs:Z.ev s=some p0) (hrs:Rep M B (.sl true sz es) (a.eval s)) (hrow:a2K M w p0 sz es (a.eval s)) (hx:Z.rd x=some (.str b))
 (hsz1:I.size=1) (hby:I.bytes<=1024) (hsz0:sz=I.size\/sz=0) (hlim:es.length+b.size<=bC) :
 ∃ v w' M' B',(Builtin.append_ #[t,u] ty #[a.eval s,a.eval x]).run P w = .ok v w'/\Pre n out M B Z a.tmps w M' B' (Z.clr s) w' (.sl true I.size (es ++ Ip b)) v/\∃ e,P.underlying t=some (.slice e)/\Wl w w' e I.size (a.eval s) v:=by
 obtain ⟨e,i,z,d,hu,iw⟩:=yw hT;have hsi:=iw.size;have hbi:=iw.bytes;have hus:=Tn hst;rw[iG.1 (hI.rd x _ hx).1];have hpl:=bN1 b;refine aNS (fun v w' h=>⟨e,hu,hsi▸h⟩) (aDZ (ty:=ty) (u:=u) (t:=t) (X := .string b) hI iw hs hrs hrow (es':=Ip b) (by omega) hby hsz0 (fun p hp => ?_) (by rw[hpl]; exact hlim) (news:=Lib.strCells b) (by rw[Lib.strCells_length,hpl,hsz1,Nat.mul_one]) (Lib.strCells_oneCell b) (fun M' b' o' hM hc => ?_) (fun h0 => ?_) (fun {g off sLen sCap cur ty'} hh hroom hfit => ?_) (fun hfo hg h63 => ?_))
 .obtain ⟨x,_,rfl⟩:=qR.1 hp;rw[hsz1]; rfl
 .rw[hsz1];refine zK fun j p hj => ?_
  unfold Ip at hj;rw[kJ] at hj;cases hv:b.data.toList[j]? with
  | none=>simp_all
  | some v =>simp[hv] at hj; subst hj;refine (BJ rfl).2 ⟨_,?_,dS.2 rfl⟩;rw[Nat.mul_one];grind [Lib.strCells]
 .exact aV5 hu hus iw.info (by rw[<- hpl,h0]; rfl)
 .rw[hpl] at hroom ⊢;have hst2:=run_storeCells_at P g (off+sLen*i.size) ty' (Lib.strCells b) 0 cur w hh (by omega) (Lib.strCells_oneCell b);simp only[GU] at hst2;have hfn:=aTE (P:=P) w i.size b;simp[Builtin.append_,eX hu,eX hus,sizeOf,typeInfo,iw.info,Builtin.lenOf,hroom,hfn,add_lit,hst2]
 .rw[hpl] at hg h63 ⊢;exact aV4 hu hus iw.info iw.zero hfo hg h63 (by rw[<- hbi]; exact hby)
theorem aVA (hI:Inv n M B out Z a.tmps w) {P:Program} {t u ty:TypeId} {I:TI} (hT:je P t=some I) (hbt:OY P t=true) (hst:tJ P u=true) {s x:Operand} {sz:Nat} {es:bTA} {b:ByteArray} {ow:Bool} (how:ow=true\/sz=0) (hs:Z.ev s=some (.sl ow sz es)) (hx:Z.rd x=some (.str b))
 (hsz1:I.size=1) (hby:I.bytes<=1024) (hsz0:sz=I.size\/sz=0) (hlim:es.length+b.size<=bC) :
 ∃ v w' M' B',(Builtin.append_ #[t,u] ty #[a.eval s,a.eval x]).run P w = .ok v w'/\Pre n out M B Z a.tmps w M' B' (Z.clr s) w' (.sl true I.size (es ++ Ip b)) v:=by
 obtain ⟨hrs,hTl⟩:=hI.ev hs;exact aF6 (aE0 hI hT hst hs (Ux.1 hrs) (aRG how hrs hTl) hx hsz1 hby hsz0 hlim)
theorem aRF {l:bTB} {v:Value} (hTl:TlT M w (.cZ l) v):a2K M w (.cZ l) 1 (mY l) v:=fun A cap e=>by obtain ⟨h1,h2⟩:=hTl l A _ cap rfl e;refine ⟨h1,fun h=>absurd h (by omega),fun x hx=>⟨rfl,?_⟩⟩;grind [XP]
theorem Pre.cZ {M':Mem} {B':aN} {Z':ASt} {w':World} {v v0:Value} {l l':bTB} {es:bTA} {ts:Array Value} (he:es=mY l') (h:Pre n out M B Z ts w M' B' Z' w' (.sl true 1 (mY l ++ es)) v) (h1:Wl w w' JW 1 v0 v) (h0:TlT M w (.cZ l) v0) :
 Pre n out M B Z ts w M' B' Z' w' (.cZ (l ++ l')) v:=by
 subst he;have ho:∀ b,bK (.cZ (l ++ l')) v b=bK (.sl true 1 (mY l ++ mY l')) v b:=fun b=>by rfl
 refine ⟨h.inv,h.le,h.fr,fun b hb=>by rw[ho]; exact h.own b hb,?_,⟨(fun _ _ _ _ _ e=>by cases e),fun l2 A m cap e ev => ?_,fun _ _ _ _ _ _ e _=>by cases e⟩,fun b=>by rw[ho]; exact h.cnt b,fun b hb=>by rw[ho]; exact h.new b hb⟩
 .refine Uz.1 ?_;rw[aEC];exact Ux.1 h.rep
 .cases e;obtain ⟨t1,_,t3⟩:=h.tl.s 1 _ A m cap rfl ev;refine ⟨t1,fun x hx => ?_⟩;obtain ⟨cs,ty,g1,g2,g3,g4,g5⟩:=t3 x hx;subst hx;obtain ⟨cs',ty',k1,k2⟩:=h1 x m cap ev;rw[g1] at k1;injection k1 with k1; injection k1 with k1 k3 _; subst k1; subst k3
  have hf:∀ o,(l ++ l').length<=o->M' x.block o=none:=fun o ho=>g3 o (by rw[<- aEC,XP,g5]; omega)
  rcases k2 with ⟨rfl,q1,q2⟩ | ⟨A0,n0,cs0,q1,q2,q3⟩
  simp_all
  .obtain ⟨_,z2⟩:=h0 l (some A0) n0 cap rfl q1;grind
theorem aF7 {P:Program} {t e:TypeId} (h:wW P t=some e):P.underlying t=some (.slice e):=by grind [wW]
theorem aV7 (hI:Inv n M B out Z a.tmps w) {P:Program} {t u ty:TypeId} {I:TI} (hT:je P t=some I) (hbt:wW P t=some JW) (hst:tJ P u=true) {s x:Operand} {l:bTB} {b:ByteArray} (hs:Z.ev s=some (.cZ l)) (hx:Z.rd x=some (.str b))
 (hsz1:I.size=1) (hby:I.bytes<=1024) (hlim:l.length+b.size<=bC) :
 ∃ v w' M' B',(Builtin.append_ #[t,u] ty #[a.eval s,a.eval x]).run P w = .ok v w'/\Pre n out M B Z a.tmps w M' B' (Z.clr s) w' (.cZ (l ++ b.data.toList)) v:=by
 obtain ⟨hrs,hTl⟩:=hI.ev hs;obtain ⟨v,w',M',B',h1,h2,e,h3,h4⟩:=aE0 (ty:=ty) hI hT hst hs (Ux.1 (Uz.2 hrs)) (aRF hTl.t) hx hsz1 hby (.inl hsz1.symm) (by rw[XP]; exact hlim);rw[aF7 hbt] at h3; cases h3;rw[hsz1] at h2 h4;exact ⟨v,w',M',B',h1,h2.cZ (bN0 b) h4 hTl.t⟩
theorem aV6 (hI:Inv n M B out Z a.tmps w) {P:Program} {t ty:TypeId} {I:TI} (hT:je P t=some I) (hbt:wW P t=some JW) {s x:Operand} {l:bTB} {o:Bool} {c:Int} (hs:Z.ev s=some (.cZ l)) (hx:Z.rd x=some (.sl o 1 [.int .u8 c]))
 (hsz1:I.size=1) (hby:I.bytes<=1024) (hlim:l.length+1<=bC) (h0:0<=c) (h256:c<256) :
 ∃ v w' M' B',(Builtin.append_ #[t,t] ty #[a.eval s,a.eval x]).run P w = .ok v w'/\Pre n out M B Z a.tmps w M' B' (Z.clr s) w' (.cZ (l ++ [UInt8.ofNat c.toNat])) v:=by
 obtain ⟨hrs,hTl⟩:=hI.ev hs;obtain ⟨v,w',M',B',h1,h2,e,h3,h4⟩:=aD' (ty:=ty) hI hT hs (Ux.1 (Uz.2 hrs)) (aRF hTl.t) hx (by omega) hby (.inl hsz1.symm) (.inl hsz1.symm) (by rw[XP]; exact hlim);rw[aF7 hbt] at h3; cases h3;rw[hsz1] at h2 h4;exact ⟨v,w',M',B',h1,h2.cZ (bHN h0 h256).symm h4 hTl.t⟩
theorem aV8 (hI:Inv n M B out Z a.tmps w) {P:Program} {t ty:TypeId} {I:TI} (hT:je P t=some I) {s x:Operand} {k sz':Nat} {cs es':bTA} {o:Bool} (hs:Z.ev s=some (.gB true k I.size cs)) (hx:Z.rd x=some (.sl o sz' es'))
 (hpos:0<I.size) (hby:I.bytes<=1024) (TT:sz'=I.size\/sz'=0) (a5Y:(dm es').all PV.lit=true) (hlim:k+es'.length<=bC) :
 ∃ v w' M' B',(Builtin.append_ #[t,t] ty #[a.eval s,a.eval x]).run P w = .ok v w'/\Pre n out M B Z a.tmps w M' B' (Z.clr s) w' (.gB true (k+es'.length) I.size (cs ++ dm es')) v:=by
 obtain ⟨e,i,z,d,hu,iw⟩:=yw hT;have hsi:=iw.size;have hbi:=iw.bytes;have hr':=(hI.rd x _ hx).1;obtain ⟨A',cap',e2,a5X,bD7,hz',hA'⟩:=jE.1 hr';have hsz':sz'=I.size\/es' = []:=TT.imp id fun h=>(hz' h).1
 have hs2:∀ p,p∈es'->p.size=I.size:=fun p hp=>by grind
 have hA2:es' ≠ []->∃ b off,A'=some ⟨b,off,none⟩/\jr M [] I.size es' b off:=fun hc=>by simp_all
 obtain ⟨news,n1,n2,n3,n4⟩:=a4B (P:=P) hs2 a5X hA2 hI.mem;have hnl:(dm es').length=news.length:=by rw[Y2 hs2,n1]
 have hnew:∀ (j:Nat) p,(dm es')[j]? = some p->p.lit=true/\∃ u,news[j]? = some u/\Rep KU [] p u/\u.oneCell'=true:=fun j p hj=>by
  have hl:=n4 (laid M w.heap.size news) w.heap.size 0 (UA hI news).mem fun j v hv=>by rw[yB (yC hI),aS rfl,qU]; exact hv
  grind [a7W,yB,yC,aNF]
 obtain ⟨hrs,hTl⟩:=hI.ev hs;obtain ⟨A,cap,e1,hle⟩:=FX.1 hrs;obtain ⟨⟨hcl,_⟩,hn,hrow⟩:=hTl.p _ _ _ _ _ _ rfl e1;obtain ⟨c1,c2,c3⟩:=hI.XZ hs;rw[e1,e2];have hall:(cs ++ dm es').length=(k+es'.length)*I.size:=by rw[aY,hcl,Y2 hs2,nM]
 by_cases hroom:k+es'.length<=cap
 .cases A with
  | none =>
   have hc0:=hn rfl;have h1:k=0:=by omega
   have h2:es' = []:=kU (by omega);subst h1; subst h2; subst hc0;have h3:cs = []:=kU (by omega);subst h3;refine ⟨.slice none 0 0,w,M,B,aDX hu iw.info (by rw[<- hsi]; exact n2 w fun b o v h=>(hI.mem b o v h).1),⟨c1,dG.refl _ _,Fr.refl _ _ _,fun b _ => ?_,FX.2 ⟨none,0,rfl,cu _⟩,aBC fun k' sz' cs' A m cap e ev => ?_,fun b => ?_,fun b _=>by simp[bK]⟩⟩;simp_all;grind
   .have:=c2 b; have:=hI.cnt b; simp_all
  | some ad =>
   obtain ⟨cur,ty',t1,t2,t3,t4,t5,t6⟩:=hrow ad rfl;obtain ⟨g,off,spot⟩:=ad;simp only at t1 t4 t5 t6;subst t5; subst t6;have hown:∀ b,bK (.gB true k I.size cs) (a.eval s) b=if g=b then 1 else 0:=fun b=>by rw[e1]; rfl
   have hg1:fp B Z a.tmps w g=1/\out g=0/\fp B (Z.clr s) a.tmps w g=0:=by have:=hI.cnt g; have:=c2 g; rw[hown,aS rfl] at this; omega
   have hfit:0+k*I.size+news.length<=cur.size:=by rw[n1];have:(k+es'.length)*I.size<=cap*I.size:=uu _ hroom;rw[nM] at this; omega
   have hrun:=aDY (P:=P) (ty:=ty) (g:=g) (off:=0) (sLen:=k) (sCap:=cap) (m:=es'.length) (A':=A') (c:=cap') hu iw.info (by rw[<- hsi]; exact n2 w fun b o v h=>(hI.mem b o v h).1) t1 hroom n3 (by rw[<- hsi]; exact hfit);rw[<- hsi,qU] at hrun;rw[qU] at hfit;generalize Jv:(cur.toList.take (k*I.size) ++ news ++ cur.toList.drop (k*I.size+news.length)).toArray=cur' at *;have hsz2:cur'.size=cur.size:=by rw[<- Jv]; simp; omega
   have hnw:∀ j,j<news.length->cur'[k*I.size+j]? = news[j]? := fun j hj=>by rw[<- Jv,aCA];grind
   have hold:∀ o,o<k*I.size->cur'[o]? = cur[o]? := fun o ho=>by rw[<- Jv,aCA];grind
   have hheap:(w.setRow g cur').heap[g]? = some (.cells cur' ty' (0,0)):=setRow_heap w g cur _ ty' (0,0) t1;have hoth:∀ b,b≠g->(w.setRow g cur').heap[b]? = w.heap[b]? := fun b hb=>setRow_other w g b _ hb
   obtain ⟨f1,f2⟩:=c1.ext (M':=M) (w':=w.setRow g cur') (dG.refl _ _) (fun b o v h=>by
    have hb:b≠g:=fun e=>by simp_all
    have hm:=hI.mem b o v h;grind [World.cell?_of_block]) (fun b hb=>by
    have hbg:b≠g:=fun e=>by grind
    simp_all) (by simp_all)
   have hcnt2:∀ b,bK (.gB true (k+es'.length) I.size (cs ++ dm es')) (.slice (some ⟨g,0,none⟩) (k+es'.length) cap) b=if g=b then 1 else 0:=fun b=>by rfl
   have hlt:g<w.heap.size:=(yQ.1 t1).1;refine ⟨_,_,M,B,hrun,⟨f1,dG.refl _ _,⟨rfl,rfl,rfl,by simp_all,fun b hb h0=>⟨hoth b fun e=>by grind,fun _=>rfl⟩⟩,fun b hb => ?_,FX.2 ⟨_,cap,rfl,hroom⟩,aBC fun k' sz2 cs' A2 m cap2 e3 e4 => ?_,fun b => ?_,fun b hb => ?_⟩⟩;simp_all;grind
   .rw[f2,hcnt2]; have:=c2 b; rw[hown] at this; have:=hI.cnt b; omega
   grind
 ·
  obtain ⟨olds,o1,o2,o3⟩:∃ olds:List Value,olds.length=k*I.size/\(Builtin.firstCells I.size k (.slice A k cap)).run P w.drew = .ok olds.toArray w.drew/\(∀ (j:Nat) p,cs[j]? = some p->p.lit=true/\∃ u,olds[j]? = some u/\Rep KU [] p u/\u.oneCell'=true)/\∀ u,u∈olds->u.oneCell'=true:=by
   cases A with
   | none =>
    have hc0:=hn rfl;have h1:k=0:=by omega
    subst h1;have h3:cs = []:=kU (by omega);subst h3;exact ⟨[],by simp,by rfl,fun j p h=>by simp at h,by simp⟩
   | some ad =>
    obtain ⟨cur,ty',t1,t2,t3,t4,t5,t6⟩:=hrow ad rfl;obtain ⟨g,off,spot⟩:=ad;simp only at t1 t4 t5 t6;subst t5; subst t6;have hkc:k*I.size<=cur.size:=mP (uu _ hle) t2;have hget:∀ (j:Nat) v,(cur.toList.take (k*I.size))[j]? = some v->j<k*I.size/\cur[j]? = some v:=fun j v hv=>by rw[lM] at hv;simp_all
    refine ⟨cur.toList.take (k*I.size),by simp; omega,WN (P:=P) w.drew I.size k ⟨g,0,none⟩ k cap _ (by simp; omega) (fun j v hv => ?_),fun j p hj => ?_,fun u hu => ?_⟩
    .rw[add_lit,qU];have:=(hget j v hv).2;show w.cell? ⟨g,j,none⟩=some v;grind [World.cell?]
    grind
    .obtain ⟨j,hj⟩:=yR.1 hu;obtain ⟨h1,h2⟩:=hget j u hj;obtain ⟨q1,u',q2,q3,q4⟩:=t3 j _ (jF (by omega:j<cs.length));rw[h2] at q2; simp_all
  obtain ⟨o3,o4⟩:=o3;have hrun:=aDW (P:=P) (ty:=ty) (base:=A) (A':=A') (sLen:=k) (sCap:=cap) (m:=es'.length) (c:=cap') (olds:=olds) (news:=news) hu iw.info iw.zero (by rw[<- hsi]; exact o2) (by rw[<- hsi]; exact n2 w.drew fun b o v h=>(hI.mem b o v h).1) (by omega) hlim (by rw[<- hbi]; exact hby);obtain ⟨d1,d2⟩:=c1.drew;have hge:=grownCap_ge w (k+es'.length) cap e;have hone:∀ v,v∈(olds.toArray ++ news.toArray ++ Builtin.zeroCells z.cells (grownCap w (k+es'.length) cap e-(k+es'.length)))->v.oneCell'=true:=fun v hv=>by
   rcases Array.mem_append.1 hv with hv | hv
   grind
   .unfold Builtin.zeroCells at hv;obtain ⟨j,hj,rfl⟩:=Array.mem_map.1 hv;by_cases h0:z.cells.size=0;simp_all
    .have:j % z.cells.size<z.cells.size:=Nat.mod_lt _ (by omega);rw[getElem!_pos z.cells _ this];exact iw.one _ (Array.getElem_mem _)
  have hpre:=Pre.aOD (a:=a) d1 (ty:=e) (sz:=I.size) (k:=k+es'.length) (cs:=cs ++ dm es') (cap:=grownCap w (k+es'.length) cap e) hpos hone hall hge (by
   simp only[Array.size_append,List.size_toArray,size_zeroCells,iw.J3,<- hsi,o1,n1];rw[<- nM,<- nM];simp_all) (fun j p hj=>by
   grind)
  refine ⟨_,_,_,_,hrun,⟨hpre.inv,hpre.le,?_,fun b hb => ?_,hpre.rep,hpre.tl,hpre.cnt,hpre.new⟩⟩
  .refine (Fr.trans (f:=fp B Z a.tmps w) (g:=fp B (Z.clr s) a.tmps w.drew) (M':=M) (w':=w.drew) ⟨rfl,rfl,rfl,cu _,fun _ _ _=>⟨rfl,fun _=>rfl⟩⟩ hpre.fr fun b hb h0 => ?_);have:=c2 b;rw[Y4];omega
  .have h1:=hpre.own b hb;have h2:=c2 b;rw[Y4] at h1;exact mP h1 (by omega)
end
section
variable {n:Nat} {out:Nat->Nat} {M:Mem} {B:aN} {Z:ASt} {a:Act} {w:World}
theorem a4E {α:Type} {l:List α}:∀ {n j:Nat},j<n*l.length->((List.replicate n l).flatten)[j]? = l[j % l.length]?
 | 0,j,h=>by simp at h
 | n+1,j,h=>by
  rw[List.replicate_succ,List.flatten_cons];rcases yV j l.length with h' | h'
  .rw[ut h',Nat.mod_eq_of_lt h']
  .rw[EQ h',Nat.mod_eq_sub_mod h'];exact a4E (by rw[GV] at h; omega)
theorem aG9 {α:Type} {l:List α} {n:Nat}:((List.replicate n l).flatten).length=n*l.length:=by simp
theorem a3H (c:Array Value) (n k:Nat) (hk:k=n*c.size):(madeCells c k).toList=(List.replicate n c.toList).flatten:=by subst hk;apply MG;grind [a4E,madeCells,aG9]
theorem aC1 {P:Program} {e:TypeId} {I:TI} {i:TypeInfo} {z:Value} {d:TypeDesc} (hT:qc P e I i z d) (m:Nat):wG m I=((List.replicate m z.cells.toList).flatten).map mM:=by rw[bPR,hT.Tu,List.map_flatten,List.map_replicate]
theorem aC0 {P:Program} {e:TypeId} {I:TI} {i:TypeInfo} {z:Value} {d:TypeDesc} (hT:qc P e I i z d) (m:Nat):(wG m I).length=m*I.size:=by rw[aC1 hT,aX,aG9,hT.size,<- hT.J3]; simp
theorem Y3 {α:Type} {l:List α} {n:Nat} {x:α} (h:x∈(List.replicate n l).flatten):x∈l:=by obtain ⟨l',h1,h2⟩:=List.mem_flatten.1 h;rw[(List.mem_replicate.1 h1).2] at h2; exact h2
theorem bGC {P:Program} {t e:TypeId} {I:TI} {i:TypeInfo} {z:Value} {d:TypeDesc} (hu:P.underlying t=some (.slice e)) (hT:qc P e I i z d) (k k':IntKind) {m:Int} (h0:0<=m) (h1:m<=1073741824) (hb:I.bytes<=1024) :
 (Instr.makeSlice t (.int k m) (.int k' m)).run P w = .ok (.slice (some ⟨w.heap.size,0,none⟩) m.toNat m.toNat) (w.alloc (.cells (madeCells z.cells (m.toNat*i.size)) e)):=by
 have hb2:(i.bytes:Int)*m<=281474976710656:=by
  have h2:(i.bytes:Int)<=1024:=by have:=hT.bytes; omega
  calc (i.bytes:Int)*m<=1024*1073741824:=Int.mul_le_mul h2 h1 h0 (by decide)
   _<=281474976710656:=by decide
 exact run_make w t e i z hu hT.info hT.zero k k' m m h0 (J7 _) hb2 (by omega)
theorem bGB (hI:Inv n M B out Z a.tmps w) {P:Program} {e:TypeId} {I:TI} {i:TypeInfo} {z:Value} {d:TypeDesc} (hT:qc P e I i z d) (m:Nat) :
 Good n out M B Z a.tmps w M (B ++ [(w.heap.size,(madeCells z.cells (m*i.size)).size,e+1)]) { Z with h:=Z.h ++ [some (wG m I)] } a.tmps (w.alloc (.cells (madeCells z.cells (m*i.size)) e)):=by
 have hc:=a3H z.cells m (m*i.size) (by rw[hT.J3]);refine hI.newObj _ e _ (by rw[aC0 hT,size_madeCells,hT.size]; omega) (fun j p hj => ?_);rw[aC1 hT,<- hc,kJ] at hj;cases hv:(madeCells z.cells (m*i.size)).toList[j]? with
 | none=>simp_all
 | some v =>
  simp[hv] at hj; subst hj;have hv':(madeCells z.cells (m*i.size))[j]? = some v:=by grind
  have hone:v.oneCell'=true:=hT.one v (by have:=nK hv;rw[hc] at this;simpa using Y3 this);grind [Ig,aBE,a8V]
theorem aX4 {α:Type} {l:List α} {n j k:Nat} (hj:j<n) (hk:k<l.length):((List.replicate n l).flatten)[j*l.length+k]? = l[k]? := by rw[a4E (by have:(j+1)*l.length<=n*l.length:=uu _ hj;rw[GV] at this; omega),Nat.add_comm,Nat.add_mul_mod_self_right,Nat.mod_eq_of_lt hk]
theorem bGD (hI:Inv n M B out Z a.tmps w) {P:Program} {e:TypeId} {I:TI} {i:TypeInfo} {z:Value} {d:TypeDesc} (hT:qc P e I i z d) (hpos:0<I.size) (hz:(uo I).size=I.size) (hok:(uo I).okE=true) (m:Nat) :
 ∃ M',Pre n out M B Z a.tmps w M' B Z (w.alloc (.cells (madeCells z.cells (m*i.size)) e)) (.sl true I.size (List.replicate m (uo I))) (.slice (some ⟨w.heap.size,0,none⟩) m m):=by
 have hc:=a3H z.cells m (m*i.size) (by rw[hT.J3]);have hsz:z.cells.toList.length=I.size:=by rw[hT.size,<- hT.J3]; simp
 have hone:∀ v,v∈madeCells z.cells (m*i.size)->v.oneCell'=true:=fun v hv=>hT.one v (by
  have:v∈(madeCells z.cells (m*i.size)).toList:=by grind
  rw[hc] at this;simpa using Y3 this)
 have hlen:(madeCells z.cells (m*i.size)).size=m*I.size:=by rw[size_madeCells,hT.size]
 have hpre:=Pre.newRow (a:=a) hI (vs:=madeCells z.cells (m*i.size)) (ty:=e) (sz:=I.size) (k:=m*I.size) (es:=List.replicate m (uo I)) (cap:=m) hpos hone (by simp) (by simp) (by rw[hlen]; omega) (fun x hx=>by rw[(List.mem_replicate.1 hx).2]; exact hz) (by
  refine zK fun j p hj => ?_
  obtain ⟨hjm,rfl⟩:j<m/\p=uo I:=by have h1:=nK hj;have h2:=(iJ.1 hj).1;simp_all
  have hcell:∀ k v,z.cells.toList[k]? = some v->laid M w.heap.size ((madeCells z.cells (m*i.size)).toList.take (m*I.size)) w.heap.size (0+j*I.size+k)=some v:=fun k v hv=>by
   have hk:=(iJ.1 hv).1;have hlt:j*I.size+k<m*I.size:=by have:(j+1)*I.size<=m*I.size:=uu _ hjm;rw[GV] at this; omega
   rw[yB (yC hI),aS rfl,lM,aS (by omega),hc,qU,<- hsz,aX4 hjm hk]; exact hv
  cases hag:I.agg with
  | true =>
   have e1:uo I = .agg (I.zero.map PV.un):=by simp[uo,hag]
   rw[e1];refine yD.2 (Ei fun k q hq => ?_);rw[hT.Tu,kJ,kJ] at hq;cases hv:z.cells.toList[k]? with
   | none=>simp_all
   | some v =>simp[hv] at hq; subst hq;exact ⟨v,hcell k v hv,oL.2 (Ig (hT.one v (by grind)))⟩
  | false =>
   have e1:uo I=match I.zero with | [p]=>p.un | _ => .nilp:=by simp[uo,hag]
   rw[hT.Tu] at e1;cases hzl:z.cells.toList with
   | nil=>rw[hzl] at hsz; grind
   | cons v r =>
    cases r with
    | nil =>
     rw[hzl] at e1;simp only[oN,List.map_nil] at e1;have hv:z.cells.toList[0]? = some v:=by rw[hzl]; rfl
     have ho:v.oneCell'=true:=hT.one v (by grind);have hrep:Rep (laid M w.heap.size ((madeCells z.cells (m*i.size)).toList.take (m*I.size))) [] (uo I) v:=by rw[e1]; exact oL.2 (Ig ho)
     have hno:(uo I).one=true:=by rw[e1,aSZ];unfold mM; split<;>first | rfl | (split<;>rfl)
     grind [BJ]
    | cons v2 r2 =>rw[hzl] at e1;grind [PV.size])
 grind
theorem aX8 (hI:Inv n M B out Z a.tmps w) {P:Program} {t ty e:TypeId} {I:TI} {i:TypeInfo} {z:Value} {d:TypeDesc} (hu:P.underlying t=some (.slice e)) (hT:qc P e I i z d) {j off m:Nat} {cs:bTA} {v:Value} (hv:Rep M B (.slh j off m I.size) v) (hcs:Z.h[j]? = some (some cs)) (hlen:off+m*I.size<=cs.length) :
 ∃ w',(Builtin.clear_ #[t] ty #[v]).run P w = .ok (.tuple #[]) w'/\Good n out M B Z a.tmps w M B { Z with h:=Z.h.set j (some (cs.take off ++ (wG m I).map PV.un ++ cs.drop (off+m*I.size))) } a.tmps w':=by
 obtain ⟨c,cap,⟨hc,hcm⟩,rfl,_,_⟩:=sN.1 hv;have hzl:=a3H z.cells m (m*z.cells.size) rfl;have hlist:(Builtin.zeroCells z.cells m).toList=(List.replicate m z.cells.toList).flatten:=by rw[<- hzl]; rfl
 have hr:aj M B ((wG m I).map PV.un) ((List.replicate m z.cells.toList).flatten):=by rw[aC1 hT];refine Ii (Ih (by simp) fun k p u hp hu => ?_);rw[kJ,hu] at hp;simp at hp; subst hp;exact Ig (hT.one u (by simpa using Y3 (nK hu)))
 obtain ⟨w',h1,h2⟩:=a0W (P:=P) hc hcm (off:=off) ((wG m I).map PV.un) _ 0 cs Z w hI hcs hr (fun d hd=>by grind [qE]) (fun u hu=>hT.one u (by simpa using Y3 hu)) (by rw[aX,aC0 hT]; omega);simp only[GU,aX,aC0 hT] at h2;cases m with
 | zero =>
  have e1:((List.replicate 0 z.cells.toList).flatten) = []:=rfl;rw[e1] at h1;have:w=w':=by simpa[storeCells] using h1
  subst this;exact ⟨w,by simp[Builtin.clear_,eX hu],h2⟩
 | succ m =>refine ⟨w',?_,h2⟩;simp[Builtin.clear_,eX hu,zeroValue,typeInfo,hT.info,hT.zero,hlist,h1]
theorem aXM {t:Array Value} (hI:Inv n M B out Z t w) {P:Program} {sz m:Nat} {p:PV} {cells:bTA} (h:En Z sz p=some (m,cells)) {v:Value} (hr:Rep M B p v) (hpos:0<sz) :
 ∃ vs:List Value,vs.length=m*sz/\aj M B cells vs/\(∀ q,q∈cells->q.own=false)/\(∀ u,u∈vs->u.oneCell'=true)/\(Builtin.lenOf v).run P w = .ok m w/\∀ k,k<=m->(Builtin.firstCells sz k v).run P w = .ok (vs.take (k*sz)).toArray w:=by
 unfold En at h;split at h
 .rename_i o sz' es;split at h
  .rename_i hs;cases h;simp only[EP] at hs;have hs:sz'=sz\/sz'=0:=hs.imp (fun e=>nZ e) fun e=>nZ e
   obtain ⟨A,cap,rfl,hle,hss,hz,hA⟩:=jE.1 hr;have hs2:∀ p,p∈es->p.size=sz:=fun p hp=>by grind
   cases A with
   | none =>
    have:es = []:=by simp_all
    subst this;exact ⟨[],by simp,dJ.2 rfl,by simp[dm],by simp,by rfl,fun k hk=>by simp[Builtin.firstCells]⟩
   | some x =>
    by_cases hcc:es = []
    .subst hcc;exact ⟨[],by simp,dJ.2 rfl,by simp[dm],by simp,by rfl,fun k hk=>by grind [run_firstCells_some]⟩
    obtain ⟨b,off,hx,hl⟩:=hA hcc;cases hx;have hl:jr M [] sz es b off:=by simp_all
    obtain ⟨vs,h1,h2⟩:=XW (Ei (ps:=dm es) (o:=off) fun j p hj=>a7W hl hs2 hj);have hlen:vs.length=es.length*sz:=by rw[<- nG h1,Y2 hs2]
    refine ⟨vs,hlen,h1.mono (dG.zero _ _),fun q hq=>flat_get hq,fun u hu => ?_,by rfl,fun k hk => ?_⟩
    .obtain ⟨j,hj⟩:=yR.1 hu;exact (hI.mem _ _ _ (h2 j u hj)).2
    .have hkl:k*sz<=es.length*sz:=uu _ hk;refine WN (P:=P) w sz k ⟨b,off,none⟩ es.length cap _ (by rw[wI]; omega) fun j v hv => ?_
     rw[lM] at hv;split at hv
     .rw[add_lit]; exact (hI.mem _ _ _ (h2 j v hv)).1
     .cases hv
  .cases h
 .rename_i j off m' sz';split at h
  .rename_i cs hcs;split at h
   .rename_i hc;obtain ⟨rfl,hfit⟩:=hc;cases h;obtain ⟨c,cap,⟨hc,hcm⟩,rfl,hle,hcap⟩:=sN.1 hr;obtain ⟨vs,ty,r1,o2,o3,o4,o5⟩:=hI.heap.at hcs hc;obtain ⟨ty,rfl,o1⟩:=EE r1 (by rw[o2.2]; exact hcm);have hget:∀ (i:Nat) u,((vs.toList.drop off).take (m*sz'))[i]? = some u->i<m*sz'/\vs[off+i]? = some u:=fun i u hu=>by rw[lM] at hu;simp_all
    have hvl:((vs.toList.drop off).take (m*sz')).length=m*sz':=by simp; omega
    refine ⟨(vs.toList.drop off).take (m*sz'),hvl,Ii (Ih (by rw[hvl]; simp; omega) fun i p u hp hu => ?_),fun q hq=>by grind [qE],fun u hu => ?_,by rfl,fun k hk => ?_⟩;grind
    .obtain ⟨i,hi⟩:=yR.1 hu;obtain ⟨hil,hi⟩:=hget i u hi;obtain ⟨u',a1,_,_,a4⟩:=o4 (off+i) _ (jF (by omega:off+i<cs.length));rw[hi] at a1; simp_all
    grind [Nat.mul_le_mul_right,run_firstCells_some,add_lit,World.cell?]
   .cases h
  .cases h
 .cases h
theorem aXN (hI:Inv n M B out Z a.tmps w) {P:Program} {t u ty e:TypeId} {I:TI} {i:TypeInfo} {z:Value} {d:TypeDesc} (hu:P.underlying t=some (.slice e)) (hT:qc P e I i z d) {j off m m2:Nat} {cs cells:bTA} {v x:Value} {px:PV} (hv:Rep M B (.slh j off m I.size) v) (hcs:Z.h[j]? = some (some cs)) (hlen:off+m*I.size<=cs.length)
 (hx:Rep M B px x) (hsrc:En Z I.size px=some (m2,cells)) (hpos:0<I.size) :
 ∃ w',(Builtin.copy_ #[t,u] ty #[v,x]).run P w = .ok (.int .i64 ((Nat.min m2 m:Nat):Int)) w'/\Good n out M B Z a.tmps w M B { Z with h:=Z.h.set j (some (cs.take off ++ cells.take (Nat.min m2 m*I.size) ++ cs.drop (off+Nat.min m2 m*I.size))) } a.tmps w':=by
 obtain ⟨c,cap,⟨hc,hcm⟩,rfl,_,_⟩:=sN.1 hv;obtain ⟨vs,h1,h2,h3,h4,h5,h6⟩:=aXM (P:=P) hI hsrc hx hpos;have hk1:Nat.min m2 m<=m2:=Nat.min_le_left _ _;have hk2:Nat.min m2 m<=m:=Nat.min_le_right _ _;have hk3:Nat.min m2 m*I.size<=m2*I.size:=uu _ hk1;have hk4:Nat.min m2 m*I.size<=m*I.size:=uu _ hk2;have hcl:cells.length=m2*I.size:=by rw[nG h2,h1]
 have hlt:(cells.take (Nat.min m2 m*I.size)).length=Nat.min m2 m*I.size:=by rw[wI]; omega
 obtain ⟨w',g1,g2⟩:=a0W (P:=P) hc hcm (off:=off) (cells.take (Nat.min m2 m*I.size)) (vs.take (Nat.min m2 m*I.size)) 0 cs Z w hI hcs (aQ7 h2 _) (fun d hd=>h3 d (QP hd)) (fun u hu=>h4 u (QP hu)) (by rw[hlt]; omega);simp only[GU,hlt] at g2;refine ⟨w',?_,g2⟩;have h7:=h6 _ hk1;simp[Builtin.copy_,eX hu,h5,hT.run_sizeOf w,h7,g1,goInt]
end
section
variable {n:Nat} {out:Nat->Nat} {M:Mem} {B:aN} {Z:ASt} {a:Act} {w:World} {E:AE}
theorem aNY {P:Program} {t:TypeId} {s:Option IntKind} {z:PV} (h:BM P t=some (s,z)):∃ k e zv i d,P.underlying t=some (.map k e)/\P.underlying k=some d/\(match s with | none=>d = .string | some kd=>d = .int kd)/\P.info? e=some i/\i.zero=some zv/\z=zeroOf zv/\WC zv=true:=by
 unfold BM at h;split at h
 .rename_i k e hu;split at h
  .rename_i s' zv hk hz;split at h
   .rename_i hok;cases h;cases hi:P.info? e with
    | none=>simp_all
    | some i =>grind [aM1]
   .cases h
  .cases h
 .cases h
theorem bKR {z:Value} (h:WC z=true):Rep M B (zeroOf z) z/\(zeroOf z).own=false:=by
 have key:∀ v:Value,v.oneCell'=true->Rep M B (mM v).un v/\((mM v).un).own=false:=fun v hv=>⟨oL.2 (Ig hv),qE _⟩
 cases z with
 | agg cs =>
  have h2:∀ v,v∈(Value.agg cs).cells->v.oneCell'=true:=fun v hv=>by grind [WC,Value.cells]
  exact ⟨pG.2 ⟨cs,rfl,aTB (z := .agg cs) h2⟩,rfl⟩
 | tuple cs=>simp[WC,Value.oneCell'] at h
 | _=>simp only[zeroOf]; exact key _ rfl
theorem aM2 {s:Option IntKind} {d:TypeDesc} (hd:match s with | none=>d = .string | some kd=>d = .int kd) {q:PV} (hq:y8 s q=true) {v:Value} (hr:Rep M B q v):MapKept.IsKey d v:=by
 unfold y8 at hq;split at hq
 .have hq:=ML hq;simp only at hd;subst hd; subst hq;rw[dS.1 hr]; rfl
 .simp only at hd;subst hd;rw[iG.1 hr]; simp[MapKept.IsKey]
 .cases hq
theorem Xi {s:Option IntKind} {d:TypeDesc} (hd:match s with | none=>d = .string | some kd=>d = .int kd) {q k:PV} {r:Bool} (h:eqK s q k=some r) {u v:Value} (hu:Rep M B q u) (hv:Rep M B k v):Instr.sameNow d u v=some r/\(r=true->u=v):=by
 unfold eqK at h;split at h
 .split at h
  .rename_i hk;cases h;simp only[bF,lw] at hk;obtain ⟨rfl,rfl⟩:=hk;simp only at hd;subst hd;rw[dS.1 hu,dS.1 hv];grind [Instr.sameNow]
  .cases h
 .rename_i x y;cases h;simp only at hd;subst hd;rw[iG.1 hu,iG.1 hv];have e:(x==y)=(x.data.toList==y.data.toList):=by
   rw[WE,a1Q,rM];constructor;simp_all
   .intro h; cases x; simp_all
  grind [Instr.sameNow,MapKept.bytes_beq]
 .cases h
theorem Y0 (e:MapEntry) (es:List MapEntry):uO (e::es)=e.key::e.val::uO es:=rfl
theorem aJX {s:Option IntKind} {d:TypeDesc} (hd:match s with | none=>d = .string | some kd=>d = .int kd) {q:PV} {u:Value} (hu:Rep M B q u):∀ {L:bTA} {es:List MapEntry} {r:Option PV} (i:Nat),aj M B L (uO es)->xE s L q=some r ->
 (r=none/\Instr.findNow d u es i=some none)\/∃ (p:PV) (j:Nat) (e:MapEntry),r=some p/\Instr.findNow d u es i=some (some (i+j,e.val))/\Rep M B p e.val
 | L,[],r,i,h,hg=>by
  have:L = []:=by cases L with | nil=>rfl | cons p L=>obtain ⟨_,_,e,_⟩:=bg.1 h; cases e
  subst this;simp[xE] at hg; subst hg;exact .inl ⟨rfl,rfl⟩
 | L,e::es,r,i,h,hg=>by
  rw[Y0] at h;match L,h with
  | k::v::L,h =>
   obtain ⟨a,l1,e1,rk,h⟩:=bg.1 h;injection e1 with e1 e2; subst e1; subst e2
   obtain ⟨b,l2,e1,rv,h⟩:=bg.1 h;injection e1 with e1 e2; subst e1; subst e2
   rw[xE] at hg;split at hg
   .rename_i he;cases hg;obtain ⟨h1,_⟩:=Xi hd he hu rk;exact .inr ⟨v,0,e,rfl,by simp[Instr.findNow,h1],rv⟩
   .rename_i he;obtain ⟨h1,_⟩:=Xi hd he hu rk;rcases aJX hd hu (i+1) h hg with ⟨g1,g2⟩ | ⟨p,j,e',g1,g2,g3⟩
    grind [Instr.findNow]
    .exact .inr ⟨p,j+1,e',g1,by grind [Instr.findNow],g3⟩
   .cases hg
  | [],h=>rw[dJ] at h; cases h
  | [p],h=>obtain ⟨_,_,e1,_,h⟩:=bg.1 h; rw[dJ] at h; simp_all
def fv (d:TypeDesc) (u:Value):List MapEntry->Option (Option Value)
 | []=>some none
 | e::es=>match Instr.sameNow d u e.key with
  | some true=>some (some e.val)
  | some false=>fv d u es
  | none=>none
theorem Xz {d:TypeDesc} {u:Value}:∀ (es:List MapEntry) (i:Nat),(Instr.findNow d u es i).map (fun o=>o.map (·.2))=fv d u es
 | [],i=>rfl
 | e::es,i=>by
  simp only[Instr.findNow,fv];cases Instr.sameNow d u e.key with
  | none=>rfl
  | some b=>cases b with
   | true=>rfl
   | false=>exact Xz es (i+1)
theorem SA {d:TypeDesc} {u:Value} (r:List MapEntry):∀ (l:List MapEntry),fv d u (l ++ r)=match fv d u l with | some none=>fv d u r | x=>x
 | []=>rfl
 | e::l=>by
  rw[gu];simp only[fv];cases Instr.sameNow d u e.key with
  | none=>rfl
  | some b=>cases b with
   | true=>rfl
   | false=>exact SA r l
theorem aAS {u k:ByteArray}:Instr.sameNow .string (.string u) (.string k)=some (u.data.toList==k.data.toList):=by
 simp only[Instr.sameNow,a1V];rw[WE,a1Q,rM];constructor;simp_all
 .intro h; cases u; simp_all
theorem TY (e x:MapEntry) (l:List MapEntry):tH e (x::l)=if U4 e.key x.key then e::x::l else x::tH e l:=rfl
def BG (d:TypeDesc) (u:Value):Prop:=(d = .string/\ry u=true)\/((∃ kd,d = .int kd)/\ry u=false)
theorem aM4 {s:Option IntKind} {d:TypeDesc} (hd:match s with | none=>d = .string | some kd=>d = .int kd) {q:PV} {u:Value} (hq:y8 s q=true) (hu:Rep M B q u):BG d u:=by
 unfold y8 at hq;split at hq
 .rw[dS.1 hu]; exact .inr ⟨⟨_,hd⟩,rfl⟩
 .rw[iG.1 hu]; exact .inl ⟨hd,rfl⟩
 .cases hq
theorem F7 {u:Value} (h:ry u=true):∃ a,u = .string a:=by cases u<;>first | exact ⟨_,rfl⟩ | (simp[ry] at h)
theorem aAR {d:TypeDesc} {u k:Value} {kd:IntKind} (hd:d = .int kd) (hk:ry k=true):Instr.sameNow d u k=none:=by subst hd; obtain ⟨a,rfl⟩:=F7 hk; cases u<;>rfl
theorem aGG {d:TypeDesc} {u:Value} (hd:BG d u) {e:MapEntry} (he:ry e.key=true):∀ {l:List MapEntry},(l.all fun x=>ry x.key)=true->(l.any fun x=>Ff e.key x.key)=false->fv d u (tH e l)=fv d u (l ++ [e])
 | [],_,_=>rfl
 | x::l,h1,h2=>by
  simp only[Ac,bF] at h1;simp only[QN,aC4] at h2;unfold tH;rcases hd with ⟨rfl,hu⟩ | ⟨⟨kd,rfl⟩,hu⟩
  .obtain ⟨a,rfl⟩:=F7 hu;obtain ⟨b,hb⟩:=F7 he;split
   ·
    have key:∀ {l:List MapEntry},(l.all fun x=>ry x.key)=true->(l.any fun x=>Ff e.key x.key)=false->fv .string (.string a) (e::l)=fv .string (.string a) (l ++ [e]):=fun {l} k1 k2=>by
     rw[SA];simp only[fv,hb,aAS];by_cases hab:a.data.toList=b.data.toList
     .have hn:fv .string (.string a) l=some none:=by
       clear h1 h2;induction l with
       | nil=>rfl
       | cons y l ih =>simp only[Ac,bF] at k1;simp only[QN,aC4] at k2;obtain ⟨c,hc⟩:=F7 k1.1;have k3:=k2.1;rw[hb,hc] at k3;simp only[Ff,pX,ne_eq] at k3;simp only[fv,hc,aAS];rw[show (a.data.toList==c.data.toList)=false by rw[pX,hab]; exact k3];exact ih k1.2 k2.2
      rw[hn,show (a.data.toList==b.data.toList)=true by simp[hab]]
     .rw[show (a.data.toList==b.data.toList)=false from pX.2 hab];cases fv .string (.string a) l with
      | none=>rfl
      | some o=>cases o<;>rfl
    exact key (l:=x::l) (by simp only[Ac,bF]; exact h1) (by simp only[QN,aC4]; exact h2)
   .rw[gu];simp only[fv];rw[aGG (.inl ⟨rfl,rfl⟩) he h1.2 h2.2]
  .have hx:Instr.sameNow (.int kd) u x.key=none:=aAR rfl h1.1;have Jw:Instr.sameNow (.int kd) u e.key=none:=aAR rfl he;split
   .rw[gu]; simp only[fv,hx,Jw]
   .rw[gu]; simp only[fv,hx]
theorem aUS {d:TypeDesc} {u:Value} (hd:BG d u) (l:List MapEntry) (e:MapEntry):fv d u (Gw l e)=fv d u (l ++ [e]):=by grind [Gw,aGG]
theorem foldl_snoc (es:List MapEntry) (e:MapEntry):qJ (es ++ [e])=Gw (qJ es) e:=by grind [qJ]
theorem aRN {P:List MapEntry->Prop} (h0:P []) (h1:∀ l e,P l->P (l ++ [e])) (l:List MapEntry):P l:=by
 have:∀ l:List MapEntry,P l.reverse:=fun l=>by
  induction l with
  | nil=>exact h0
  | cons e l ih=>rw[List.reverse_cons]; simp_all
 have h:=this l.reverse;rwa [List.reverse_reverse] at h
theorem XR {d:TypeDesc} {u:Value} (hd:BG d u) (es:List MapEntry):fv d u (qJ es)=fv d u es:=by refine aRN (P:=fun es=>fv d u (qJ es)=fv d u es) rfl (fun l e ih => ?_) es;rw[foldl_snoc,aUS hd,SA,SA,ih]
theorem bC1 {s:Option IntKind} {d:TypeDesc} (hd:match s with | none=>d = .string | some kd=>d = .int kd) {q:PV} {u:Value} (hkd:BG d u) (hu:Rep M B q u) {L:bTA} {es:List MapEntry} {r:Option PV} (i:Nat) (h:aj M B L (uO (qJ es))) (hg:xE s L q=some r) :
 (r=none/\Instr.findNow d u es i=some none)\/∃ (p:PV) (j:Nat) (v:Value),r=some p/\Instr.findNow d u es i=some (some (j,v))/\Rep M B p v:=by
 have e:=XR hkd es;rw[<- Xz es i,<- Xz (qJ es) 0] at e;rcases aJX hd hu 0 h hg with ⟨h1,h2⟩ | ⟨p,j,e',h1,h2,h3⟩
 .rw[h2] at e;refine .inl ⟨h1,?_⟩;cases hf:Instr.findNow d u es i with
  | none=>rw[hf] at e; cases e
  | some o=>cases o with
   | none=>rfl
   | some x=>rw[hf] at e; cases e
 .rw[h2] at e;cases hf:Instr.findNow d u es i with
  | none=>rw[hf] at e; cases e
  | some o=>cases o with
   | none=>rw[hf] at e; cases e
   | some x =>rw[hf] at e;grind
def kZ (d:TypeDesc) (u y:Value):List MapEntry->List MapEntry
 | [] => []
 | e::es=>match Instr.sameNow d u e.key with
  | some true => { e with key:=u,val:=y }::es
  | _=>e::kZ d u y es
theorem aO7 {d:TypeDesc} {u y:Value}:∀ (es:List MapEntry) (i j:Nat) (v:Value),Instr.findNow d u es i=some (some (i+j,v))->es.modify j (fun e => { e with key:=u,val:=y })=kZ d u y es/\∃ e,es[j]? = some e/\Instr.sameNow d u e.key=some true
 | [],i,j,v,h=>by cases h
 | e::es,i,j,v,h=>by
  simp only[Instr.findNow] at h;cases hs:Instr.sameNow d u e.key with
  | none=>rw[hs] at h; cases h
  | some b =>
   rw[hs] at h;cases b with
   | true =>grind [kZ]
   | false =>
    have hle:∀ (es:List MapEntry) (i k:Nat) (v:Value),Instr.findNow d u es i=some (some (k,v))->i<=k:=by
     intro es;induction es with
     | nil=>intro i k v h; cases h
     | cons x es ih =>grind [Instr.findNow]
    have:=hle es (i+1) (i+j) v h;obtain ⟨j',rfl⟩:∃ j',j=j'+1:=⟨j-1,by omega⟩;obtain ⟨h1,e',h2,h3⟩:=aO7 es (i+1) j' v (by rw[show i+1+j'=i+(j'+1) by omega]; exact h);refine ⟨?_,e',by grind,h3⟩;simp only[kZ,hs];rw[<- h1]; rfl
theorem a8D (d:TypeDesc) (u y:Value) (f:Value->Bool) (hf:∀ k,Instr.sameNow d u k=some true->f u=f k):∀ (l:List MapEntry),((kZ d u y l).all fun x=>f x.key)=(l.all fun x=>f x.key)/\((kZ d u y l).any fun x=>f x.key)=(l.any fun x=>f x.key)
 | []=>⟨rfl,rfl⟩
 | e::l=>by obtain ⟨h1,h2⟩:=a8D d u y f hf l;grind [kZ]
theorem same_eq {d:TypeDesc} {u k:Value} (hd:BG d u) (h:Instr.sameNow d u k=some true):u=k:=by
 rcases hd with ⟨rfl,hu⟩ | ⟨⟨kd,rfl⟩,hu⟩
 .obtain ⟨a,rfl⟩:=F7 hu;cases k<;>simp only[Instr.sameNow,a1V,reduceCtorEq] at h
  grind [MapKept.bytes_beq]
 .cases u<;>cases k<;>simp only[Instr.sameNow,reduceCtorEq] at h
  simp_all
theorem a8E {d:TypeDesc} {u y:Value} (r:List MapEntry):∀ {l:List MapEntry} {v:Value},fv d u l=some (some v)->kZ d u y (l ++ r)=kZ d u y l ++ r
 | [],v,h=>by cases h
 | e::l,v,h=>by
  rw[gu];simp only[fv] at h;simp only[kZ];cases hs:Instr.sameNow d u e.key with
  | none=>rw[hs] at h; cases h
  | some b=>rw[hs] at h; cases b with
   | true=>rfl
   | false=>simp only[a8E r (l:=l) h,gu]
theorem aO1 {d:TypeDesc} {u y:Value} {r:List MapEntry}:∀ {l:List MapEntry},fv d u l=some none->kZ d u y (l ++ r)=l ++ kZ d u y r
 | [],h=>rfl
 | e::l,h=>by
  rw[gu];simp only[fv] at h;simp only[kZ];cases hs:Instr.sameNow d u e.key with
  | none=>rw[hs] at h; cases h
  | some b=>rw[hs] at h; cases b with
   | true=>cases h
   | false=>simp only[aO1 (l:=l) h,gu]
theorem aN' {d:TypeDesc} {u y:Value} (hd:BG d u) {e:MapEntry} (hs:Instr.sameNow d u e.key=some false):∀ {l:List MapEntry},kZ d u y (tH e l)=tH e (kZ d u y l)
 | []=>by simp only[tH,kZ,hs]
 | x::l=>by
  rw[TY];split
  .rename_i hlt;simp only[kZ,hs];split
   .rename_i hx;rw[same_eq hd hx,TY,aS hlt]
   .rw[TY,aS hlt]
  .rename_i hlt;simp only[kZ];split
   .rename_i hx;rw[same_eq hd hx,TY,aQ hlt]
   .rw[aN' hd hs,TY,aQ hlt]
theorem aO0 {d:TypeDesc} {u y:Value} (hd:BG d u) {e:MapEntry} (hs:Instr.sameNow d u e.key=some true):∀ {l:List MapEntry},fv d u l=some none->kZ d u y (tH e l)=tH { e with key:=u,val:=y } l
 | [],_=>by simp only[tH,kZ,hs]
 | x::l,h=>by
  simp only[fv] at h;unfold tH;split
  .rename_i hlt;rw[same_eq hd hs,aS hlt];simp only[kZ,show Instr.sameNow d e.key e.key=some true by rw[same_eq hd hs] at hs; exact hs]
  .rename_i hlt;cases hx:Instr.sameNow d u x.key with
   | none=>rw[hx] at h; cases h
   | some b=>rw[hx] at h; cases b with
    | true=>cases h
    | false =>simp only[kZ,hx];rw[aO0 hd hs h,same_eq hd hs,aQ hlt]
theorem aWX {d:TypeDesc} {u y:Value} (hd:BG d u) (es:List MapEntry):∀ v,fv d u es=some (some v)->qJ (kZ d u y es)=kZ d u y (qJ es):=by
 refine aRN (P:=fun es=>∀ v,fv d u es=some (some v)->qJ (kZ d u y es)=kZ d u y (qJ es)) (fun v h=>by cases h) (fun l e ih v h => ?_) es;have hk:∀ k,Instr.sameNow d u k=some true->ry u=ry k:=fun k hk=>by rw[same_eq hd hk]
 have hq:∀ (q:Value) k,Instr.sameNow d u k=some true->Ff q u=Ff q k:=fun q k hk=>by rw[same_eq hd hk]
 rw[SA] at h;cases hl:fv d u l with
 | none=>rw[hl] at h; cases h
 | some o =>
  cases o with
  | some x =>
   rw[a8E [e] hl,foldl_snoc,foldl_snoc,ih x hl];have hc:fv d u (qJ l)=some (some x):=by rw[XR hd,hl]
   unfold Gw;rw[(a8D d u y ry hk (qJ l)).1,(a8D d u y (Ff e.key) (hq e.key) (qJ l)).2];split
   .rename_i hcond;simp only[bF,xW] at hcond;refine (aN' hd ?_).symm;cases hs:Instr.sameNow d u e.key with
    | none =>
     exfalso;rcases hd with ⟨rfl,hu⟩ | ⟨⟨kd,rfl⟩,hu⟩
     .obtain ⟨a,rfl⟩:=F7 hu;obtain ⟨b,hb⟩:=F7 hcond.1.1;rw[hb] at hs; cases hs
     ·
      have:∀ {l:List MapEntry},(l.all fun x=>ry x.key)=true->∀ v,fv (.int kd) u l≠some (some v):=fun {l} h1 v h2=>by
       cases l with
       | nil=>cases h2
       | cons z l =>grind [fv,aAR]
      simp_all
    | some b =>
     cases b with
     | false=>rfl
     | true =>
      exfalso;have hue:=same_eq hd hs;have:∀ {l:List MapEntry} {v:Value},fv d u l=some (some v)->(l.any fun x=>Ff e.key x.key)=false->ry e.key=true->False:=fun {l v}=>by
       induction l with
       | nil=>intro h; cases h
       | cons z l ih =>grind [fv,F7,Ff]
      grind
   grind [a8E]
  | none =>rw[hl] at h;grind [fv,XR,aO1,foldl_snoc,kZ,same_eq,Gw,aO0]
theorem aKJ {s:Option IntKind} {d:TypeDesc} (hd:match s with | none=>d = .string | some kd=>d = .int kd) {q:PV} {u:Value} (hu:Rep M B q u):∀ {L:bTA} {es:List MapEntry},aj M B L (uO es)->qo s L q=true ->
 (sF s L q=true/\∃ v,fv d u es=some (some v))\/(sF s L q=false/\fv d u es=some none)
 | L,[],h,hg=>by
  have:L = []:=by cases L with | nil=>rfl | cons p L=>obtain ⟨_,_,e,_⟩:=bg.1 h; cases e
  subst this;exact .inr ⟨rfl,rfl⟩
 | L,e::es,h,hg=>by
  rw[Y0] at h;match L,h with
  | k::v::L,h =>
   obtain ⟨a,l1,e1,rk,h⟩:=bg.1 h;injection e1 with e1 e2; subst e1; subst e2
   obtain ⟨b,l2,e1,rv,h⟩:=bg.1 h;injection e1 with e1 e2; subst e1; subst e2
   rw[qo,bF] at hg;obtain ⟨hg1,hg⟩:=hg;cases he:eqK s q k with
   | none=>rw[he] at hg1; cases hg1
   | some r =>
    obtain ⟨h1,h2⟩:=Xi hd he hu rk;cases r with
    | true=>exact .inl ⟨by simp only[sF,he],e.val,by simp only[fv,h1]⟩
    | false =>simp only[sF,he,fv,h1];exact aKJ hd hu h hg
  | [],h=>rw[dJ] at h; cases h
  | [p],h=>obtain ⟨_,_,e1,_,h⟩:=bg.1 h; rw[dJ] at h; simp_all
theorem aO6 {s:Option IntKind} {d:TypeDesc} (hd:match s with | none=>d = .string | some kd=>d = .int kd) {q x:PV} {u y:Value} (hu:Rep M B q u) (hy:Rep M B x y):∀ {L:bTA} {es:List MapEntry},aj M B L (uO es)->qo s L q=true ->
 aj M B (nD s L q x) (uO (kZ d u y es))
 | L,[],h,hg=>by
  have:L = []:=by cases L with | nil=>rfl | cons p L=>obtain ⟨_,_,e,_⟩:=bg.1 h; cases e
  subst this;exact h
 | L,e::es,h,hg=>by
  rw[Y0] at h;match L,h with
  | k::v::L,h =>
   obtain ⟨a,l1,e1,rk,h⟩:=bg.1 h;injection e1 with e1 e2; subst e1; subst e2
   obtain ⟨b,l2,e1,rv,h⟩:=bg.1 h;injection e1 with e1 e2; subst e1; subst e2
   rw[qo,bF] at hg;obtain ⟨hg1,hg⟩:=hg;cases he:eqK s q k with
   | none=>rw[he] at hg1; cases hg1
   | some r =>
    obtain ⟨h1,h2⟩:=Xi hd he hu rk;cases r with
    | true =>simp only[nD,he,kZ,h1];exact bg.2 ⟨u,_,rfl,hu,bg.2 ⟨y,_,rfl,hy,h⟩⟩
    | false =>simp only[nD,he,kZ,h1];exact bg.2 ⟨_,_,rfl,rk,bg.2 ⟨_,_,rfl,rv,aO6 hd hu hy h hg⟩⟩
  | [],h=>rw[dJ] at h; cases h
  | [p],h=>obtain ⟨_,_,e1,_,h⟩:=bg.1 h; rw[dJ] at h; simp_all
theorem bG1 {s:Option IntKind} {q k:PV} {u v:Value} {r:Bool} (he:eqK s q k=some r) (hu:Rep M B q u) (hv:Rep M B k v):oD q k=U4 u v:=by
 unfold eqK at he;split at he
 .rw[dS.1 hu,dS.1 hv]; rfl
 .rw[iG.1 hu,iG.1 hv]; rfl
 .cases he
theorem aL6 {s:Option IntKind} {q x:PV} {e0:MapEntry} (hu:Rep M B q e0.key) (hy:Rep M B x e0.val):∀ {L:bTA} {es:List MapEntry},aj M B L (uO es)->qo s L q=true->aj M B (oG L q x) (uO (tH e0 es))
 | L,[],h,hg=>by
  have:L = []:=by cases L with | nil=>rfl | cons p L=>obtain ⟨_,_,e,_⟩:=bg.1 h; cases e
  subst this;exact bg.2 ⟨_,_,rfl,hu,bg.2 ⟨_,_,rfl,hy,dJ.2 rfl⟩⟩
 | L,e::es,h,hg=>by
  rw[Y0] at h;match L,h with
  | k::v::L,h =>
   have h0:=h;obtain ⟨a,l1,e1,rk,h⟩:=bg.1 h;injection e1 with e1 e2; subst e1; subst e2
   obtain ⟨b,l2,e1,rv,h⟩:=bg.1 h;injection e1 with e1 e2; subst e1; subst e2
   rw[qo,bF] at hg;obtain ⟨hg1,hg⟩:=hg;cases he:eqK s q k with
   | none=>rw[he] at hg1; cases hg1
   | some r =>
    have hlt:=bG1 he hu rk;unfold tH;simp only[oG,hlt];cases U4 e0.key e.key with
    | true=>exact bg.2 ⟨_,_,rfl,hu,bg.2 ⟨_,_,rfl,hy,h0⟩⟩
    | false=>exact bg.2 ⟨_,_,rfl,rk,bg.2 ⟨_,_,rfl,rv,aL6 hu hy h hg⟩⟩
  | [],h=>rw[dJ] at h; cases h
  | [p],h=>obtain ⟨_,_,e1,_,h⟩:=bg.1 h; rw[dJ] at h; simp_all
theorem aL2 {e:MapEntry} (he:ry e.key=false):∀ l:List MapEntry,tH e l=l ++ [e]
 | []=>rfl
 | x::l=>by
  have:U4 e.key x.key=false:=by cases hk:e.key<;>first | rfl | grind [ry]
  unfold tH;rw[this,aQ (by decide),aL2 he l]; rfl
theorem aUT {s:Option IntKind} {d:TypeDesc} (hd:match s with | none=>d = .string | some kd=>d = .int kd) {q:PV} {e0:MapEntry} (hkd:BG d e0.key) (hu:Rep M B q e0.key) {L:bTA} {es:List MapEntry} (h:aj M B L (uO es)) (hg:qo s L q=true) (hf:fv d e0.key es=some none):Gw es e0=tH e0 es:=by
 unfold Gw;split
 .rfl
 .rename_i hc;cases hs:ry e0.key with
  | false=>grind [aL2]
  | true =>
   exfalso;apply hc;obtain ⟨b,hb⟩:=F7 hs;have hds:d = .string:=by
    rcases hkd with ⟨h,_⟩ | ⟨_,h⟩
    .exact h
    simp_all
   subst hds;clear hc h hg hu;rw[hb] at hf ⊢;simp only[bF,xW,ry,true_and];induction es with
   | nil=>simp
   | cons z es ih =>
    simp only[fv] at hf;cases hz:Instr.sameNow .string (.string b) z.key with
    | none=>rw[hz] at hf; cases hf
    | some r=>rw[hz] at hf; cases r with
     | true=>cases hf
     | false =>
      obtain ⟨i1,i2⟩:=ih hf;have hzs:∃ c,z.key = .string c:=by
       cases hk:z.key<;>rw[hk] at hz<;>simp[Instr.sameNow] at hz
       simp
      obtain ⟨c,hc⟩:=hzs;rw[hc,aAS] at hz;simp only[a1V] at hz;refine ⟨by rw[Ac,hc,i1]; rfl,?_⟩;rw[QN,hc,i2];show ((b.data.toList==c.data.toList)||false)=false;rw[hz]; rfl
theorem bKC {s:Option IntKind} {d:TypeDesc} (hd:match s with | none=>d = .string | some kd=>d = .int kd) {q x:PV} {u y:Value} (hkd:BG d u) (hu:Rep M B q u) (hy:Rep M B x y) {L:bTA} {es:List MapEntry} (h:aj M B L (uO (qJ es))) (hg:qo s L q=true) :
 (Instr.findNow d u es 0=some none/\∀ b,aj M B (jW s L q x) (uO (qJ (es ++ [{ key:=u,val:=y,born:=b }])))) \/
 ∃ (j:Nat) (e:MapEntry),Instr.findNow d u es 0=some (some (0+j,e.val))/\es[j]? = some e/\e.key=u/\aj M B (jW s L q x) (uO (qJ (es.modify j fun e => { e with key:=u,val:=y }))):=by
 have e0:=Xz (d:=d) (u:=u) es 0;have ec:=XR hkd es;rcases aKJ hd hu h hg with ⟨h1,v,h2⟩ | ⟨h1,h2⟩
 .rw[ec] at h2;rw[h2] at e0;cases hf:Instr.findNow d u es 0 with
  | none=>rw[hf] at e0; cases e0
  | some o=>cases o with
   | none=>rw[hf] at e0; cases e0
   | some z =>
    obtain ⟨j,v'⟩:=z;have hf0:Instr.findNow d u es 0=some (some (0+j,v')):=by rw[hf,qU]
    obtain ⟨g1,e,g2,g3⟩:=aO7 (y:=y) es 0 j v' hf0;have hv:v'=e.val:=by
     have key:∀ (es:List MapEntry) (i j:Nat) (v:Value) (e:MapEntry),Instr.findNow d u es i=some (some (i+j,v))->es[j]? = some e->v=e.val:=by
      intro es;induction es with
      | nil=>simp
      | cons x es ih =>
       intro i j v e h1 h2;simp only[Instr.findNow] at h1;cases hs:Instr.sameNow d u x.key with
       | none=>rw[hs] at h1; cases h1
       | some b=>rw[hs] at h1; cases b with
        | true =>simp_all
        | false =>
         cases j with
         | zero =>
          exfalso;have hle:∀ (es:List MapEntry) (i k:Nat) (v:Value),Instr.findNow d u es i=some (some (k,v))->i<=k:=by
           intro es;induction es with
           | nil=>intro i k v h; cases h
           | cons x es ih =>grind [Instr.findNow]
          have:=hle es (i+1) (i+0) v h1;omega
         | succ j=>exact ih (i+1) j v e (by rw[show i+1+j=i+(j+1) by omega]; exact h1) (by grind)
     exact key es 0 j v' e hf0 g2
    grind [same_eq,aWX,jW,aO6]
 .have hn:=h2;rw[ec] at h2;rw[h2] at e0;cases hf:Instr.findNow d u es 0 with
  | none=>rw[hf] at e0; cases e0
  | some o=>cases o with
   | some z=>rw[hf] at e0; cases e0
   | none =>refine .inl ⟨rfl,fun b => ?_⟩;rw[foldl_snoc,aUT (e0 := { key:=u,val:=y,born:=b }) hd hkd hu h hg hn];grind [jW,aL6]
theorem aNZ (hI:Inv n M B out Z a.tmps w) {i:Nat} {v:Value} (hv:Rep M B (.cO 0 i) v) {cs L:bTA} {b:Bool} (hcs:Z.h[i]? = some (some cs)) (hin:zx cs=some (b,L)) :
 ∃ c es ck,B[i]? = some c/\v = .map (some c.1)/\w.heap[c.1]? = some (.map es ck)/\aj M (UO b B) L (uO (qJ es.toList)):=by
 obtain ⟨c,hc,hb⟩:=FW.1 hv;obtain ⟨hb2,rfl⟩:=hb.1 rfl;obtain ⟨vs,ty,r1,o2,o3,o4,o5⟩:=hI.heap.at hcs hc;have hty:ty=0:=by rw[o2.2,hb2]
 subst hty;rw[aNW hin] at o4;obtain ⟨u,h1,h2,_⟩:=o4 0 (nU b L) rfl;rcases aQH r1 with ⟨es,ck,hrow,rfl⟩ | ⟨s,pos,hrow,rfl⟩
 rotate_left
 .simp at h1; subst h1;obtain ⟨f,e1,_⟩:=a0F.1 h2;unfold Ht at e1;injection e1 with e1 _ _
  injection e1 with e1
  exact absurd e1 (by decide)
 simp at h1; subst h1;obtain ⟨f,e1,h3⟩:=a0F.1 h2;grind [I9]
theorem aA9 {M:Mem} {B:aN} {s:ByteArray} {p:Int} {v:Value}:Rep M B (zF s p) v↔v = .func (.yield WZ) #[.string s,.int .i64 p] #[]:=by
 refine zW.trans ⟨?_,?_⟩
 .rintro ⟨f,c,rfl,h1,h2⟩;rw[dJ] at h2;obtain ⟨u1,l1,e1,g1,h1⟩:=bg.1 h1;obtain ⟨u2,l2,rfl,g2,h1⟩:=bg.1 h1;rw[dJ] at h1; subst h1;rw[iG.1 g1,dS.1 g2] at e1;have hc:c = #[]:=by rw[<- qP]; exact h2
  have hf:f = #[.string s,.int .i64 p]:=by rw[<- qP]; exact e1
  rw[hc,hf]
 .rintro rfl;exact ⟨_,_,rfl,bg.2 ⟨_,_,rfl,iG.2 rfl,bg.2 ⟨_,_,rfl,dS.2 rfl,dJ.2 rfl⟩⟩,dJ.2 rfl⟩
theorem bDM (hI:Inv n M B out Z a.tmps w) {i:Nat} {v:Value} (hv:Rep M B (.cO CW i) v) {cs:bTA} {s:ByteArray} {p:Int} (hcs:Z.h[i]? = some (some cs)) (hin:Oc cs=some (s,p)) :
 ∃ (c:Nat×Nat×TypeId) (pos:Nat),B[i]? = some c/\v = .pointer (some ⟨c.1,0,none⟩)/\w.heap[c.1]? = some (.stringIter s pos)/\p=pos:=by
 obtain ⟨c,hc,hb⟩:=FW.1 hv;obtain ⟨hb2,rfl⟩:c.2=(1,0)/\v = .pointer (some ⟨c.1,0,none⟩):=hb.2 (by decide);obtain ⟨vs,ty,r1,o2,o3,o4,o5⟩:=hI.heap.at hcs hc;have hty:ty=0:=by rw[o2.2,hb2]
 subst hty;rw[aLG hin] at o4;obtain ⟨u,h1,h2,_⟩:=o4 0 (zF s p) rfl;have h2:=aA9.1 h2;rcases aQH r1 with ⟨es,ck,hrow,rfl⟩ | ⟨s',pos,hrow,rfl⟩
 .simp at h1; subst h1;unfold I9 at h2;injection h2 with e1 _ _
  injection e1 with e1
  exact absurd e1 (by decide)
 grind [Ht]
theorem bKD (hI:Inv n M B out Z a.tmps w) {P:Program} {t:TypeId} (ht:tJ P t=true) (s:ByteArray) :
 (Instr.range t (.string s)).run P w = .ok (.pointer (some ⟨w.heap.size,0,none⟩)) (w.alloc (.stringIter s 0))/\Pre n out M B Z a.tmps w M (B ++ [(w.heap.size,1,0)]) { Z with h:=Z.h ++ [some [zF s 0]] } (w.alloc (.stringIter s 0)) (.cO CW Z.h.length) (.pointer (some ⟨w.heap.size,0,none⟩)):=by
 have hu:P.underlying t=some .string:=by grind [tJ]
 refine ⟨run_range_string w t s hu,?_⟩;have hG:=hI.aOC (.stringIter s 0) #[Ht s 0] 0 (aAH (QS w _)) [zF s 0] (cu _) (fun j p hj=>by
  match j,hj with
  | 0,hj =>simp at hj; subst hj;exact ⟨Ht s 0,rfl,aA9.2 rfl,fA rfl,rfl,fun b=>dC rfl _ _⟩
  | j+1,hj=>simp at hj)
 exact Pre.AC hG (FW.2 ⟨(w.heap.size,1,0),by rw[hI.heap.1]; simp,fun h=>absurd h (by decide),fun _=>⟨rfl,rfl⟩⟩) rfl
theorem bGZ (hI:Inv n M B out Z a.tmps w) {P:Program} {i:Nat} {v:Value} (ty:TypeId) (hv:Rep M B (.cO CW i) v) {cs:bTA} {s:ByteArray} {p:Int} (hcs:Z.h[i]? = some (some cs)) (hin:Oc cs=some (s,p)) :
 (p<(s.size:Int)->∃ w',(Instr.next v true ty).run P w = .ok (.tuple #[.bool true,.int .i64 p,.int .i32 (ZK s p)]) w'/\Good n out M B Z a.tmps w M B { Z with h:=Z.h.set i (some [zF s (Oe s p)]) } a.tmps w') /\
 (¬ p<(s.size:Int)->(Instr.next v true ty).run P w = .ok (.tuple #[.bool false]) w):=by
 obtain ⟨c,pos,hc,rfl,hrow,rfl⟩:=bDM hI hv hcs hin;have hlt:c.1<w.heap.size:=(yQ.1 hrow).1;refine ⟨fun h => ?_,fun h=>Lib.run_next_end_at w c.1 s pos ty hrow (by omega)⟩;refine ⟨_,Lib.run_next_any_at w c.1 s pos ty hrow (by omega),?_⟩;have hcs1:=aLG hin;subst hcs1;obtain ⟨k1,k2,k3⟩:=hI.setRow (i:=i) (j:=0) (p:=zF s (Oe s (pos:Int))) (v:=Ht s (pos+(Utf8.decode s pos).2)) hcs hc (aAH hrow) (by simp) (aA9.2 rfl) (fA rfl) rfl (fun b=>by rw[dC rfl]; exact hI.cnt b) (fun b _=>dC rfl _ _) (w':=w.iterAt c.1 s (pos+(Utf8.decode s pos).2)) (fun b hb=>Lib.iterAt_other w c.1 b s _ hb) (by rw[aAH (Lib.iterAt_heap w c.1 s pos _ hrow)]; rfl) rfl rfl rfl (Lib.iterAt_size w c.1 s _);exact ⟨k1,dG.refl _ _,k3,fun b _=>by have:=k2 b; rw[dC rfl] at this; exact this⟩
theorem bGA (hI:Inv n M B out Z a.tmps w) (t:TypeId) (b:Bool) {P:Program} :
 (Instr.makeMap t none).run P w = .ok (.map (some w.heap.size)) (w.alloc (.map #[] 0))/\Pre n out M B Z a.tmps w M (B ++ [(w.heap.size,1,0)]) { Z with h:=Z.h ++ [some [nU b []]] } (w.alloc (.map #[] 0)) (.cO 0 Z.h.length) (.map (some w.heap.size)):=by
 refine ⟨by rfl,?_⟩;have hG:=hI.aOC (.map #[] 0) #[I9 #[]] 0 (aAI (QS w _)) [nU b []] (cu _) (fun j p hj=>by
  match j,hj with
  | 0,hj =>simp at hj; subst hj;exact ⟨I9 #[],rfl,a0F.2 ⟨_,rfl,dJ.2 rfl⟩,fA (Ou _ _),rfl,fun b=>dC (Ou _ _) _ _⟩
  | j+1,hj=>simp at hj)
 refine Pre.AC hG (FW.2 ⟨(w.heap.size,1,0),by rw[hI.heap.1]; simp,fun _=>⟨rfl,rfl⟩,fun h=>absurd rfl h⟩) rfl
theorem bFZ (hI:Inv n M B out Z a.tmps w) {P:Program} {t:TypeId} {s:Option IntKind} {z:PV} (ht:BM P t=some (s,z)) {i:Nat} {v u:Value} (hv:Rep M B (.cO 0 i) v) {cs L:bTA} {b:Bool} (hcs:Z.h[i]? = some (some cs)) (hin:zx cs=some (b,L))
 {q:PV} (hu:Rep M B q u) (hq:y8 s q=true) {r:Option PV} (hg:xE s L q=some r) (ok:Bool) :
 ∃ x,(Instr.lookup t v u ok).run P w = .ok x w/\Rep M B (BK ok z r) x/\(BK ok z r).own=false:=by
 obtain ⟨k,e,zv,i',d,h1,h2,h3,h4,h5,rfl,h6⟩:=aNY ht;obtain ⟨c,es,ck,_,rfl,hrow,hL⟩:=aNZ hI hv hcs hin;have hL:aj M B L (uO (qJ es.toList)):=by
  cases b with
  | true=>exact hL.mono (dG.zero _ _)
  | false=>exact hL
 have hk:=aM2 h3 hq hu;have hck:=MapKept.run_checkKey (P:=P) (w:=w) h2 hk es.isEmpty 9999;obtain ⟨rz,oz⟩:=bKR (M:=M) (B:=B) h6;have hzr:(zeroValue e).run P w = .ok zv w:=by simp[zeroValue,typeInfo,h4,h5]
 rcases bC1 h3 (aM4 h3 hq hu) hu 0 hL hg with ⟨rfl,hf⟩ | ⟨p,j,e',rfl,hf,hp⟩
 .have hfk:=aCE (P:=P) (w:=w) h2 hf;cases ok with
  | true=>exact ⟨.tuple #[zv,.bool false],by simp[Instr.lookup,eX h1,WM hrow,hck,hfk,hzr,Result.andThen],sQ.2 ⟨_,rfl,bg.2 ⟨_,_,rfl,rz,bg.2 ⟨_,_,rfl,jo.2 rfl,dJ.2 rfl⟩⟩⟩,rfl⟩
  | false=>exact ⟨zv,by simp[Instr.lookup,eX h1,WM hrow,hck,hfk,hzr,Result.andThen],rz,oz⟩
 .have hfk:=aCE (P:=P) (w:=w) h2 hf;cases ok with
  | true=>exact ⟨.tuple #[e',.bool true],by simp[Instr.lookup,eX h1,WM hrow,hck,hfk,Result.andThen],sQ.2 ⟨_,rfl,bg.2 ⟨_,_,rfl,oL.2 hp,bg.2 ⟨_,_,rfl,jo.2 rfl,dJ.2 rfl⟩⟩⟩,rfl⟩
  | false=>exact ⟨e',by simp[Instr.lookup,eX h1,WM hrow,hck,hfk,Result.andThen],oL.2 hp,qE _⟩
theorem sameBits_self {d:TypeDesc} {u:Value} (h:MapKept.IsKey d u):Instr.sameBits 10000 u u=true:=by cases d<;>cases u<;>simp_all[MapKept.IsKey,Instr.sameBits,a1Q]
theorem aT0 (hI:Inv n M B out Z a.tmps w) {P:Program} {t:TypeId} {s:Option IntKind} {z:PV} (ht:BM P t=some (s,z)) {i:Nat} {v u y:Value} (hv:Rep M B (.cO 0 i) v) {cs L:bTA} {b:Bool} (hcs:Z.h[i]? = some (some cs)) (hin:zx cs=some (b,L))
 {q x:PV} (hu:Rep M B q u) (hq:y8 s q=true) (hy:Rep M B x y) (hg:qo s L q=true) (hfl:b=true->x.flat=true) :
 ∃ w',(Instr.mapUpdate t v u y).run P w = .ok () w'/\Good n out M B Z a.tmps w M B { Z with h:=Z.h.set i (some [nU b (jW s L q x)]) } a.tmps w':=by
 obtain ⟨k,e,zv,i',d,h1,h2,h3,h4,h5,rfl,h6⟩:=aNY ht;obtain ⟨c,es,ck,hc,rfl,hrow,hL⟩:=aNZ hI hv hcs hin;have hk:=aM2 h3 hq hu;have hck:=MapKept.run_checkKey (P:=P) (w:=w) h2 hk false 9999;have hcs1:=aNW hin;subst hcs1;have hlt:c.1<w.heap.size:=(yQ.1 hrow).1;have fin:∀ (es':Array MapEntry) (RY:Nat),aj M (UO b B) (jW s L q x) (uO (qJ es'.toList))->Good n out M B Z a.tmps w M B { Z with h:=Z.h.set i (some [nU b (jW s L q x)]) } a.tmps { w with heap:=w.heap.setIfInBounds c.1 (.map es' RY) }:=fun es' RY hR=>by obtain ⟨g1,g2⟩:=MapKept.heap_set (o' := .map es' RY) hrow;have hr:Rep M B (nU b (jW s L q x)) (I9 es'):=a0F.2 ⟨_,rfl,by omega⟩;obtain ⟨k1,k2,k3⟩:=hI.setRow (i:=i) (j:=0) hcs hc (aAI hrow) (by simp) hr (fA (Ou _ _)) rfl (fun b=>by rw[dC (Ou _ _)]; exact hI.cnt b) (fun b _=>dC (Ou _ _) _ _) (w' := { w with heap:=w.heap.setIfInBounds c.1 (.map es' RY) }) (fun b hb=>g2 b hb) (by rw[aAI (w := { w with heap:=w.heap.setIfInBounds c.1 (.map es' RY) }) g1]; rfl) rfl rfl rfl (by simp);exact ⟨k1,dG.refl _ _,k3,fun b _=>by have:=k2 b; rw[dC (Ou _ _)] at this; exact this⟩
 have hku:q.flat=true:=by
  unfold y8 at hq;split at hq
  .rfl
  .rfl
  .cases hq
 have hu2:Rep M (UO b B) q u:=by
  cases b with
  | true=>exact hu.flat [] hku
  | false=>exact hu
 have hy2:Rep M (UO b B) x y:=by
  cases b with
  | true=>exact hy.flat [] (hfl rfl)
  | false=>exact hy
 rcases bKC h3 (aM4 h3 hq hu) hu2 hy2 hL hg with ⟨hf,hR⟩ | ⟨j,e',hf,he,hke,hR⟩
 .have hfk:=aCE (P:=P) (w:=w) h2 hf;exact ⟨_,by simp[Instr.mapUpdate,eX h1,WM hrow,hck,hfk,MapKept.run_setObj_map _ hrow,Result.andThen]; rfl,fin _ _ (by rw[Array.toList_push]; exact hR ck)⟩
 .have hfk:=aCE (P:=P) (w:=w) h2 hf;rw[qU] at hfk;have hej:es[j]? = some e':=by grind
  have hst:(Instr.keyThatStays (((es[j]?).map (·.key)).getD u) u).run P w = .ok u w:=by rw[hej,JE,Option.getD_some,hke];unfold Instr.keyThatStays;rw[aS (sameBits_self hk)]; rfl
  exact ⟨_,by simp[Instr.mapUpdate,eX h1,WM hrow,hck,hfk,hst,MapKept.run_setObj_map _ hrow,Result.andThen]; rfl,fin _ _ (by rw[Array.toList_modify]; exact hR)⟩
end
section
variable {n:Nat} {out:Nat->Nat} {M:Mem} {B:aN} {Z Z1:ASt} {a:Act} {w:World} {E:AE} {o:Oper} {p:PV}
def aD8 (E:AE) (out:Nat->Nat) (M:Mem) (B:aN) (Z:ASt) (a:Act) (w:World) (o:Oper) (p:PV) (Z1:ASt):Prop :=∃ v w' M' B',((execOp a.eval o).run E.P w = .ok (.value v) w'\/((execOp a.eval o).run E.P w = .ok .skip w'/\o.dst=none))/\Pre E.n out M B Z a.tmps w M' B' Z1 w' p v
theorem vO {P:Program} {ρ:Operand->Value} {o:Oper} {s:Sem Value} {v:Value} {w w':World} (h:execOp ρ o=(do pure (.value (<- s)))) (hr:s.run P w = .ok v w'):(execOp ρ o).run P w = .ok (.value v) w':=by rw[h]; simp[hr]
theorem aS0 (hI:Inv E.n M B out Z a.tmps w) (h:(pop E.P Z.rd o.op).map (fun p=>(p,Z))=some (p,Z1)):aD8 E out M B Z a w o p Z1:=by
 cases hp:pop E.P Z.rd o.op with
 | none=>grind
 | some q =>simp[hp] at h;obtain ⟨rfl,rfl⟩:=h;obtain ⟨v,h1,h2,h3⟩:=bJZ (fun x q hq=>hI.rd x q hq) hp w hI.mem;exact ⟨v,w,M,B,.inl h1,Pre.plain hI h2 (fun b=>dC h3 _ _) (fA h3)⟩
theorem bMW (hI:Inv E.n M B out Z a.tmps w) (hs:bQ E o Z=some (p,Z1)) (hside:ja E o Z):aD8 E out M B Z a w o p Z1:=by
 obtain ⟨dst,op,type,pos,after,guard⟩:=o;cases op with
 | move x =>
  simp only[bQ] at hs;split at hs
  .cases hx:Z.ev x with
   | none=>simp_all
   | some q =>simp[hx] at hs; obtain ⟨rfl,rfl⟩:=hs;exact ⟨_,w,M,B,.inl rfl,Pre.moved hI hx⟩
  .cases hx:Z.rd x with
   | none=>simp_all
   | some q =>simp[hx] at hs; obtain ⟨rfl,rfl⟩:=hs;obtain ⟨h1,h2⟩:=hI.rd x _ hx;exact ⟨_,w,M,B,.inl rfl,Pre.plain hI h1 (fun b=>dC h2 _ _) (fA h2)⟩
 | assign x =>
  simp only[bQ] at hs;cases hx:Z.ev x with
  | none=>simp_all
  | some q =>simp[hx] at hs; obtain ⟨rfl,rfl⟩:=hs;exact ⟨_,w,M,B,.inl rfl,Pre.moved hI hx⟩
 | alloc t =>
  simp only[bQ] at hs;split at hs
  .cases hs
  cases ht:ti E.P t with
  | none=>simp_all
  | some I =>
   simp[ht] at hs; obtain ⟨rfl,rfl⟩:=hs;obtain ⟨vs,h1,h2,h3,h4⟩:=aUZ ht w;have hG:=hI.aOB vs t (JR (dB E.mu dst) t Z.h.length I.zero) (by rw[aVZ,h3]; simp) (fun j p hj=>by
    have base:∀ p,I.zero[j]? = some p->∃ v,vs[j]? = some v/\Rep M (B ++ [(w.heap.size,vs.size,t+1)]) p v/\Tl M w p v/\v.oneCell'=true/\∀ b,bK p v b=0:=fun p hj=>by rw[h3,kJ] at hj;grind [Ig,aBE,a8V]
    rcases aVY hj with h | ⟨rfl,rfl,h0,h2',ht0⟩ | ⟨rfl,rfl,h0⟩
    grind
    .obtain ⟨v,hv,hr,ht,ho,_⟩:=base _ h0;have bCN:vs.size=2:=by rw[h3] at h2'; simp_all
     exact ⟨v,hv,FW.2 ⟨(w.heap.size,vs.size,t+1),by rw[hI.heap.1]; simp,fun h=>absurd h ht0.1,fun _=>aVX ht0.2 (by rw[bCN]) (.inl (Ie.1 hr))⟩,fA rfl,ho,fun b=>dC rfl _ _⟩
    .obtain ⟨v,hv,hr,ht,ho,hw0⟩:=base _ h0;obtain ⟨rfl,_⟩:=KP hr;exact ⟨_,hv,a0G.2 ⟨none,0,rfl,cu _,fun h=>absurd rfl h⟩,⟨(fun _ _ _ _ _ e=>by cases e),(fun l A n cap e ev=>by grind),(fun _ _ _ _ _ _ e _=>by cases e)⟩,ho,fun b=>by simp[bK]⟩)
   refine ⟨_,_,_,_,.inl (vO rfl h1),Pre.AC hG (vZ.2 ⟨(w.heap.size,vs.size,t+1),⟨by have:=hI.heap.1; simp[this],by simp⟩,rfl⟩) rfl⟩
 | box t x =>
  simp only[bQ] at hs;split at hs
  .cases hx:Z.rd x with
   | none=>simp_all
   | some q =>
    cases hf:Nv q with
    | none=>simp_all
    | some e =>
     simp[hx,hf] at hs; obtain ⟨rfl,rfl⟩:=hs;unfold Nv at hf;cases hn:q.newCells with
     | none=>simp_all
     | some cs =>
      rw[hn] at hf;simp only at hf;split at hf
      .rename_i hfl;injection hf with hf
       obtain ⟨r1,r2⟩:=hI.rd x _ hx;obtain ⟨h1,h2⟩:=UU hn r1;have hone:=aOA hn r1;obtain ⟨hG,hfp⟩:=hI.lay (a.eval x).cells t (a.eval x).cells.size (fun v hv=>hone v (by grind));have hM:∀ (j:Nat) u,(a.eval x).cells.toList[j]? = some u->laid M w.heap.size ((a.eval x).cells.toList.take (a.eval x).cells.size) w.heap.size j=some u:=fun j u hu=>by rw[yB (yC hI),aS rfl,lM,aS (by have:=(iJ.1 hu).1; omega)]; exact hu
       have hm:=(UA hI ((a.eval x).cells.toList.take (a.eval x).cells.size)).none;have hloc:Loc (laid M w.heap.size ((a.eval x).cells.toList.take (a.eval x).cells.size)) [] e w.heap.size 0:=by
        have r3:Rep M [] q (a.eval x):=r1.flat [] hfl;obtain ⟨h3,_⟩:=UU hn r3;cases q with
        | agg ds =>subst hf;refine yD.2 (Ei fun j p hj => ?_);obtain ⟨u,hu,hr⟩:=uh h3 hj;exact ⟨u,by rw[qU]; simp_all,hr.mono hm⟩
        | tuple ds=>simp[PV.newCells,PV.one] at hn
        | _ =>subst hf;refine (BJ rfl).2 ⟨a.eval x,hM 0 _ ?_,r3.mono hm⟩;rw[(Du rfl r1).1]; rfl
       exact ⟨.pointer (some ⟨w.heap.size,0,none⟩),_,_,_,.inl (vO (s:=Instr.box t (a.eval x)) rfl (by rfl)),Pre.AC hG (AP.2 ⟨_,_,rfl,hloc⟩) rfl⟩
      .cases hf
  .cases hx:Z.rd x with
   | none=>simp_all
   | some q =>
    cases hn:q.newCells with
    | none=>simp_all
    | some cs =>simp[hx,hn] at hs; obtain ⟨rfl,rfl⟩:=hs;obtain ⟨r1,r2⟩:=hI.rd x _ hx;obtain ⟨h1,h2⟩:=UU hn r1;have hone:=aOA hn r1;have hG:=hI.newObj (a.eval x).cells t cs (by have:=nG h1; simp_all) (fun j p hj=>by grind [uh,fA,dC]);exact ⟨.pointer (some ⟨w.heap.size,0,none⟩),_,_,_,.inl (vO (s:=Instr.box t (a.eval x)) rfl (by rfl)),Pre.AC hG (vZ.2 ⟨(w.heap.size,(a.eval x).cells.size,t+1),⟨by have:=hI.heap.1; simp[this],by simp⟩,rfl⟩) rfl⟩
 | load t x =>
  simp only[bQ] at hs;split at hs
  .rename_i I q hI' hq;split at hs
   .split at hs
    .obtain ⟨v,h1,h2⟩:=a7U hI hI' hq hs;exact ⟨v,w,M,B,.inl (vO rfl h1),h2⟩
    .cases hs
   .obtain ⟨v,h1,h2⟩:=a7U hI hI' hq hs;exact ⟨v,w,M,B,.inl (vO rfl h1),h2⟩
  .cases hs
 | store t x y =>
  simp only[bQ] at hs;split at hs
  .cases hs
  cases hI':ti E.P t with
  | none=>simp_all
  | some I =>
   cases hq:Z.rd x with
   | none=>simp_all
   | some q =>
    cases hp:Z.ev y with
    | none=>simp_all
    | some p' =>
     cases dst with
     | some d=>simp_all
     | none =>
      simp only[hI',hq,hp] at hs;cases hst:yL I q p' (Z.clr y) with
      | none=>simp_all
      | some Z2 =>simp[hst] at hs; obtain ⟨rfl,rfl⟩:=hs;obtain ⟨w',M',B',h1,h2⟩:=bMZ hI hI' hq hp hst;refine ⟨undef,w',M',B',.inr ⟨?_,rfl⟩,h2⟩;show (execOp a.eval ⟨none,.store t x y,type,pos,after,guard⟩).run E.P w=_;simp[execOp,h1]
 | buildSlice t len ps =>
  simp only[bQ] at hs;split at hs
  .rename_i I qs hT hq;split at hs
   .rename_i es he;split at hs
    .rename_i hc;obtain ⟨l1,l2,l3⟩:=bFQ hI hT hq he hc.1 hc.2.1 hc.2.2;split at hs
     .cases hs;obtain ⟨v,w',M',B',h1,h2⟩:=l2;exact ⟨v,w',M',B',.inl (vO rfl h1),h2⟩
     .split at hs
      .split at hs
       .rename_i a5Y;cases hs;obtain ⟨v,w',M',B',h1,h2⟩:=l3 a5Y;exact ⟨v,w',M',B',.inl (vO rfl h1),h2⟩
       .cases hs
      .cases hs;obtain ⟨v,w',M',B',h1,h2⟩:=l1;exact ⟨v,w',M',B',.inl (vO rfl h1),h2⟩
    .cases hs
   .cases hs
  .cases hs
 | makeSlice t l c =>
  simp only[bQ] at hs;split at hs
  .rename_i I k m k' m' hT hl hc;split at hs
   .rename_i hcond;obtain ⟨rfl,h0,h1,hpos,hb⟩:=hcond;obtain ⟨e,i,z,d,hu,iw⟩:=yw hT;have el:=dS.1 (hI.rd l _ hl).1;have ec:=dS.1 (hI.rd c _ hc).1;have hrun:=bGC (w:=w) hu iw k k' h0 h1 hb;have hex:(execOp a.eval ⟨dst,.makeSlice t l c,type,pos,after,guard⟩).run E.P w = .ok (.value (.slice (some ⟨w.heap.size,0,none⟩) m.toNat m.toNat)) (w.alloc (.cells (madeCells z.cells (m.toNat*i.size)) e)):=vO (s:=Instr.makeSlice t (a.eval l) (a.eval c)) rfl (by rw[el,ec]; exact hrun);split at hs
    .cases hs;have hG:=bGB hI iw m.toNat;exact ⟨_,_,_,_,.inl hex,Pre.AC hG (sN.2 ⟨(w.heap.size,(madeCells z.cells (m.toNat*i.size)).size,e+1),m.toNat,⟨by rw[hI.heap.1]; simp,by simp⟩,rfl,cu _,by rw[size_madeCells,iw.size]; simp⟩) rfl⟩
    .split at hs
     .rename_i hz;cases hs;obtain ⟨M',hpre⟩:=bGD hI iw hpos hz.1 hz.2 m.toNat;exact ⟨_,_,M',B,.inl hex,hpre⟩
     .cases hs
   .cases hs
  .cases hs
 | call c =>
  obtain ⟨callee,args,argTypes⟩:=c;simp only[bQ] at hs;split at hs
  .split at hs
   .rename_i x y t u h1 h2;have e1:args = #[x,y]:=by rw[<- qP]; exact h1
    have e2:argTypes = #[t,u]:=by rw[<- qP]; exact h2
    subst e1; subst e2;split at hs
    .rename_i I j off m sz q hT hx hy;split at hs
     .rename_i cs m2 cells hcs hsrc;split at hs
      .rename_i hc;obtain ⟨rfl,hpos,hlen⟩:=hc;cases hs;obtain ⟨e,i,z,d,hu,iw⟩:=yw hT;obtain ⟨w',g1,g2⟩:=aXN (u:=u) (ty:=type) hI hu iw (hI.rd x _ hx).1 hcs hlen (hI.rd y _ hy).1 hsrc hpos;refine ⟨_,w',_,_,.inl ?_,Pre.AC g2 (dS.2 rfl) rfl⟩;show (execOp a.eval ⟨dst,.call ⟨.builtin .copy,#[x,y],#[t,u]⟩,type,pos,after,guard⟩).run E.P w=_;simp[execOp,resolve,invoke,builtin,g1]
      .cases hs
     .cases hs
    .cases hs
   .cases hs
  .split at hs
   .rename_i x t h1 h2;have e1:args = #[x]:=by rw[<- qP]; exact h1
    have e2:argTypes = #[t]:=by rw[<- qP]; exact h2
    subst e1; subst e2;split at hs
    .rename_i I j off m sz hT hx;split at hs
     .rename_i cs hcs;split at hs
      .rename_i hc;obtain ⟨rfl,hlen⟩:=hc;cases hs;obtain ⟨e,i,z,d,hu,iw⟩:=yw hT;obtain ⟨w',g1,g2⟩:=aX8 (ty:=type) hI hu iw (hI.rd x _ hx).1 hcs hlen;refine ⟨.tuple #[],w',_,_,.inl ?_,Pre.AC g2 (sQ.2 ⟨#[],rfl,dJ.2 rfl⟩) rfl⟩;show (execOp a.eval ⟨none,.call ⟨.builtin .clear,#[x],#[t]⟩,type,pos,after,guard⟩).run E.P w=_;simp[execOp,resolve,invoke,builtin,g1]
      .cases hs
     .cases hs
    .rename_i I o' z' hT hx;cases hs;obtain ⟨e,i,z,d,hu,iw⟩:=yw hT;obtain ⟨A,cap,hv,_⟩:=jE.1 (hI.rd x _ hx).1;refine ⟨.tuple #[],w,M,B,.inl ?_,Pre.plain hI (sQ.2 ⟨#[],rfl,dJ.2 rfl⟩) (fun b=>dC rfl _ _) (fA rfl)⟩;show (execOp a.eval ⟨none,.call ⟨.builtin .clear,#[x],#[t]⟩,type,pos,after,guard⟩).run E.P w=_;have hcl:(Builtin.clear_ #[t] type #[a.eval x]).run E.P w = .ok (.tuple #[]) w:=by rw[hv];cases A<;>simp[Builtin.clear_,eX hu]
     simp[execOp,resolve,invoke,builtin,hcl]
    .cases hs
   .cases hs
  .simp only[ja] at hside;split at hs
   .rename_i s x t u h1 h2;split at hs
    .rename_i I ow sz es o' sz' es' hT hs' hx;split at hs
     .rename_i hc;obtain ⟨how,rfl,hc1,hc2,hc3,hc4⟩:=hc;cases hs;rw[h1] at hside;simp only[hs',hx] at hside;have e1:args = #[s,x]:=by rw[<- qP]; exact h1
      have e2:argTypes = #[t,t]:=by rw[<- qP]; exact h2
      subst e1; subst e2;obtain ⟨v,w',M',B',g1,g2⟩:=aV9 (ty:=type) hI hT how hs' hx hc1 hc2 hc3 hc4 hside;refine ⟨v,w',M',B',.inl ?_,g2⟩;show (execOp a.eval ⟨dst,.call ⟨.builtin .append,#[s,x],#[t,t]⟩,type,pos,after,guard⟩).run E.P w=_;simp[execOp,resolve,invoke,builtin,g1]
     .cases hs
    .rename_i I ow sz es b hT hs' hx;split at hs
     .rename_i hc;obtain ⟨how,hc1,hc2,hc3,hc4,hc5⟩:=hc;cases hs;rw[h1] at hside;simp only[hs',hx] at hside;have e1:args = #[s,x]:=by rw[<- qP]; exact h1
      have e2:argTypes = #[t,u]:=by rw[<- qP]; exact h2
      subst e1; subst e2;obtain ⟨v,w',M',B',g1,g2⟩:=aVA (ty:=type) hI hT hc1 hc2 how hs' hx hc3 hc4 hc5 hside;refine ⟨v,w',M',B',.inl ?_,g2⟩;show (execOp a.eval ⟨dst,.call ⟨.builtin .append,#[s,x],#[t,u]⟩,type,pos,after,guard⟩).run E.P w=_;simp[execOp,resolve,invoke,builtin,g1]
     .cases hs
    .rename_i I k sz cs o' sz' es' hT hs' hx;split at hs
     .rename_i hc;obtain ⟨rfl,hc1,hc2,rfl,hc4,hc5⟩:=hc;cases hs;rw[h1] at hside;simp only[hs',hx] at hside;have e1:args = #[s,x]:=by rw[<- qP]; exact h1
      have e2:argTypes = #[t,t]:=by rw[<- qP]; exact h2
      subst e1; subst e2;obtain ⟨v,w',M',B',g1,g2⟩:=aV8 (ty:=type) hI hT hs' hx hc1 hc2 hc4 hc5 hside;refine ⟨v,w',M',B',.inl ?_,g2⟩;show (execOp a.eval ⟨dst,.call ⟨.builtin .append,#[s,x],#[t,t]⟩,type,pos,after,guard⟩).run E.P w=_;simp[execOp,resolve,invoke,builtin,g1]
     .cases hs
    .rename_i I l b hT hs' hx;split at hs
     .rename_i hc;obtain ⟨hc1,hc2,hc3,hc4⟩:=hc;cases hs;rw[h1] at hside;simp only[hs',hx] at hside;have e1:args = #[s,x]:=by rw[<- qP]; exact h1
      have e2:argTypes = #[t,u]:=by rw[<- qP]; exact h2
      subst e1; subst e2;obtain ⟨v,w',M',B',g1,g2⟩:=aV7 (ty:=type) hI hT hc1 hc2 hs' hx hc3 hc4 hside;refine ⟨v,w',M',B',.inl ?_,g2⟩;show (execOp a.eval ⟨dst,.call ⟨.builtin .append,#[s,x],#[t,u]⟩,type,pos,after,guard⟩).run E.P w=_;simp[execOp,resolve,invoke,builtin,g1]
     .cases hs
    .rename_i I l o' sz' es' hT hs' hx;split at hs
     .rename_i c hob;split at hs
      .rename_i hc;obtain ⟨hc1,rfl,hc3,hc4,rfl⟩:=hc;cases hs;rw[h1] at hside;simp only[hs',hx,hob] at hside;have e1:args = #[s,x]:=by rw[<- qP]; exact h1
       have e2:argTypes = #[t,t]:=by rw[<- qP]; exact h2
       subst e1; subst e2;rw[bHO hob] at hx;obtain ⟨v,w',M',B',g1,g2⟩:=aV6 (ty:=type) hI hT hc1 hs' hx hc3 hc4 hside.1 hside.2.1 hside.2.2;refine ⟨v,w',M',B',.inl ?_,g2⟩;show (execOp a.eval ⟨dst,.call ⟨.builtin .append,#[s,x],#[t,t]⟩,type,pos,after,guard⟩).run E.P w=_;simp[execOp,resolve,invoke,builtin,g1]
      .cases hs
     .cases hs
    .cases hs
   .cases hs
  grind [aS0,pop]
 | makeMap t r =>
  simp only[bQ] at hs;split at hs
  .cases hs
  split at hs
  .cases hs;obtain ⟨h1,h2⟩:=bGA (P:=E.P) hI t (dB E.mu dst);exact ⟨_,_,_,_,.inl (vO (s:=Instr.makeMap t none) rfl h1),h2⟩
  .cases hs
 | lookup t m k ok =>
  simp only[bQ] at hs;split at hs
  .rename_i s z i q ht hm hq;split at hs
   .rename_i cs hcs;split at hs
    .rename_i b L hin;split at hs
     .rename_i r hk hg;cases hs;obtain ⟨v,g1,g2,g3⟩:=bFZ hI ht (hI.rd m _ hm).1 hcs hin (hI.rd k _ hq).1 hk hg ok;exact ⟨v,w,M,B,.inl (vO (s:=Instr.lookup t (a.eval m) (a.eval k) ok) rfl g1),Pre.plain hI g2 (fun b=>dC g3 _ _) (fA g3)⟩
     .cases hs
    .cases hs
   .cases hs
  .cases hs
 | mapUpdate t m k x =>
  simp only[bQ] at hs;split at hs
  .rename_i s z i q y ht hm hq hx;split at hs
   .rename_i cs hcs;split at hs
    .rename_i b L hin;split at hs
     .rename_i hk;cases hs;simp only[bF,EP,xW] at hk;obtain ⟨w',g1,g2⟩:=aT0 hI ht (hI.rd m _ hm).1 hcs hin (hI.rd k _ hq).1 hk.1 (hI.rd x _ hx).1 hk.2.1 (fun e=>by simp_all);refine ⟨.tuple #[],w',_,_,.inr ⟨?_,rfl⟩,Pre.AC g2 (sQ.2 ⟨#[],rfl,dJ.2 rfl⟩) rfl⟩;show (execOp a.eval ⟨none,.mapUpdate t m k x,type,pos,after,guard⟩).run E.P w=_;simp[execOp,g1]
     .cases hs
    .cases hs
   .cases hs
  .cases hs
 | insert t m k x =>
  simp only[bQ] at hs;split at hs
  .cases hs
  split at hs
  .rename_i s z i q y ht hm hq hx;split at hs
   .rename_i cs hcs;split at hs
    .rename_i b L hin;split at hs
     .rename_i hk;cases hs;simp only[bF,EP,xW] at hk;obtain ⟨w',g1,g2⟩:=aT0 hI ht (hI.rd m _ hm).1 hcs hin (hI.rd k _ hq).1 hk.1 (hI.rd x _ hx).1 hk.2.1 (fun e=>by simp_all);refine ⟨.tuple #[],w',_,_,.inr ⟨?_,rfl⟩,Pre.AC g2 (sQ.2 ⟨#[],rfl,dJ.2 rfl⟩) rfl⟩;show (execOp a.eval ⟨none,.insert t m k x,type,pos,after,guard⟩).run E.P w=_;simp[execOp,g1]
     .cases hs
    .cases hs
   .cases hs
  .cases hs
 | range t x =>
  simp only[bQ] at hs;split at hs
  .rename_i s ht hx;cases hs;have hv:=iG.1 (hI.rd x _ hx).1;obtain ⟨h1,h2⟩:=bKD (P:=E.P) hI ht s;exact ⟨_,_,_,_,.inl (vO (s:=Instr.range t (a.eval x)) rfl (by rw[hv]; exact h1)),h2⟩
  .cases hs
 | next x b =>
  simp only[bQ] at hs;split at hs
  .rename_i T i hx;split at hs
   .rename_i cs hcs;split at hs
    .rename_i s p hin;split at hs
     .rename_i hT;rw[bF] at hT;have hT1:=nZ hT.1;subst hT1;obtain ⟨g1,g2⟩:=bGZ (P:=E.P) hI type (hI.rd x _ hx).1 hcs hin;split at hs
      .rename_i hp;cases hs;obtain ⟨w',g3,g4⟩:=g1 (ML hp);exact ⟨_,w',_,_,.inl (vO (s:=Instr.next (a.eval x) true type) rfl g3),Pre.AC g4 (sQ.2 ⟨_,rfl,bg.2 ⟨_,_,rfl,jo.2 rfl,bg.2 ⟨_,_,rfl,dS.2 rfl,bg.2 ⟨_,_,rfl,dS.2 rfl,dJ.2 rfl⟩⟩⟩⟩) rfl⟩
      .rename_i hp;cases hs;exact ⟨_,w,M,B,.inl (vO (s:=Instr.next (a.eval x) true type) rfl (g2 (of_decide_eq_false hp))),Pre.plain hI (sQ.2 ⟨_,rfl,bg.2 ⟨_,_,rfl,jo.2 rfl,dJ.2 rfl⟩⟩) (fun b=>dC rfl _ _) (fA rfl)⟩
     .cases hs
    .cases hs
   .cases hs
  .cases hs
 | _=>exact aS0 hI hs
end
end Go.Proofs.YtcdceiloganlnaaGreatDoor
end

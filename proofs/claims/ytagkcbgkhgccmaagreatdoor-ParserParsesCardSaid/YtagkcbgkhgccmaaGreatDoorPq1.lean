/- A part of the proof. -/
import Derived.Lib.ItoaNum
import Derived.WalkKit
import Derived.WalkSpells
import Derived.WalkLawsBesides
import Derived.Lib.Hide
import Derived.Below
import Derived.Laws.BytesString
import Derived.Great.BuildSlice
import Derived.Laws.CopyRow
import Derived.Lib.AppendStr
import Derived.Laws.MakeOwn
import Derived.WideMake
import Derived.Lib.OthersKept
set_option linter.unusedVariables false
set_option linter.defProp false
set_option linter.unusedSimpArgs false
set_option linter.unnecessarySimpa false
set_option linter.unusedSectionVars false
noncomputable section
namespace Go.Proofs.YtagkcbgkhgccmaaGreatDoor
open Go.RowKit
abbrev aV:=@if_neg
abbrev aZ:=@List.length_append
abbrev ah:=@if_pos
abbrev bH:=@Bool.and_eq_true
abbrev bM:=@List.length_map
abbrev bT:=@List.length_cons
abbrev dG:=@Nat.le_refl
abbrev fZ:=@List.getElem_mem
abbrev gJ:=@Go.run_underlying
abbrev iJ:=@List.length_nil
abbrev iY:=@List.getElem?_eq_some_iff
abbrev ja:=@List.all_eq_true
abbrev jq:=@List.getElem?_eq_getElem
abbrev jr:=@List.mem_cons
abbrev lD:=@Nat.le_trans
abbrev lN:=@List.getElem?_map
abbrev nN:=@List.getElem?_take
abbrev nO:=@Go.Sem.run_bind
abbrev pG:=@Bool.not_false
abbrev pI:=@Nat.eq_of_beq_eq_true
abbrev pJ:=@decide_eq_true_eq
abbrev qF:=@List.cons_append
abbrev qG:=@beq_iff_eq
abbrev qf:=@Int.toNat_natCast
abbrev qg:=@List.eq_nil_of_length_eq_zero
abbrev qh:=@List.mem_of_getElem?
abbrev qi:=@Nat.add_mul
abbrev rO:=@List.getElem?_set_ne
abbrev rP:=@Nat.zero_add
abbrev uA:=@Array.toList_inj
abbrev uY:=@Bool.not_true
abbrev vJ:=@List.getElem?_append_left
abbrev vK:=@List.length_take
abbrev vM:=@Go.wpIn_mono
abbrev wM:=@List.map_cons
abbrev wO:=@Nat.mul_le_mul_right
abbrev xR:=@List.length_drop
abbrev xU:=@Go.Result.andThen_ok
abbrev yS:=@List.append_assoc
abbrev yT:=@List.map_append
abbrev yU:=@List.not_mem_nil
abbrev yV:=@cond_false
abbrev yX:=@or_false
abbrev zf:=@Array.getElem?_eq_some_iff
abbrev zg:=@List.mem_iff_getElem?
abbrev zh:=@List.mem_map
abbrev zi:=@List.takeWhile_cons
abbrev zk:=@Nat.lt_or_ge
abbrev zl:=@Go.World.block_lt_of_cell?
abbrev zn:=@beq_eq_false_iff_ne
abbrev BB:=@List.append_nil
abbrev BC:=@List.getElem?_set_self
abbrev BD:=@List.length_singleton
abbrev CO:=@List.all_cons
abbrev CQ:=@if_true
abbrev EN:=@Bool.or_eq_true
abbrev EO:=@List.drop_eq_getElem_cons
abbrev EP:=@Nat.blt_eq
abbrev GH:=@cond_true
abbrev Ij:=@Bool.not_eq_true'
abbrev Ik:=@List.drop_eq_nil_of_le
abbrev Il:=@List.getElem?_append_right
abbrev Io:=@Nat.zero_le
abbrev LC:=@Go.RowKit.Below.heap_alloc
abbrev LD:=@Bool.and_self
abbrev LG:=@Bool.true_and
abbrev LH:=@Go.ByteArray.toList_eq
abbrev LJ:=@List.length_set
abbrev LK:=@List.mem_append
abbrev LM:=@Nat.beq_eq
abbrev LQ:=@Nat.succ_mul
abbrev LU:=@Option.map_eq_some_iff
abbrev LV:=@Go.Sem.run_pure
abbrev Oi:=@List.drop_drop
abbrev Oj:=@List.drop_eq_nil_iff
abbrev Ol:=@List.ext_getElem?
abbrev Om:=@List.take_append_drop
abbrev Oo:=@List.take_succ_eq_append_getElem
abbrev Oq:=@Nat.add_zero
abbrev Ot:=@Option.bind_some
abbrev Ou:=@Go.World.cell?_of_block
abbrev Ov:=@Go.wpIn_seq
abbrev TA:=@Bool.false_eq_true
abbrev TB:=@Bool.false_ne_true
abbrev TC:=@List.flatMap_cons
abbrev TD:=@List.mem_of_mem_take
abbrev TE:=@List.mem_singleton
abbrev TF:=@List.take_of_length_le
abbrev TG:=@Nat.le_of_ble_eq_true
abbrev TJ:=@Nat.lt_of_lt_of_le
abbrev TK:=@Go.heap_alloc_new
abbrev TL:=@Go.mem_ready
abbrev TM:=@of_decide_eq_true
abbrev TN:=@Go.run_sliceBound
abbrev Xn:=@Bool.false_and
abbrev Xo:=@List.any_cons
abbrev Xp:=@List.map_map
abbrev Xq:=@Go.MapKept.run_getObj_map
abbrev Xr:=@Nat.ble_eq_true_of_le
abbrev Xt:=@Option.map_some
abbrev Xu:=@Go.run_firstCells_some
abbrev IZ:=@Array.getElem?_append_left
abbrev I4:=@Bool.eq_iff_iff
abbrev D_:=@Bool.not_eq_true
abbrev Dq:=@List.getElem?_cons_succ
abbrev EI:=@List.mem_append_left
abbrev Du:=@List.mem_append_right
abbrev E_:=@List.mem_range
abbrev a5X:=@Go.MapKept.bytes_beq
abbrev a5Y:=@Go.Oper.upon_value
abbrev H_:=@Option.some.injEq
abbrev Dv:=@beq_self_eq_true
abbrev aFR:=@Array.getD_eq_getD_getElem?
abbrev UF:=@Array.size_replicate
abbrev aFT:=@Bool.or_eq_false_iff
abbrev J8:=@Int.toNat_of_nonneg
abbrev aFV:=@List.getD_eq_getElem?_getD
abbrev Xe:=@List.getElem?_drop
abbrev aFX:=@List.getElem?_toArray
abbrev aFY:=@List.range'_succ
abbrev aFZ:=@List.range_eq_range'
abbrev aF':=@Go.MapKept.run_findKey
abbrev RY:=@Nat.add_sub_cancel_left
abbrev aG1:=@Go.World.cell?_alloc_old
abbrev aG2:=@decide_eq_false_iff_not
abbrev aZ6:=@Array.getElem?_setIfInBounds_ne
abbrev aZ7:=@Array.toList_setIfInBounds
abbrev aZ8:=@Go.Lib.run_firstCells_string
abbrev aZ9:=@Option.bind_eq_some_iff
end Go.Proofs.YtagkcbgkhgccmaaGreatDoor
namespace Go.Proofs.YtagkcbgkhgccmaaGreatDoor
def aEM (m:Int):List (Nat×List Value) := [(0,[Value.int .i64 m]),(1,Lib.pow10Tab.map (Value.int .u64))]
def CW (m:Int) (b o:Nat):Option Value:=((aEM m).lookup b).bind (·[o]?)
structure Mem where
 m:Int
 f:Nat->Nat->Option Value
 g:∀ b o v,CW m b o=some v->f b o=some v
instance:CoeFun Mem (fun _=>Nat->Nat->Option Value):=⟨Mem.f⟩
def Dk (m:Int) (F:Nat->Nat->Option Value):Mem:=⟨m,fun b o=>match CW m b o with | some v=>some v | none=>F b o,fun b o v h=>by simp only[h]⟩
variable {C:Int}
def FQ {F:Nat->Nat->Option Value} (h:∀ b o v,CW C b o=some v->F b o=some v) (b o:Nat):Dk C F b o=F b o:=by
 show (match CW C b o with | some v=>some v | none=>F b o)=F b o;split
 .rename_i v hv; exact (h b o v hv).symm
 .rfl
variable {m:Mem} {b:Nat}
def VZ {f:Nat->Option Value} (h:∀ o,m b o=none):∀ a o v,CW m.m a o=some v->(if a=b then f o else m a o)=some v:=fun a o v e=>by
 have d:a≠b:=fun d=>by subst d; have:=m.g _ _ _ e; rw[h] at this; cases this
 rw[aV d]; exact m.g _ _ _ e
open Go.RowKit
inductive PV where
 | int (k:IntKind) (n:Int)
 | bool (b:Bool)
 | str (s:ByteArray)
 | nilp
 | raw (v:Value)
 | ptr (i off:Nat)
 | dZ (T:TypeId) (i:Nat)
 | cst (e:PV)
 | sl (own:Bool) (sz:Nat) (es:List PV)
 | slh (i off n sz:Nat)
 | dn (l:List UInt8)
 | iI (o:Bool) (n sz:Nat) (cs:List PV)
 | mp (l:List PV)
 | func (fn:Fn) (first caps:List PV)
 | agg (cs:List PV)
 | tuple (cs:List PV)
instance:Inhabited PV:=⟨.nilp⟩
abbrev aS:=List (Nat×Nat×TypeId)
abbrev VL:=(Value->Prop)×(Nat->Nat->Prop)
def jl (M:Mem) (f:Value->Prop):VL:=(f,fun b o=>∃ u,M b o=some u/\f u)
def GU (a:Nat):List VL->Nat->Nat->Prop
 | [],_,_=>True
 | p::c,b,o=>p.2 b o/\GU a c b (o+a)
def Oy (M:Mem):List VL->Nat->Nat->Prop
 | [],_,_=>True
 | p::a,b,o=>(∃ u,M b o=some u/\p.1 u)/\Oy M a b (o+1)
def pK:List VL->List Value->Prop
 | [],[]=>True
 | p::a,v::b=>p.1 v/\pK a b
 | _,_=>False
def PV.size:PV->Nat | .agg cs=>cs.length | _=>1
def PV.isAgg:PV->Bool | .agg _=>true | _=>false
def PV.own:PV->Bool | .sl o _ _=>o | .dn _=>true | .iI o _ _ _=>o | _=>false
def PV.lit:PV->Bool | .int _ _=>true | .bool _=>true | .str _=>true | _=>false
def Nc:Mem:=⟨0,CW 0,fun _ _ _ h=>h⟩
def o7 (l:List UInt8):List PV:=l.map fun x => .int .u8 x.toNat
def PV.un:PV->PV | .sl _ a b => .sl false a b | .dn l => .sl false 1 (o7 l) | .iI _ n a _ => .iI false n a [] | p=>p
def aO:Nat:=1073741824
def EZ:Nat:=1000001
def YY (T:Nat) (c:Nat×Nat×Nat) (v:Value):Prop:=match Nat.beq T EZ with
 | true=>c.2=(1,0)/\v = .pointer (some ⟨c.1,0,none⟩)
 | false=>c.2=(2,T+1)/\(v = .pointer none\/v = .pointer (some ⟨c.1,0,none⟩))
def YX (T:Nat) (c:Nat×Nat×Nat) (v:Value):Prop:=(T=0->c.2=(1,0)/\v = .map (some c.1))/\(T≠0->YY T c v)
variable {u:Value}
theorem a_X {c:Nat×Nat×Nat} (a:Nat.beq b EZ=false) (h:c.2=(2,b+1)) (hv:u = .pointer none\/u = .pointer (some ⟨c.1,0,none⟩)):YY b c u:=by grind [YY]
def Iw:Nat:=4242
mutual
def bD (M:Mem) (B:aS):PV->VL
 | .int k n=>jl M fun v=>v = .int k n
 | .bool b=>jl M fun v=>v = .bool b
 | .str s=>jl M fun v=>v = .string s
 | .nilp=>jl M fun v=>v = .pointer none
 | .raw u=>jl M fun v=>v=u/\u.oneCell'=true
 | .ptr i a=>jl M fun v=>∃ c,(B[i]? = some c/\c.2.2≠0)/\v = .pointer (some ⟨c.1,a,none⟩)
 | .dZ T i=>jl M fun v=>∃ c,B[i]? = some c/\YX T c v
 | .cst e=>jl M fun v=>∃ b a,v = .pointer (some ⟨b,a,none⟩)/\(bD M [] e).2 b a
 | .sl _ h g=>jl M fun v=>∃ A d,v = .slice A g.length d/\g.length<=d/\(∀ e,e∈g->e.size=h)/\(h=0->g = []/\A=none/\d=0)/\(g ≠ []->∃ b a,A=some ⟨b,a,none⟩/\GU h (ig M [] g) b a)
 | .dn l=>jl M fun v=>∃ A d,v = .slice A l.length d/\l.length<=d/\(l ≠ []->∃ b a,A=some ⟨b,a,none⟩/\∀ (j:Nat) x,l[j]? = some x->M b (a+j)=some (.int .u8 (x.toNat:Int)))
 | .iI _ n _ _=>jl M fun v=>∃ A d,v = .slice A n d/\n<=d
 | .mp l=>jl M fun v=>∃ f,v = .func (.yield Iw) f #[]/\pK (ig M [] l) f.toList
 | .slh i a n h=>jl M fun v=>∃ c d,(B[i]? = some c/\c.2.2≠0)/\v = .slice (some ⟨c.1,a,none⟩) n d/\n<=d/\a+d*h<=c.2.1
 | .func r first m=>jl M fun v=>∃ f c,v = .func r f c/\pK (ig M B first) f.toList/\pK (ig M B m) c.toList
 | .agg q=>(fun v=>∃ p,v = .agg p/\pK (ig M B q) p.toList,fun b o=>Oy M (ig M B q) b o)
 | .tuple q=>(fun v=>∃ p,v = .tuple p/\pK (ig M B q) p.toList,fun _ _=>False)
def ig (M:Mem) (B:aS):List PV->List VL
 | [] => []
 | p::a=>bD M B p::ig M B a
end
def eU (M:Mem) (B:aS) (p:PV) (v:Value):Prop:=(bD M B p).1 v
def Loc (M:Mem) (B:aS) (p:PV) (b o:Nat):Prop:=(bD M B p).2 b o
def au (M:Mem) (B:aS) (a:List PV) (b:List Value):Prop:=pK (ig M B a) b
def n_ (M:Mem) (B:aS) (a:List PV) (b o:Nat):Prop:=Oy M (ig M B a) b o
def lS (M:Mem) (B:aS) (a:Nat) (c:List PV) (b o:Nat):Prop:=GU a (ig M B c) b o
section
variable {M:Mem} {B:aS}
theorem fH {k:IntKind}:eU M B (.int k C) u↔u = .int k C:=by rfl
variable {g:Bool}
def kw:eU M B (.bool g) u↔u = .bool g:=by rfl
def jS {s:ByteArray}:eU M B (.str s) u↔u = .string s:=by rfl
def KE:eU M B .nilp u↔u = .pointer none:=by rfl
def Dz {v:Value}:eU M B (.raw u) v↔v=u/\u.oneCell'=true:=by rfl
variable {j:Nat}
def xH:eU M B (.ptr b j) u↔∃ c,(B[b]? = some c/\c.2.2≠0)/\u = .pointer (some ⟨c.1,j,none⟩):=by rfl
def IG {T:TypeId}:eU M B (.dZ T b) u↔∃ c,B[b]? = some c/\YX T c u:=by rfl
variable {x:PV}
def Bo:eU M B (.cst x) u↔∃ b a,u = .pointer (some ⟨b,a,none⟩)/\Loc M [] x b a:=by rfl
variable {l:List PV}
def jo:eU M B (.sl g b l) u↔∃ A c,u = .slice A l.length c/\l.length<=c/\(∀ e,e∈l->e.size=b)/\(b=0->l = []/\A=none/\c=0)/\(l ≠ []->∃ a d,A=some ⟨a,d,none⟩/\lS M [] b l a d):=by rfl
variable {X:Nat}
def uT {d:Nat}:eU M B (.slh b j X d) u↔∃ c a,(B[b]? = some c/\c.2.2≠0)/\u = .slice (some ⟨c.1,j,none⟩) X a/\X<=a/\j+a*d<=c.2.1:=by rfl
def II:eU M B (.iI g b j l) u↔∃ A a,u = .slice A b a/\b<=a:=by rfl
variable {d1:List UInt8}
def Oe:eU M B (.dn d1) u↔∃ A a,u = .slice A d1.length a/\d1.length<=a/\(d1 ≠ []->∃ b c,A=some ⟨b,c,none⟩/\∀ (j:Nat) x,d1[j]? = some x->M b (c+j)=some (.int .u8 (x.toNat:Int))):=by rfl
def aVW:eU M B (.mp l) u↔∃ f,u = .func (.yield Iw) f #[]/\au M [] l f.toList:=by rfl
def Am {a:Fn} {first:List PV}:eU M B (.func a first l) u↔∃ f c,u = .func a f c/\au M B first f.toList/\au M B l c.toList:=by rfl
def qU:eU M B (.agg l) u↔∃ a,u = .agg a/\au M B l a.toList:=by rfl
def uU:eU M B (.tuple l) u↔∃ a,u = .tuple a/\au M B l a.toList:=by rfl
variable {S:List Value}
def fA:au M B [] S↔S = []:=by cases S<;>simp[au,ig,pK]
def dO:au M B (x::l) S↔∃ u a,S=u::a/\eU M B x u/\au M B l a:=by
 cases S with
 | nil=>simp[au,ig,pK]
 | cons u a=>exact ⟨fun h=>⟨u,a,rfl,h.1,h.2⟩,fun ⟨_,_,e,b,c⟩=>by cases e; exact ⟨b,c⟩⟩
def b1I:n_ M B [] b j:=by simp[n_,ig,Oy]
def a7J:n_ M B (x::l) b j↔(∃ u,M b j=some u/\eU M B x u)/\n_ M B l b (j+1):=by rfl
def a3I:lS M B b [] j X:=by simp[lS,ig,GU]
def RH:lS M B b (x::l) j X↔Loc M B x j X/\lS M B b l j (X+b):=by rfl
def zI:Loc M B (.agg l) b j↔n_ M B l b j:=by rfl
def Aa (h:x.isAgg=false) (a:∀ c,x ≠ .tuple c):Loc M B x b j↔∃ u,M b j=some u/\eU M B x u:=by cases x<;>first | exact absurd rfl (a _) | (simp[PV.isAgg] at h; done) | simp[Loc,eU,bD,jl]
def a3H:Loc M B (.tuple l) b j↔False:=by rfl
theorem X8:eU M B (.sl false 1 (o7 d1)) u↔eU M B (.dn d1) u:=by
 rw[jo,Oe];have d:(o7 d1).length=d1.length:=by simp[o7]
 have f:o7 d1 ≠ []↔d1 ≠ []:=by grind
 have g:∀ e,e∈o7 d1->e.size=1:=fun e he=>by obtain ⟨x,_,rfl⟩:=zh.1 he; rfl
 have i:∀ b c,lS M [] 1 (o7 d1) b c↔∀ (j:Nat) x,d1[j]? = some x->M b (c+j)=some (.int .u8 (x.toNat:Int)):=by
  intro b c;have one:∀ (x:UInt8) (b o:Nat),Loc M [] (.int .u8 (x.toNat:Int)) b o↔M b o=some (.int .u8 (x.toNat:Int)):=fun x b o=>by simp[Loc,bD,jl]
  unfold o7;clear d f g;induction d1 generalizing c with
  | nil=>simp[lS,ig,GU]
  | cons a d1 m =>
   refine Iff.trans (by rfl) (Iff.trans (and_congr (one a b c) (m (c+1))) ?_);constructor;grind
   .intro h;exact ⟨h 0 a rfl,fun j x n=>by have:=h (j+1) x (by grind); rwa [show c+(j+1)=c+1+j by omega] at this⟩
 simp_all
def qB:eU M B x.un u↔eU M B x u:=by
 cases x with
 | dn l=>exact X8
 | iI o n a b=>rfl
 | _=>simp[PV.un,jo]
theorem aBD:Loc M B x.un b j↔Loc M B x b j:=by
 cases x with
 | dn l =>rw[Aa rfl (fun a h=>by cases h),Aa rfl (fun a h=>by cases h)];simp only[qB]
 | iI j n c a =>rfl
 | _=>simp[PV.un,Loc,bD]
def aFG (p:PV):p.un.size=p.size:=by cases p<;>rfl
theorem rH (p:PV):p.un.own=false:=by cases p<;>rfl
theorem b_X (p:PV):p.un.un=p.un:=by cases p<;>rfl
theorem ou:∀ {b:List PV} {a:List Value},au M B b a->b.length=a.length
 | [],a,h=>by rw[fA] at h; simp[h]
 | p::b,a,h=>by obtain ⟨u,d,rfl,_,c⟩:=dO.1 h;simp[ou c]
theorem wB:∀ {a:List PV} {b:List Value},au M B a b->∀ {j:Nat} {p:PV},a[j]? = some p->∃ u,b[j]? = some u/\eU M B p u
 | [],_,_,j,p,h=>by simp at h
 | q::a,b,c,j,p,h=>by
  obtain ⟨u,l,rfl,d,e⟩:=dO.1 c;cases j with
  | zero=>simp at h; subst h; exact ⟨u,by simp,d⟩
  | succ j=>obtain ⟨f,g,i⟩:=wB e h; exact ⟨f,by simpa using g,i⟩
theorem KG:∀ {a:List PV} {c:List Value},a.length=c.length->(∀ (j:Nat) p u,a[j]? = some p->c[j]? = some u->eU M B p u)->au M B a c
 | [],[],_,_=>fA.2 rfl
 | p::a,u::d,b,h=>dO.2 ⟨u,d,rfl,h 0 p u rfl rfl,KG (by grind) fun j q v hq hv=>h (j+1) q v (by grind) (by grind)⟩
 | [],_::_,b,_=>by simp at b
 | _::_,[],b,_=>by simp at b
theorem Ph:∀ {a:List PV} {b o:Nat},n_ M B a b o->∀ {j:Nat} {p:PV},a[j]? = some p->∃ u,M b (o+j)=some u/\eU M B p u
 | [],_,_,_,j,p,h=>by simp at h
 | q::a,b,o,c,j,p,h=>by
  obtain ⟨d,e⟩:=a7J.1 c;cases j with
  | zero=>simp at h; subst h; simpa using d
  | succ j=>obtain ⟨u,f,g⟩:=Ph e h; exact ⟨u,by rw[<- f]; congr 1; omega,g⟩
theorem Gm:∀ {ps:List PV} {b o:Nat},(∀ (j:Nat) p,ps[j]? = some p->∃ u,M b (o+j)=some u/\eU M B p u)->n_ M B ps b o
 | [],_,_,_=>b1I
 | p::ps,b,o,h=>a7J.2 ⟨by simpa using h 0 p rfl,Gm fun j q hq=>by obtain ⟨u,a,c⟩:=h (j+1) q (by grind); grind⟩
theorem FN:∀ {c:List PV} {a b o:Nat},lS M B a c b o->∀ {j:Nat} {p:PV},c[j]? = some p->Loc M B p b (o+j*a)
 | [],_,_,_,_,j,p,h=>by simp at h
 | q::c,a,b,o,d,j,p,h=>by
  obtain ⟨e,f⟩:=RH.1 d;cases j with
  | zero=>simp at h; subst h; simpa using e
  | succ j=>have:=FN f h; rwa [show o+(j+1)*a=o+a+j*a by rw[LQ]; omega]
theorem Ac:∀ {c:List PV} {a b o:Nat},(∀ (j:Nat) p,c[j]? = some p->Loc M B p b (o+j*a))->lS M B a c b o
 | [],_,_,_,_=>a3I
 | p::c,a,b,o,h=>RH.2 ⟨by simpa using h 0 p rfl,Ac fun j q hq=>by have:=h (j+1) q (by grind); rwa [show o+(j+1)*a=o+a+j*a by rw[LQ]; omega] at this⟩
theorem aSX {c:List PV} (f:lS M B b l j X) (d:lS M B b c j (X+l.length*b)):lS M B b (l ++ c) j X :=
 Ac fun a p e=>by
  rcases zk a l.length with h | h
  grind [FN]
  .have:=FN d (by rwa [Il h] at e);rwa [show X+l.length*b+(a-l.length)*b=X+a*b by rw[Nat.add_assoc,<- qi]; grind] at this
end
structure eH (M M':Mem) (B B':aS):Prop where
 mem:∀ (b o:Nat) (v:Value),M b o=some v->M' b o=some v
 blk:∀ (i:Nat) (c:Nat×Nat×TypeId),B[i]? = some c->B'[i]? = some c
def eH.refl (M:Mem) (B:aS):eH M M B B:=⟨fun _ _ _ h=>h,fun _ _ h=>h⟩
variable {b0:Mem} {K:aS}
def eH.none {B:aS} (h:eH m b0 B K):eH m b0 [] []:=⟨h.mem,fun _ _ e=>e⟩
def eH.zero (M:Mem) (B:aS):eH M M [] B:=⟨fun _ _ _ e=>e,fun i c e=>by simp at e⟩
variable {c8 c9:aS}
def eH.trans {M':Mem} (h:eH m M' K c8) (k:eH M' b0 c8 c9):eH m b0 K c9:=⟨fun b o v e=>k.mem b o v (h.mem b o v e),fun i c e=>k.blk i c (h.blk i c e)⟩
section
variable {M M':Mem} {B B':aS}
mutual
theorem Kz {B B':aS} (h:eH M M' B B'):∀ p:PV,(∀ v,(bD M B p).1 v->(bD M' B' p).1 v)/\(∀ b o,(bD M B p).2 b o->(bD M' B' p).2 b o)
 | .int k n=>by simp only[bD,jl]; exact ⟨fun _ h=>h,fun b o ⟨u,m,e⟩=>⟨u,h.mem _ _ _ m,e⟩⟩
 | .bool _=>by simp only[bD,jl]; exact ⟨fun _ h=>h,fun b o ⟨u,m,e⟩=>⟨u,h.mem _ _ _ m,e⟩⟩
 | .str _=>by simp only[bD,jl]; exact ⟨fun _ h=>h,fun b o ⟨u,m,e⟩=>⟨u,h.mem _ _ _ m,e⟩⟩
 | .nilp=>by simp only[bD,jl]; exact ⟨fun _ h=>h,fun b o ⟨u,m,e⟩=>⟨u,h.mem _ _ _ m,e⟩⟩
 | .raw _=>by simp only[bD,jl]; exact ⟨fun _ h=>h,fun b o ⟨u,m,e⟩=>⟨u,h.mem _ _ _ m,e⟩⟩
 | .ptr i a=>by
  have g:∀ v,(∃ c,(B[i]? = some c/\c.2.2≠0)/\v=Value.pointer (some ⟨c.1,a,none⟩))->∃ c,(B'[i]? = some c/\c.2.2≠0)/\v=Value.pointer (some ⟨c.1,a,none⟩):=fun v ⟨c,q,e⟩=>⟨c,⟨h.blk _ _ q.1,q.2⟩,e⟩
  simp only[bD,jl]; exact ⟨g,fun b o ⟨u,m,e⟩=>⟨u,h.mem _ _ _ m,g u e⟩⟩
 | .dZ T i=>by
  have g:∀ v,(∃ c,B[i]? = some c/\YX T c v)->∃ c,B'[i]? = some c/\YX T c v:=fun v ⟨c,q,e⟩=>⟨c,h.blk _ _ q,e⟩
  simp only[bD,jl]; exact ⟨g,fun b o ⟨u,m,e⟩=>⟨u,h.mem _ _ _ m,g u e⟩⟩
 | .cst e=>by
  have y:=(Kz h.none e).2;have g:∀ v,(∃ b a,v=Value.pointer (some ⟨b,a,none⟩)/\(bD M [] e).2 b a)->(∃ b a,v=Value.pointer (some ⟨b,a,none⟩)/\(bD M' [] e).2 b a):=fun v ⟨b,a,e,D⟩=>⟨b,a,e,y _ _ D⟩
  simp only[bD,jl]; exact ⟨g,fun b o ⟨u,m,e⟩=>⟨u,h.mem _ _ _ m,g u e⟩⟩
 | .sl _ w r=>by
  have y:=(Fj h.none r).2.1;have g:∀ v,(∃ A d,v=Value.slice A r.length d/\r.length<=d/\(∀ e,e∈r->e.size=w)/\(w=0->r = []/\A=none/\d=0)/\(r ≠ []->∃ b a,A=some ⟨b,a,none⟩/\GU w (ig M [] r) b a)) ->
   (∃ A d,v=Value.slice A r.length d/\r.length<=d/\(∀ e,e∈r->e.size=w)/\(w=0->r = []/\A=none/\d=0)/\(r ≠ []->∃ b a,A=some ⟨b,a,none⟩/\GU w (ig M' [] r) b a)):=fun v ⟨A,d,e,C,E,K,L⟩=>⟨A,d,e,C,E,K,fun q=>by obtain ⟨b,a,G,D⟩:=L q;exact ⟨b,a,G,y w b a D⟩⟩
  simp only[bD,jl]; exact ⟨g,fun b o ⟨u,m,e⟩=>⟨u,h.mem _ _ _ m,g u e⟩⟩
 | .slh i a n w=>by
  have g:∀ v,(∃ c d,(B[i]? = some c/\c.2.2≠0)/\v=Value.slice (some ⟨c.1,a,none⟩) n d/\n<=d/\a+d*w<=c.2.1)->(∃ c d,(B'[i]? = some c/\c.2.2≠0)/\v=Value.slice (some ⟨c.1,a,none⟩) n d/\n<=d/\a+d*w<=c.2.1):=fun v ⟨c,d,q,e⟩=>⟨c,d,⟨h.blk _ _ q.1,q.2⟩,e⟩
  simp only[bD,jl]; exact ⟨g,fun b o ⟨u,m,e⟩=>⟨u,h.mem _ _ _ m,g u e⟩⟩
 | .iI o n z F=>by simp only[bD,jl]; exact ⟨fun _ h=>h,fun b o ⟨u,m,e⟩=>⟨u,h.mem _ _ _ m,e⟩⟩
 | .mp l=>by
  have H:=(Fj h.none l).1;have g:∀ v,(∃ f,v=Value.func (.yield Iw) f #[]/\pK (ig M [] l) f.toList)->(∃ f,v=Value.func (.yield Iw) f #[]/\pK (ig M' [] l) f.toList):=fun v ⟨f,e,C⟩=>⟨f,e,H _ C⟩
  simp only[bD,jl]; exact ⟨g,fun b o ⟨u,m,e⟩=>⟨u,h.mem _ _ _ m,g u e⟩⟩
 | .dn l=>by
  have g:∀ v,(∃ A d,v=Value.slice A l.length d/\l.length<=d/\(l ≠ []->∃ b a,A=some ⟨b,a,none⟩/\∀ (j:Nat) x,l[j]? = some x->M b (a+j)=some (.int .u8 (x.toNat:Int)))) ->
   (∃ A d,v=Value.slice A l.length d/\l.length<=d/\(l ≠ []->∃ b a,A=some ⟨b,a,none⟩/\∀ (j:Nat) x,l[j]? = some x->M' b (a+j)=some (.int .u8 (x.toNat:Int)))):=fun v ⟨A,d,e,C,E⟩=>⟨A,d,e,C,fun q=>by obtain ⟨b,a,G,D⟩:=E q;exact ⟨b,a,G,fun j x N=>h.mem _ _ _ (D j x N)⟩⟩
  simp only[bD,jl]; exact ⟨g,fun b o ⟨u,m,e⟩=>⟨u,h.mem _ _ _ m,g u e⟩⟩
 | .func J first t=>by
  have H:=(Fj h first).1;have O:=(Fj h t).1;have g:∀ v,(∃ f c,v=Value.func J f c/\pK (ig M B first) f.toList/\pK (ig M B t) c.toList)->(∃ f c,v=Value.func J f c/\pK (ig M' B' first) f.toList/\pK (ig M' B' t) c.toList):=fun v ⟨f,c,e,C,E⟩=>⟨f,c,e,H _ C,O _ E⟩
  simp only[bD,jl]; exact ⟨g,fun b o ⟨u,m,e⟩=>⟨u,h.mem _ _ _ m,g u e⟩⟩
 | .agg F=>by have y:=Fj h F;simp only[bD]; exact ⟨fun v ⟨I,e,hv⟩=>⟨I,e,y.1 _ hv⟩,fun b o q=>y.2.2 b o q⟩
 | .tuple F=>by have y:=Fj h F;simp only[bD]; exact ⟨fun v ⟨I,e,hv⟩=>⟨I,e,y.1 _ hv⟩,fun b o q=>q⟩
theorem Fj {B B':aS} (h:eH M M' B B'):∀ a:List PV,(∀ c,pK (ig M B a) c->pK (ig M' B' a) c)/\(∀ d b o,GU d (ig M B a) b o->GU d (ig M' B' a) b o)/\(∀ b o,Oy M (ig M B a) b o->Oy M' (ig M' B' a) b o)
 | []=>by simp only[ig]; exact ⟨fun c h=>by cases c<;>simpa[pK] using h,fun _ _ _ _=>trivial,fun _ _ _=>trivial⟩
 | p::a=>by
  have e:=Kz h p;have f:=Fj h a;simp only[ig];exact ⟨fun c hv=>by
   cases c with
   | nil=>simp[pK] at hv
   | cons v c=>exact ⟨e.1 _ hv.1,f.1 _ hv.2⟩,fun d b o g=>⟨e.2 _ _ g.1,f.2.1 _ _ _ g.2⟩,fun b o ⟨⟨u,i,j⟩,l⟩=>⟨⟨u,h.mem _ _ _ i,e.1 _ j⟩,f.2.2 _ _ l⟩⟩
end
variable {x:PV}
def eU.mono (h:eH M M' B B') (a:eU M B x u):eU M' B' x u:=(Kz h x).1 u a
variable {j:Nat}
def Loc.mono (h:eH M M' B B') (a:Loc M B x b j):Loc M' B' x b j:=(Kz h x).2 b j a
variable {l:List PV}
def au.mono (h:eH M M' B B') {a:List Value} (b:au M B l a):au M' B' l a:=(Fj h l).1 a b
def lS.mono (h:eH M M' B B') {o:Nat} (a:lS M B b l j o):lS M' B' b l j o:=(Fj h l).2.1 b j o a
def n_.mono (h:eH M M' B B') (a:n_ M B l b j):n_ M' B' l b j:=(Fj h l).2.2 b j a
end
mutual
def PV.flat:PV->Bool
 | .ptr _ _=>false
 | .dZ _ _=>false
 | .slh _ _ _ _=>false
 | .func _ f c=>PV.flats f&&PV.flats c
 | .agg a=>PV.flats a
 | .tuple a=>PV.flats a
 | _=>true
def PV.flats:List PV->Bool
 | []=>true
 | p::a=>p.flat&&PV.flats a
end
section
variable {M:Mem} {B:aS}
mutual
theorem aWZ (a:aS):∀ p:PV,p.flat=true->bD M B p=bD M a p
 | .int _ _,_=>by simp only[bD]
 | .bool _,_=>by simp only[bD]
 | .str _,_=>by simp only[bD]
 | .nilp,_=>by simp only[bD]
 | .raw _,_=>by simp only[bD]
 | .ptr _ _,h=>by simp[PV.flat] at h
 | .dZ _ _,h=>by simp[PV.flat] at h
 | .slh _ _ _ _,h=>by simp[PV.flat] at h
 | .dn _,_=>by simp only[bD]
 | .iI _ _ _ _,_=>by simp only[bD]
 | .mp _,_=>by simp only[bD]
 | .cst e,_=>by simp only[bD]
 | .sl _ _ d,_=>by simp only[bD]
 | .func _ f c,h=>by simp only[PV.flat,bH] at h;simp only[bD,Rx a f h.1,Rx a c h.2]
 | .agg b,h=>by simp only[bD,Rx a b (by simpa[PV.flat] using h)]
 | .tuple b,h=>by simp only[bD,Rx a b (by simpa[PV.flat] using h)]
theorem Rx (b:aS):∀ a:List PV,PV.flats a=true->ig M B a=ig M b a
 | [],_=>by simp only[ig]
 | p::a,h=>by simp only[PV.flats,bH] at h;simp only[ig,aWZ b p h.1,Rx b a h.2]
end
theorem eU.flat (a:aS) {p:PV} (b:p.flat=true) (h:eU M B p u):eU M a p u:=by grind [eU,aWZ]
theorem au.flat (c:aS) {a:List PV} {b:List Value} (d:PV.flats a=true) (h:au M B a b):au M c a b:=by grind [au,Rx]
end
abbrev gV:=List (Nat×PV)
abbrev aH:=List (Option (List PV))
def cu (k:Nat):gV->Option PV
 | []=>none
 | (j,p)::l=>if j=k then some p else cu k l
def iy (k:Nat) (p:PV):gV->gV
 | [] => [(k,p)]
 | (j,q)::l=>if j=k then (k,p)::l else if k<j then (k,p)::(j,q)::l else (j,q)::iy k p l
structure ASt where
 s:gV
 h:aH
def bY (p:PV) (v:Value) (b:Nat):Nat:=if p.own then (match v with | .slice (some a) _ _=>if a.block=b then 1 else 0 | _=>0) else 0
def jR:gV->Array Value->Nat->Nat
 | [],_,_=>0
 | (k,p)::l,t,b=>bY p (t.getD k undef) b+jR l t b
def fG:List PV->List Value->Nat->Nat
 | p::a,v::c,b=>bY p v b+fG a c b
 | _,_,_=>0
def vW (a:List MapEntry):List Value:=a.flatMap fun e => [e.key,e.val]
def Eh:List UInt8->List UInt8->Bool
 | [],[]=>false
 | [],_::_=>true
 | _::_,[]=>false
 | a::c,b::bs=>Nat.blt a.toNat b.toNat||(Nat.beq a.toNat b.toNat&&Eh c bs)
def Vs:Value->Value->Bool
 | .string a,.string b=>Eh a.data.toList b.data.toList
 | _,_=>false
def uJ:Value->Bool | .string _=>true | _=>false
def IQ:Value->Value->Bool
 | .string a,.string b=>a.data.toList==b.data.toList
 | _,_=>false
def ui (e:MapEntry):List MapEntry->List MapEntry
 | [] => [e]
 | x::l=>if Vs e.key x.key then e::x::l else x::ui e l
def JA (l:List MapEntry) (e:MapEntry):List MapEntry :=if (uJ e.key&&l.all fun x=>uJ x.key) && !(l.any fun x=>IQ e.key x.key) then ui e l else l ++ [e]
def rV (a:List MapEntry):List MapEntry:=a.foldl JA []
def Ji (a:Array MapEntry):Value := .func (.yield Iw) (vW (rV a.toList)).toArray #[]
def Y0:Nat:=4243
def JX (s:ByteArray) (a:Nat):Value := .func (.yield Y0) #[.string s,.int .i64 a] #[]
def rowAt (w:World) (b:Nat):Option (Array Value×Nat):=match w.heap[b]? with
 | some (.cells c d (0,0))=>some (c,d+1)
 | some (.map e _)=>some (#[Ji e],0)
 | some (.stringIter s a)=>some (#[JX s a],0)
 | _=>none
variable {y b9:World}
def OB (h:b9.heap[b]? = y.heap[b]?):rowAt b9 b=rowAt y b:=by unfold rowAt; rw[h]
variable {O:Array Value} {e:TypeId}
theorem E8 (h:y.heap[b]? = some (.cells O e (0,0))):rowAt y b=some (O,e+1):=by grind [rowAt]
variable {j:Nat}
def aD' {w:World} {a:Array MapEntry} (h:w.heap[b]? = some (.map a j)):rowAt w b=some (#[Ji a],0):=by unfold rowAt; rw[h]
theorem Ff (h:rowAt y b=some (O,j)) (c:j≠0):∃ a,j=a+1/\y.heap[b]? = some (.cells O a (0,0)):=by grind [rowAt]
variable {Q:ByteArray}
def aDZ (h:y.heap[b]? = some (.stringIter Q j)):rowAt y b=some (#[JX Q j],0):=by unfold rowAt; rw[h]
theorem aW9 (h:rowAt y b=some (O,0)):(∃ c d,y.heap[b]? = some (.map c d)/\O = #[Ji c])\/∃ s a,y.heap[b]? = some (.stringIter s a)/\O = #[JX s a]:=by grind [rowAt]
def iO (w:World) (b:Nat):List Value:=match rowAt w b with | some (c,_)=>c.toList | none => []
def aT (w:World):aH->aS->Nat->Nat
 | some a::h,c::B,b=>(if c.1=b then 1 else 0)+fG a (iO w c.1) b+aT w h B b
 | none::h,_::B,b=>aT w h B b
 | _,_,_=>0
def TlS (M:Mem) (w:World) (p:PV) (v:Value):Prop :=∀ c d A n b,p = .sl true c d->v = .slice A n b->(A=none->b=0)/\(c=0->A=none)/\∀ a,A=some a->∃ e f,w.heap[a.block]? = some (.cells e f (0,0))/\a.off+b*c<=e.size/\(∀ o,a.off+d.length*c<=o->M a.block o=none)/\a.spot=none/\a.off=0
def ML:TypeId:=5
def TlT (M:Mem) (w:World) (p:PV) (v:Value):Prop :=∀ l A n b,p = .dn l->v = .slice A n b->(A=none->b=0)/\∀ a,A=some a->∃ c,w.heap[a.block]? = some (.cells c ML (0,0))/\c.size=b/\b<=maxLen/\(∀ o,l.length<=o->M a.block o=none)/\a.spot=none/\a.off=0
def TlP (M:Mem) (w:World) (p:PV) (v:Value):Prop :=∀ n c d A m b,p = .iI true n c d->v = .slice A m b->(d.length=n*c/\0<c)/\(A=none->b=0)/\∀ a,A=some a->∃ e f,w.heap[a.block]? = some (.cells e f (0,0))/\b*c<=e.size/\(∀ (j:Nat) p,d[j]? = some p->p.lit=true/\∃ u,e[j]? = some u/\eU Nc [] p u/\u.oneCell'=true)/\(∀ o,M a.block o=none)/\a.spot=none/\a.off=0
structure Tl (M:Mem) (w:World) (p:PV) (v:Value):Prop where
 s:TlS M w p v
 t:TlT M w p v
 p:TlP M w p v
variable {x:PV}
def SK (b:∀ l,x ≠ .dn l) (h:TlS m y x u) (hq:∀ n z a,x ≠ .iI true n z a:=by intro _ _ _ h; cases h):Tl m y x u:=⟨h,fun l _ _ _ e _=>absurd e (b l),fun n z a _ _ _ e _=>absurd e (hq n z a)⟩
variable {l:List PV}
def aEO (h:TlP m y (.iI true b j l) u):Tl m y (.iI true b j l) u:=⟨(fun _ _ _ _ _ e _=>by cases e),(fun _ _ _ _ e _=>by cases e),h⟩
def a6L (M:Mem) (B:aS) (w:World) (b:List PV) (c:Nat×Nat×TypeId):Prop :=∃ a d,rowAt w c.1=some (a,d)/\(a.size=c.2.1/\d=c.2.2)/\b.length<=a.size/\(∀ (j:Nat) p,b[j]? = some p->∃ v,a[j]? = some v/\eU M B p v/\Tl M w p v/\v.oneCell'=true)/\∀ o,M c.1 o=none
def rQ (M:Mem) (B:aS) (w:World) (h:aH):Prop:=h.length=B.length/\∀ (i:Nat) a,h[i]? = some (some a)->∃ c,B[i]? = some c/\a6L M B w a c
def fp (B:aS) (a:ASt) (t:Array Value) (w:World) (b:Nat):Nat:=jR a.s t b+aT w a.h B b
def ji (s:gV):Prop:=s.Pairwise fun a b=>a.1<b.1
structure Inv (n:Nat) (M:Mem) (B:aS) (out:Nat->Nat) (σ:ASt) (t:Array Value) (w:World):Prop where
 size:t.size=n
 mem:∀ (b o:Nat) (v:Value),M b o=some v->w.cell? ⟨b,o,none⟩=some v/\v.oneCell'=true
 iQ:ji σ.s
 slots:∀ k p,cu k σ.s=some p->k<n/\eU M B p (t.getD k undef)/\Tl M w p (t.getD k undef)
 heap:rQ M B w σ.h
 cnt:∀ b,fp B σ t w b+out b<=1
 new:∀ b,w.heap.size<=b->fp B σ t w b+out b=0
structure Fr (f:Nat->Nat) (M:Mem) (w:World) (M':Mem) (w':World):Prop where
 os:w'.os=w.os
 tape:w'.tape=w.tape
 output:w'.output=w.output
 size:w.heap.size<=w'.heap.size
 blk:∀ b,b<w.heap.size->f b=0->w'.heap[b]? = w.heap[b]? /\ ∀ o,M' b o=M b o
def Fr.refl (f:Nat->Nat) (M:Mem) (w:World):Fr f M w M w:=⟨rfl,rfl,rfl,dG _,fun _ _ _=>⟨rfl,fun _=>rfl⟩⟩
theorem Fr.trans {f g:Nat->Nat} {M':Mem} {w':World} (h:Fr f m y M' w') (k:Fr g M' w' b0 b9) (d:∀ b,b<y.heap.size->f b=0->g b=0):Fr f m y b0 b9 :=⟨k.os.trans h.os,k.tape.trans h.tape,k.output.trans h.output,lD h.size k.size,fun b a c=>by obtain ⟨e,i⟩:=h.blk b a c;obtain ⟨k1,k2⟩:=k.blk b (TJ a h.size) (d b a c);simp_all⟩
variable {b':Nat->Nat}
def Fr.mono {g:Nat->Nat} (h:Fr b' m y b0 b9) (c:∀ b,b<y.heap.size->g b=0->b' b=0):Fr g m y b0 b9 :=⟨h.os,h.tape,h.output,h.size,fun b a d=>h.blk b a (c b a d)⟩
structure Good (n:Nat) (out:Nat->Nat) (M:Mem) (B:aS) (σ:ASt) (t:Array Value) (w:World) (M':Mem) (B':aS) (σ':ASt) (t':Array Value) (w':World):Prop where
 inv:Inv n M' B' out σ' t' w'
 le:eH M M' B B'
 fr:Fr (fp B σ t w) M w M' w'
 own:∀ b,b<w.heap.size->fp B' σ' t' w' b<=fp B σ t w b
variable {c':ASt}
def Good.refl (h:Inv b m K b' c' O y):Good b b' m K c' O y m K c' O y :=⟨h,eH.refl _ _,Fr.refl _ _ _,fun _ _=>dG _⟩
def Good.trans {f:Mem} {c d:ASt} {g i:Array Value} {w1 w2:World}
 (h:Good b b' m K c' O y b0 c8 c g w1) (k:Good b b' b0 c8 c g w1 f c9 d i w2):Good b b' m K c' O y f c9 d i w2 :=
 ⟨k.inv,h.le.trans k.le,h.fr.trans k.fr (fun a e j=>by have:=h.own a e; omega),fun a e=>lD (k.own a (TJ e h.fr.size)) (h.own a e)⟩
theorem Qb (h:b≠j):(O.setIfInBounds b u).getD j undef=O.getD j undef:=by simp[h]
theorem VY (h:b<O.size):(O.setIfInBounds b u).getD b undef=u:=by simp[h]
def EG {b:Nat×PV} {l:gV}:ji (b::l)↔(∀ a,a∈l->b.1<a.1)/\ji l:=by simp[ji]
theorem aXK {k:Nat} {p:PV}:∀ {s:gV} {a:Nat×PV},a∈iy k p s->a=(k,p)\/a∈s
 | [],a,h=>by simpa[iy] using h
 | (j,q)::l,a,h=>by
  rw[iy] at h;split at h
  grind
  .split at h
   simp_all
   .rcases jr.1 h with h | h
    .exact .inr (by simp[h])
    .rcases aXK h with h | h
     .exact .inl h
     .exact .inr (by simp[h])
theorem EF {k:Nat} {p:PV}:∀ {s:gV},ji s->ji (iy k p s)
 | [],_=>by simp[iy,ji]
 | (j,q)::l,h=>by
  obtain ⟨d,f⟩:=EG.1 h;rw[iy];split
  .rename_i e; subst e; exact EG.2 ⟨d,f⟩
  .split
   .rename_i c; exact EG.2 ⟨fun a b=>by
     rcases jr.1 b with rfl | b
     .exact c
     .exact Nat.lt_trans c (d a b),h⟩
   .exact EG.2 ⟨fun a b=>by
     rcases aXK b with rfl | b
     .omega
     .exact d a b,EF f⟩
def Ry {k:Nat}:∀ {s:gV},(∀ a,a∈s->k<a.1)->cu k s=none
 | [],_=>rfl
 | (j,q)::l,h=>by have:=h (j,q) (by simp);rw[cu,aV (by omega)];exact Ry fun a b=>h a (by simp[b])
theorem EE {k:Nat} {p:PV} (j:Nat):∀ {s:gV},ji s->cu j (iy k p s)=if k=j then some p else cu j s
 | [],_=>by rfl
 | (i,q)::l,h=>by
  obtain ⟨c,b⟩:=EG.1 h;rw[iy];split
  .rename_i e; subst e; simp only[cu]; split<;>rfl
  .split
   .simp only[cu]
   .rw[cu,EE j b,cu];by_cases a:i=j
    .subst a; rw[ah rfl,ah rfl,aV (by omega)]
    .rw[aV a,aV a]
def a4V {k:Nat} {p:PV}:∀ {s:gV},cu k s=some p->(k,p)∈s
 | [],h=>by simp[cu] at h
 | (j,q)::l,h=>by
  rw[cu] at h;split at h
  .rename_i e; subst e; injection h with h; subst h; simp
  .exact List.mem_cons_of_mem _ (a4V h)
def aC4 {k:Nat} {v:Value} {t:Array Value} {b:Nat}:∀ {l:gV},(∀ a,a∈l->a.1≠k)->jR l (t.setIfInBounds k v) b=jR l t b
 | [],_=>rfl
 | (j,q)::l,h=>by rw[jR,jR,Qb (Ne.symm (h (j,q) (by simp))),aC4 fun a c=>h a (by simp[c])]
def qQ (s:gV) (t:Array Value) (k b:Nat):Nat:=match cu k s with | some q=>bY q (t.getD k undef) b | none=>0
def Wq {k:Nat} {p:PV} {v:Value} {t:Array Value} {b:Nat} (hk:k<t.size):∀ {s:gV},ji s->jR (iy k p s) (t.setIfInBounds k v) b+qQ s t k b=jR s t b+bY p v b
 | [],_=>by simp[iy,jR,qQ,cu,hk]
 | (j,q)::l,h=>by
  obtain ⟨f,m⟩:=EG.1 h;rw[iy];split
  .rename_i e; subst e;have g:∀ a,a∈l->a.1≠j:=fun a c=>by have:=f a c; omega
   simp only[jR,VY hk,aC4 g,qQ,cu,CQ];omega
  .split
   .rename_i d i;have g:∀ a,a∈(j,q)::l->a.1≠k:=fun a c=>by
     rcases jr.1 c with rfl | c
     .exact d
     .have:=f a c; omega
    have n:cu k ((j,q)::l)=none:=Ry fun a c=>by
     rcases jr.1 c with rfl | c
     .exact i
     .have:=f a c; omega
    rw[jR,VY hk,aC4 g,qQ,n];show _+0=_;omega
   .rename_i d o;have r:=Wq (p:=p) (v:=v) (b:=b) hk m;have u:qQ ((j,q)::l) t k b=qQ l t k b:=by simp only[qQ,cu,aV d]
    rw[jR,jR,Qb (Ne.symm d)];omega
theorem Rk (p:PV) (v:Value) (b:Nat):bY p.un v b=0:=by simp[bY,rH]
theorem ed (h:x.own=false) (v:Value) (b:Nat):bY x v b=0:=by simp[bY,h]
theorem FW {s:gV} {t:Array Value} {k b:Nat}:qQ s t k b<=jR s t b:=by
 induction s with
 | nil=>simp[qQ,cu]
 | cons a l c =>grind [qQ,cu,jR]
theorem gU (h:x.own=false):Tl m y x u:=⟨fun c d A n b e _=>by grind [PV.own],fun l A n b e _=>by grind [PV.own],fun n z f A a b e _=>by grind [PV.own]⟩
section
variable {n:Nat} {M:Mem} {B:aS} {out:Nat->Nat} {σ:ASt} {t:Array Value} {w:World}
theorem Tl.kept {c:Mem} {d:World} {v:Value} (h:Tl M w x v) (r:∀ b,bY x v b=1->d.heap[b]? = w.heap[b]? /\ ∀ o,c b o=M b o):Tl c d x v:=by
 refine ⟨fun i j A n a e ev => ?_,fun l A n a e ev => ?_,fun n z q A m a e ev => ?_⟩
 .obtain ⟨f,u,g⟩:=h.s i j A n a e ev;grind [bY,PV.own]
 .obtain ⟨f,g⟩:=h.t l A n a e ev;grind [bY,PV.own]
 .obtain ⟨y,f,g⟩:=h.p n z q A m a e ev;grind [bY,PV.own]
theorem Inv.put (a:Inv n M B out σ t w) {k:Nat} (hk:k<n) {p:PV} {v:Value} (l:eU M B p v) (g:p.own=false) :
 Good n out M B σ t w M B { σ with s:=iy k p σ.s } (t.setIfInBounds k v) w:=by
 have c:∀ b,fp B { σ with s:=iy k p σ.s } (t.setIfInBounds k v) w b<=fp B σ t w b:=fun b=>by have:=Wq (p:=p) (v:=v) (b:=b) (by rw[a.size]; exact hk:k<t.size) a.iQ;rw[ed g] at this;show jR (iy k p σ.s) (t.setIfInBounds k v) b+aT w σ.h B b<=jR σ.s t b+aT w σ.h B b;omega
 refine ⟨⟨by simp[a.size],a.mem,EF a.iQ,fun j q d => ?_,a.heap,fun b=>by have:=a.cnt b; have:=c b; omega,fun b i=>by have:=a.new b i; have:=c b; omega⟩,eH.refl _ _,Fr.refl _ _ _,fun b _=>c b⟩;rw[EE j a.iQ] at d;split at d
 .rename_i e; subst e; rw[VY (by rw[a.size]; exact hk)];grind [gU]
 .rename_i f;rw[Qb f];exact a.slots j q d
theorem Inv.clr (a:Inv n M B out σ t w) {k:Nat} {p:PV} (g:cu k σ.s=some p):Inv n M B out { σ with s:=iy k p.un σ.s } t w/\∀ b,fp B { σ with s:=iy k p.un σ.s } t w b+bY p (t.getD k undef) b=fp B σ t w b:=by
 have hk:=(a.slots k p g).1;have f:k<t.size:=by rw[a.size]; exact hk
 have l:t.setIfInBounds k (t.getD k undef)=t:=by apply Array.ext (by simp);intro i o r;by_cases h:k=i;simp_all;simp_all
 have d:∀ b,jR (iy k p.un σ.s) t b+bY p (t.getD k undef) b=jR σ.s t b:=fun b=>by have:=Wq (p:=p.un) (v:=t.getD k undef) (b:=b) f a.iQ;rw[Rk] at this;grind [qQ]
 refine ⟨⟨a.size,a.mem,EF a.iQ,fun j q c => ?_,a.heap,fun b=>by have:=a.cnt b; grind [fp],fun b m=>by have:=a.new b m; grind [fp]⟩,fun b=>by have:=d b; simp only[fp]; omega⟩;rw[EE j a.iQ] at c;split at c
 .rename_i e; subst e; injection c with c; subst c
  exact ⟨hk,qB.2 (a.slots _ _ g).2.1,gU (rH _)⟩
 .exact a.slots j q c
theorem Inv.bXG (a:Inv n M B out σ t w) {k:Nat} (hk:k<n) {p:PV} {v:Value} (l:eU M B p v) (m:Tl M w p v) (h:∀ b,fp B σ t w b+bY p v b+out b<=1) (i:∀ b,w.heap.size<=b->bY p v b=0) :
 Inv n M B out { σ with s:=iy k p σ.s } (t.setIfInBounds k v) w/\∀ b,fp B { σ with s:=iy k p σ.s } (t.setIfInBounds k v) w b<=fp B σ t w b+bY p v b:=by
 have c:∀ b,fp B { σ with s:=iy k p σ.s } (t.setIfInBounds k v) w b<=fp B σ t w b+bY p v b:=fun b=>by have:=Wq (p:=p) (v:=v) (b:=b) (by rw[a.size]; exact hk:k<t.size) a.iQ;simp only[fp]; omega
 refine ⟨⟨by simp[a.size],a.mem,EF a.iQ,fun j q d => ?_,a.heap,fun b=>by have:=h b; have:=c b; omega,fun b g=>by have:=a.new b g; have:=c b; have:=i b g; omega⟩,c⟩;rw[EE j a.iQ] at d;split at d
 .rename_i e; subst e; rw[VY (by rw[a.size]; exact hk)];simp_all
 .rename_i f;rw[Qb f];exact a.slots j q d
end
section
variable {n:Nat} {M M':Mem} {B B':aS} {out:Nat->Nat} {σ:ASt} {t:Array Value} {w w':World}
theorem yF:∀ {cs:List PV} {vs:List Value} {j:Nat} {p:PV} {v:Value} (b:Nat),cs[j]? = some p->vs[j]? = some v->bY p v b<=fG cs vs b
 | [],_,_,_,_,_,h,_=>by simp at h
 | _::_,[],_,_,_,_,_,h=>by simp at h
 | q::cs,u::vs,0,p,v,b,a,c=>by grind [fG]
 | q::cs,u::vs,j+1,p,v,b,a,c=>by have:=yF b (by simpa using a) (by simpa using c); rw[fG]; omega
theorem lY:∀ {h:aH} {B:aS} {i:Nat} {a:List PV} {c:Nat×Nat×TypeId} (b:Nat),h[i]? = some (some a)->B[i]? = some c->(if c.1=b then 1 else 0)+fG a (iO w c.1) b<=aT w h B b
 | [],_,_,_,_,_,h,_=>by simp at h
 | _::_,[],_,_,_,_,_,h=>by simp at h
 | some g::h,d::B,0,a,c,b,e,f=>by grind [aT]
 | none::h,d::B,0,a,c,b,e,f=>by simp at e
 | some g::h,d::B,i+1,a,c,b,e,f=>by have:=lY b (by simpa using e) (by simpa using f); rw[aT]; omega
 | none::h,d::B,i+1,a,c,b,e,f=>by have:=lY b (by simpa using e) (by simpa using f); rw[aT]; omega
theorem I7:∀ {h:aH} {B:aS} (b:Nat),(∀ (i:Nat) a c,h[i]? = some (some a)->B[i]? = some c->iO w' c.1=iO w c.1)->aT w' h B b=aT w h B b
 | [],_,_,_=>by simp[aT]
 | some _::_,[],_,_=>by simp[aT]
 | none::_,[],_,_=>by simp[aT]
 | some e::h,d::B,b,H=>by rw[aT,aT,I7 b (fun i a c f g=>H (i+1) a c (by grind) (by grind)),H 0 e d rfl rfl]
 | none::h,d::B,b,H=>by rw[aT,aT,I7 b (fun i a c f g=>H (i+1) a c (by grind) (by grind))]
theorem Rh {x:List PV} {c:Nat×Nat×TypeId}:∀ {h:aH} {B:aS} (b:Nat),h.length=B.length->aT w (h ++ [some x]) (B ++ [c]) b=aT w h B b+((if c.1=b then 1 else 0)+fG x (iO w c.1) b)
 | [],[],b,_=>by simp[aT]
 | some a::h,d::B,b,H=>by simp only[qF,aT]; rw[Rh b (by simpa using H)]; omega
 | none::h,d::B,b,H=>by simp only[qF,aT]; rw[Rh b (by simpa using H)]
 | [],_::_,_,H=>by simp at H
 | _::_,[],_,H=>by simp at H
theorem Pg {b:Nat} (h:w'.heap[b]? = w.heap[b]?):iO w' b=iO w b:=by unfold iO; rw[OB h]
theorem rW {b:Nat} {a:Array Value} {c:Nat} (h:rowAt w b=some (a,c)):iO w b=a.toList:=by unfold iO; rw[h]
theorem rQ.at (h:rQ M B w σ.h) {i:Nat} (a:σ.h[i]? = some (some l)) {c:Nat×Nat×TypeId} (d:B[i]? = some c):a6L M B w l c:=by obtain ⟨e,b,f⟩:=h.2 i l a;simp_all
def Ri {b:Nat} (a:Inv n M B out σ t w) (h:1<=fp B σ t w b+out b):b<w.heap.size:=by
 rcases zk b w.heap.size with h' | h'
 .exact h'
 .have:=a.new b h'; omega
theorem Inv.ext (a:Inv n M B out σ t w) (f:eH M M' B B) (g:∀ (b o:Nat) (v:Value),M' b o=some v->w'.cell? ⟨b,o,none⟩=some v/\v.oneCell'=true)
 (u:∀ b,1<=fp B σ t w b->w'.heap[b]? = w.heap[b]? /\ ∀ o,M' b o=M b o) (x:w.heap.size<=w'.heap.size) :
 Inv n M' B out σ t w'/\∀ b,fp B σ t w' b=fp B σ t w b:=by
 have D:∀ (i:Nat) l c,σ.h[i]? = some (some l)->B[i]? = some c->1<=fp B σ t w c.1:=fun i l c e m=>by have:=lY (w:=w) c.1 e m;grind [fp]
 have d:∀ b,fp B σ t w' b=fp B σ t w b:=fun b=>by grind [fp,I7,Pg]
 refine ⟨⟨a.size,g,a.iQ,fun k p E => ?_,⟨a.heap.1,fun i l y => ?_⟩,fun b=>by rw[d]; exact a.cnt b,fun b h=>by rw[d]; exact a.new b (lD x h)⟩,d⟩
 .obtain ⟨e,m,z⟩:=a.slots k p E;refine ⟨e,m.mono f,z.kept fun b F=>u b ?_⟩;have:=FW (s:=σ.s) (t:=t) (k:=k) (b:=b);grind [qQ,fp]
 .obtain ⟨c,A,G,H,e,m,z,I,J⟩:=a.heap.2 i l y;have q:=u c.1 (D i l c y A);refine ⟨c,A,G,H,by rw[OB q.1,e],m,z,fun j p C => ?_,fun o=>by rw[q.2]; exact J o⟩;obtain ⟨v,hv,K,L,r⟩:=I j p C;refine ⟨v,hv,K.mono f,L.kept fun b F=>u b ?_,r⟩;have N:=lY (w:=w) b y A;have O:=yF b C (by rw[rW e]; grind:(iO w c.1)[j]? = some v);simp only[fp]; omega
def Inv.drew (a:Inv n M B out σ t w):Inv n M B out σ t w.drew/\Good n out M B σ t w M B σ t w.drew:=by have:=a.ext (w':=w.drew) (eH.refl _ _) (fun b o v h=>a.mem b o v h) (fun b _=>⟨rfl,fun _=>rfl⟩) (dG _);exact ⟨this.1,this.1,eH.refl _ _,⟨rfl,rfl,rfl,dG _,fun _ _ _=>⟨rfl,fun _=>rfl⟩⟩,fun b _=>by rw[this.2]; omega⟩
def laid (M:Mem) (b:Nat) (c:List Value):Mem:=Dk M.m fun a o=>if a=b then c[o]? else M a o
theorem zG (a:Inv n M B out σ t w) (o:Nat):M w.heap.size o=none:=by
 cases b:M w.heap.size o with
 | none=>rfl
 | some v=>have:=zl _ _ (a.mem _ o v b).1; simp at this
theorem zF {M:Mem} {c:Nat} (h:∀ o,M c o=none) (a:List Value) (b o:Nat):laid M c a b o=if b=c then a[o]? else M b o:=FQ (VZ h) b o
theorem WC (c:Inv n M B out σ t w) (a:List Value):eH M (laid M w.heap.size a) B B :=⟨fun b o v h=>by grind [zF,zG],fun _ _ h=>h⟩
theorem Inv.lay (c:Inv n M B out σ t w) (a:Array Value) (g:TypeId) (k:Nat) (i:∀ v,v∈a->v.oneCell'=true) :
 Good n out M B σ t w (laid M w.heap.size (a.toList.take k)) B σ t (w.alloc (.cells a g))/\∀ b,fp B σ t (w.alloc (.cells a g)) b=fp B σ t w b:=by
 have d:=WC c (a.toList.take k);have f:∀ b,1<=fp B σ t w b->(w.alloc (.cells a g)).heap[b]? = w.heap[b]? /\ ∀ o,laid M w.heap.size (a.toList.take k) b o=M b o:=fun b f=>by have:=Ri c (by omega:1<=fp B σ t w b+out b);grind [Below.heap_alloc,zF,zG]
 have:=c.ext d (fun b o v h=>by
  by_cases e:b=w.heap.size;grind [zF,zG,World.cell?_alloc_new]
  .rw[zF (zG c),aV e] at h;rw[aG1 _ _ _ e]; exact c.mem b o v h) f (by simp)
 refine ⟨⟨this.1,d,⟨rfl,rfl,rfl,by simp,fun b f _=>⟨LC _ _ _ f,fun o=>by rw[zF (zG c),aV (by omega)]⟩⟩,fun b _=>by rw[this.2]; omega⟩,this.2⟩
theorem Inv.aU0 (f:Inv n M B out σ t w) (d:Array Value) (l:TypeId) (g:List PV) (L:g.length<=d.size)
 (N:∀ (j:Nat) p,g[j]? = some p->∃ v,d[j]? = some v/\eU M (B ++ [(w.heap.size,d.size,l+1)]) p v/\Tl M w p v/\v.oneCell'=true/\∀ b,bY p v b=0) :
 Good n out M B σ t w M (B ++ [(w.heap.size,d.size,l+1)]) { σ with h:=σ.h ++ [some g] } t (w.alloc (.cells d l)):=by
 have m:eH M M B (B ++ [(w.heap.size,d.size,l+1)]):=⟨fun _ _ _ h=>h,fun i c h=>by rw[vJ (iY.1 h).1]; exact h⟩;obtain ⟨A,O⟩:=(f.ext (w':=w.alloc (.cells d l)) (eH.refl _ _) (fun b o v h=>by have:=zl _ _ (f.mem b o v h).1;simp only at this;rw[aG1 _ _ _ (by simp; omega)]; exact f.mem b o v h) (fun b r=>⟨LC _ _ _ (Ri f (by omega)),fun _=>rfl⟩) (by simp));have hC:∀ b,fG g d.toList b=0:=fun b=>by
  have Q:∀ (g:List PV) (z:List Value),(∀ (j:Nat) p,g[j]? = some p->∃ v,z[j]? = some v/\∀ b,bY p v b=0)->fG g z b=0:=by
   intro g;induction g with
   | nil=>grind [fG]
   | cons p ps S =>
    intro z h;obtain ⟨v,hv,K⟩:=h 0 p rfl;cases z with
    | nil=>simp at hv
    | cons u z =>simp at hv; subst hv;rw[fG,K,S z fun j q hq=>by obtain ⟨v,hv,K⟩:=h (j+1) q (by grind); simp_all]
  grind
 have C:iO (w.alloc (.cells d l)) w.heap.size=d.toList:=rW (E8 (TK w _));have x:∀ b,fp (B ++ [(w.heap.size,d.size,l+1)]) { σ with h:=σ.h ++ [some g] } t (w.alloc (.cells d l)) b=fp B σ t w b+if w.heap.size=b then 1 else 0:=fun b=>by have:=O b;simp only[fp] at this ⊢;rw[Rh b f.heap.1,C];grind
 have y:∀ (i:Nat) (a:List PV),(σ.h ++ [some g])[i]? = some (some a)->(i<σ.h.length/\σ.h[i]? = some (some a))\/(i=σ.h.length/\a=g):=fun i a h=>by grind
 refine ⟨⟨f.size,A.mem,f.iQ,fun k p T => ?_,⟨by simp[f.heap.1],fun i a U => ?_⟩,fun b => ?_,fun b r => ?_⟩,m,⟨rfl,rfl,rfl,by simp,fun b r _=>⟨LC _ _ _ r,fun _=>rfl⟩⟩,fun b r=>by rw[x,aV (by omega)]; omega⟩
 .obtain ⟨D,E,F⟩:=A.slots k p T;exact ⟨D,E.mono m,F⟩
 .rcases y i a U with ⟨V,G⟩|⟨rfl,rfl⟩
  .obtain ⟨c,X,H,I,D,E,F,Y,Z⟩:=A.heap.2 i a G;exact ⟨c,m.blk _ _ X,H,I,D,E,F,fun j p J=>by obtain ⟨v,a1,a2,a3,a4⟩:=Y j p J; exact ⟨v,a1,a2.mono m,a3,a4⟩,Z⟩
  .refine ⟨(w.heap.size,d.size,l+1),by rw[f.heap.1]; simp,d,l+1,E8 (TK w _),⟨rfl,rfl⟩,L,fun j p J => ?_,fun o => ?_⟩
   .obtain ⟨v,a1,a2,a3,a4,a5⟩:=N j p J;refine ⟨v,a1,a2,?_,a4⟩;exact a3.kept fun b r=>by rw[a5] at r; omega
   .cases hm:M w.heap.size o with
    | none=>rfl
    | some v=>have:=zl _ _ (f.mem _ o v hm).1; simp at this
 .rw[x];have:=f.cnt b;split
  .rename_i e; subst e; have:=f.new _ (dG _); omega
  .omega
 .rw[x];simp at r;have:=f.new b (by omega);rw[aV (by omega)]; omega
theorem Inv.aU1 (d:Inv n M B out σ t w) (A:Obj) (g:Array Value) (T:Nat) (m:rowAt (w.alloc A) w.heap.size=some (g,T)) (f:List PV) (N:f.length<=g.size)
 (O:∀ (j:Nat) p,f[j]? = some p->∃ v,g[j]? = some v/\eU M (B ++ [(w.heap.size,g.size,T)]) p v/\Tl M w p v/\v.oneCell'=true/\∀ b,bY p v b=0) :
 Good n out M B σ t w M (B ++ [(w.heap.size,g.size,T)]) { σ with h:=σ.h ++ [some f] } t (w.alloc A):=by
 have l:eH M M B (B ++ [(w.heap.size,g.size,T)]):=⟨fun _ _ _ h=>h,fun i c h=>by rw[vJ (iY.1 h).1]; exact h⟩;obtain ⟨C,Q⟩:=(d.ext (w':=w.alloc A) (eH.refl _ _) (fun b o v h=>by have:=zl _ _ (d.mem b o v h).1;simp only at this;rw[aG1 _ _ _ (by simp; omega)]; exact d.mem b o v h) (fun b r=>⟨LC _ _ _ (Ri d (by omega)),fun _=>rfl⟩) (by simp));have hC:∀ b,fG f g.toList b=0:=fun b=>by
  have S:∀ (f:List PV) (z:List Value),(∀ (j:Nat) p,f[j]? = some p->∃ v,z[j]? = some v/\∀ b,bY p v b=0)->fG f z b=0:=by
   intro f;induction f with
   | nil=>grind [fG]
   | cons p ps U =>
    intro z h;obtain ⟨v,hv,L⟩:=h 0 p rfl;cases z with
    | nil=>simp at hv
    | cons u z =>simp at hv; subst hv;rw[fG,L,U z fun j q hq=>by obtain ⟨v,hv,L⟩:=h (j+1) q (by grind); simp_all]
  grind
 have D:iO (w.alloc A) w.heap.size=g.toList:=rW (m);have x:∀ b,fp (B ++ [(w.heap.size,g.size,T)]) { σ with h:=σ.h ++ [some f] } t (w.alloc A) b=fp B σ t w b+if w.heap.size=b then 1 else 0:=fun b=>by have:=Q b;simp only[fp] at this ⊢;rw[Rh b d.heap.1,D];grind
 have y:∀ (i:Nat) (a:List PV),(σ.h ++ [some f])[i]? = some (some a)->(i<σ.h.length/\σ.h[i]? = some (some a))\/(i=σ.h.length/\a=f):=fun i a h=>by grind
 refine ⟨⟨d.size,C.mem,d.iQ,fun k p V => ?_,⟨by simp[d.heap.1],fun i a X => ?_⟩,fun b => ?_,fun b r => ?_⟩,l,⟨rfl,rfl,rfl,by simp,fun b r _=>⟨LC _ _ _ r,fun _=>rfl⟩⟩,fun b r=>by rw[x,aV (by omega)]; omega⟩
 .obtain ⟨E,F,G⟩:=C.slots k p V;exact ⟨E,F.mono l,G⟩
 .rcases y i a X with ⟨Y,H⟩|⟨rfl,rfl⟩
  .obtain ⟨c,Z,I,J,E,F,G,h4,h5⟩:=C.heap.2 i a H;exact ⟨c,l.blk _ _ Z,I,J,E,F,G,fun j p K=>by obtain ⟨v,a1,a2,a3,a4⟩:=h4 j p K; exact ⟨v,a1,a2.mono l,a3,a4⟩,h5⟩
  .refine ⟨(w.heap.size,g.size,T),by rw[d.heap.1]; simp,g,T,m,⟨rfl,rfl⟩,N,fun j p K => ?_,fun o => ?_⟩
   .obtain ⟨v,a1,a2,a3,a4,a5⟩:=O j p K;refine ⟨v,a1,a2,?_,a4⟩;exact a3.kept fun b r=>by rw[a5] at r; omega
   .cases hm:M w.heap.size o with
    | none=>rfl
    | some v=>have:=zl _ _ (d.mem _ o v hm).1; simp at this
 .rw[x];have:=d.cnt b;split
  .rename_i e; subst e; have:=d.new _ (dG _); omega
  .omega
 .rw[x];simp at r;have:=d.new b (by omega);rw[aV (by omega)]; omega
def Inv.newObj (f:Inv n M B out σ t w) (a:Array Value) (e:TypeId) (d:List PV) (g:d.length<=a.size)
 (l:∀ (j:Nat) p,d[j]? = some p->∃ v,a[j]? = some v/\eU M B p v/\Tl M w p v/\v.oneCell'=true/\∀ b,bY p v b=0) :
 Good n out M B σ t w M (B ++ [(w.heap.size,a.size,e+1)]) { σ with h:=σ.h ++ [some d] } t (w.alloc (.cells a e)) :=
 f.aU0 a e d g fun j p m=>by obtain ⟨v,a1,a2,a3⟩:=l j p m;exact ⟨v,a1,a2.mono ⟨fun _ _ _ h=>h,fun i c h=>by rw[vJ (iY.1 h).1]; exact h⟩,a3⟩
theorem Inv.setCell (E:Inv n M B out σ t w) {i j:Nat} {c:Nat×Nat×TypeId} (I:σ.h[i]? = some (some l)) (J:B[i]? = some c) (hm:c.2.2≠0) (hj:j<l.length) {p:PV} {v:Value}
 (hr:eU M B p v) (hT:Tl M w p v) (z:v.oneCell'=true) (V:∀ b,fp B σ t w b+bY p v b+out b<=1) (X:∀ b,w.heap.size<=b->bY p v b=0) :
 Inv n M B out { σ with h:=σ.h.set i (some (l.set j p)) } t (w.setCell ⟨c.1,j,none⟩ v)/\(∀ b,fp B { σ with h:=σ.h.set i (some (l.set j p)) } t (w.setCell ⟨c.1,j,none⟩ v) b<=fp B σ t w b+bY p v b) /\
 Fr (fp B σ t w) M w M (w.setCell ⟨c.1,j,none⟩ v)/\w.frozen? ⟨c.1,j,none⟩=false/\(w.cell? ⟨c.1,j,none⟩).isSome=true:=by
 obtain ⟨S,ty,r1,o2,o3,o4,o5⟩:=E.heap.at I J;obtain ⟨ty,rfl,o1⟩:=Ff r1 (by rw[o2.2]; exact hm);have Y:w.setCell ⟨c.1,j,none⟩ v=w.setRow c.1 (S.setIfInBounds j v):=setCell_eq_setRow w c.1 j S ty (0,0) v o1;have b9:1<=fp B σ t w c.1:=by have:=lY (w:=w) c.1 I J;grind [fp]
 have m:∀ b,b≠c.1->(w.setCell ⟨c.1,j,none⟩ v).heap[b]? = w.heap[b]? := fun b D=>Below.heap_setCell _ _ _ _ D
 have F:(w.setCell ⟨c.1,j,none⟩ v).heap[c.1]? = some (.cells (S.setIfInBounds j v) ty (0,0)):=by rw[Y]; grind [setRow_heap]
 have Z:j<S.size:=by omega
 have a':∀ (a:Nat) f g,a≠i->σ.h[a]? = some (some f)->B[a]? = some g->g.1≠c.1:=by
  have H:∀ (h:aH) (B:aS) (i a:Nat) l f c g,a<i->h[i]? = some (some l)->B[i]? = some c->h[a]? = some (some f)->B[a]? = some g->c.1=g.1->2<=aT w h B c.1:=by
   intro h;induction h with
   | nil=>simp
   | cons x h K =>
    intro B i a l f c g b0 z y A G he;cases B with
    | nil=>simp at y
    | cons d B =>
     cases i with
     | zero=>omega
     | succ i =>
      simp at z y;cases a with
      | zero =>simp at A G; subst A; subst G;have:=lY (w:=w) c.1 z y;grind [aT]
      | succ a =>simp at A G;have:=K B i a l f c g (by omega) z y A G he;cases x<;>rw[aT]<;>omega
  grind [fp]
 have L:∀ (a:Nat) f g,σ.h[a]? = some (some f)->B[a]? = some g->a≠i->iO (w.setCell ⟨c.1,j,none⟩ v) g.1=iO w g.1:=fun a f g z y C=>Pg (m _ (a' a f g C z y))
 have N:∀ b,fp B { σ with h:=σ.h.set i (some (l.set j p)) } t (w.setCell ⟨c.1,j,none⟩ v) b<=fp B σ t w b+bY p v b:=fun b=>by
  have H:∀ (l:List PV) (T:List Value) (j:Nat),fG (l.set j p) (T.set j v) b<=fG l T b+bY p v b:=by
   intro l;induction l with
   | nil=>grind [fG]
   | cons q qs K =>
    intro T j;cases T with
    | nil=>simp[fG]
    | cons u T =>
     cases j with
     | zero=>grind [fG]
     | succ j=>have:=K T j; grind [fG]
  have Vq:∀ (h:aH) (B:aS) (i:Nat),h[i]? = some (some l)->B[i]? = some c->(∀ (a:Nat) f g,h[a]? = some (some f)->B[a]? = some g->a≠i->iO (w.setCell ⟨c.1,j,none⟩ v) g.1=iO w g.1) ->
   aT (w.setCell ⟨c.1,j,none⟩ v) (h.set i (some (l.set j p))) B b<=aT w h B b+bY p v b:=by
   intro h;induction h with
   | nil=>simp
   | cons x h K =>
    intro B i z y A;cases B with
    | nil=>simp at y
    | cons d B =>
     cases i with
     | zero =>simp at z y; subst z; subst y;have e1:=I7 (w':=w.setCell ⟨d.1,j,none⟩ v) (w:=w) (h:=h) (B:=B) b (fun a f g a1 a2=>A (a+1) f g (by grind) (by grind) (by omega));simp only[List.set_cons_zero,aT];rw[e1,rW (E8 F),rW r1,aZ7];have:=H l S.toList j;omega
     | succ i =>
      simp at z y;have:=K B i z y (fun a f g a1 a2 a3=>A (a+1) f g (by grind) (by grind) (by omega));cases x with
      | none=>grind [aT]
      | some ds =>have e:=A 0 ds d rfl rfl (by omega);grind [aT]
  have:=Vq σ.h B i I J L;simp only[fp]; omega
 have b5:∀ b,bY p v b=1->b≠c.1:=fun b D e=>by grind
 refine ⟨⟨E.size,fun b o u h => ?_,E.iQ,fun k q hq => ?_,⟨by simp[E.heap.1],fun a f r => ?_⟩,fun b=>by have:=N b; have:=V b; omega,fun b D => ?_⟩,N,⟨rfl,rfl,rfl,by simp_all,fun b D h0=>⟨m b fun e=>by grind,fun _=>rfl⟩⟩,by simp[World.frozen?,o1],by simp[World.cell?,o1,Z]⟩
 .have hm:=E.mem b o u h;have b':b≠c.1:=fun e=>by simp_all
  grind [World.cell?_of_block]
 .obtain ⟨s1,s2,s3⟩:=E.slots k q hq;refine ⟨s1,s2,s3.kept fun b D=>⟨m b fun e => ?_,fun _=>rfl⟩⟩;subst e;have e1:=FW (s:=σ.s) (t:=t) (k:=k) (b:=c.1);simp only[qQ,hq] at e1;have e2:=E.cnt c.1;have e3:=lY (w:=w) c.1 I J;grind [fp]
 .by_cases C:a=i
  .subst C;rw[BC (iY.1 I).1] at r;injection r with r; injection r with r; subst r
   refine ⟨c,J,S.setIfInBounds j v,ty+1,E8 F,by grind,by grind,fun U q hq => ?_,o5⟩;by_cases O:j=U
   .subst O;rw[BC hj] at hq; injection hq with hq; subst hq
    exact ⟨v,by simp[Z],hr,hT.kept fun b D=>⟨m b (b5 b D),fun _=>rfl⟩,z⟩
   .rw[rO O] at hq;obtain ⟨u,a1,a2,a3,a4⟩:=o4 U q hq;refine ⟨u,by rw[aZ6 O]; exact a1,a2,a3.kept fun b D=>⟨m b fun e => ?_,fun _=>rfl⟩,a4⟩;subst e;have e2:=E.cnt c.1;have e3:=lY (w:=w) c.1 I J;have e4:=yF c.1 hq (by rw[rW r1]; grind:(iO w c.1)[U]? = some u);grind [fp]
  .rw[rO (Ne.symm C)] at r;obtain ⟨g,Q,b6,b7,a1,a2,a3,a4,a5⟩:=E.heap.2 a f r;have b8:=a' a f g C r Q;refine ⟨g,Q,b6,b7,by rw[OB (m _ b8)]; exact a1,a2,a3,fun U q hq => ?_,a5⟩;obtain ⟨u,b1,b2,b3,b4⟩:=a4 U q hq;refine ⟨u,b1,b2,b3.kept fun b D=>⟨m b fun e => ?_,fun _=>rfl⟩,b4⟩;subst e;have H:∀ (h:aH) (B:aS) (i a:Nat),i≠a->h[i]? = some (some l)->B[i]? = some c->h[a]? = some (some f)->B[a]? = some g->2<=aT w h B c.1:=by
    intro h;induction h with
    | nil=>simp
    | cons x h K =>
     intro B i a b0 z y A G;have e4:=yF c.1 hq (by rw[rW a1]; grind:(iO w g.1)[U]? = some u);cases B with
     | nil=>simp at y
     | cons d B =>
      cases i with
      | zero =>
       cases a with
       | zero=>omega
       | succ a =>simp at z y A G; subst z; subst y;have:=lY (w:=w) d.1 A G;rw[aT,ah rfl]; omega
      | succ i =>
       simp at z y;cases a with
       | zero =>simp at A G; subst A; subst G;have:=lY (w:=w) c.1 z y;grind [aT]
       | succ a =>simp at A G;have:=K B i a (by omega) z y A G;cases x<;>rw[aT]<;>omega
   have e2:=E.cnt c.1;have:=H σ.h B i a (Ne.symm C) I J r Q;grind [fp]
 .have:=N b;simp[World.setCell] at D;have e1:=E.new b D;have e2:=X b D;omega
theorem Inv.setRow (D:Inv n M B out σ t w) {i j:Nat} {c:Nat×Nat×TypeId} (H:σ.h[i]? = some (some l)) (I:B[i]? = some c) {vs:Array Value} {T:Nat} (r1:rowAt w c.1=some (vs,T)) (hj:j<l.length) {p:PV} {v:Value}
 (hr:eU M B p v) (hT:Tl M w p v) (z:v.oneCell'=true) (X:∀ b,fp B σ t w b+bY p v b+out b<=1) (Y:∀ b,w.heap.size<=b->bY p v b=0)
 {w':World} (m:∀ b,b≠c.1->w'.heap[b]? = w.heap[b]?) (J:rowAt w' c.1=some (vs.setIfInBounds j v,T)) (b5:w'.os=w.os) (b6:w'.tape=w.tape) (b7:w'.output=w.output) (Z:w'.heap.size=w.heap.size) :
 Inv n M B out { σ with h:=σ.h.set i (some (l.set j p)) } t w'/\(∀ b,fp B { σ with h:=σ.h.set i (some (l.set j p)) } t w' b<=fp B σ t w b+bY p v b) /\
 Fr (fp B σ t w) M w M w':=by
 obtain ⟨a',ty,G,o2,o3,o4,o5⟩:=D.heap.at H I;rw[r1] at G;injection G with G; injection G with e1 e2; subst e1; subst e2
 have c2:1<=fp B σ t w c.1:=by have:=lY (w:=w) c.1 H I;grind [fp]
 have b8:j<vs.size:=by omega
 have b0:∀ (a:Nat) f g,a≠i->σ.h[a]? = some (some f)->B[a]? = some g->g.1≠c.1:=by
  have K:∀ (h:aH) (B:aS) (i a:Nat) l f c g,a<i->h[i]? = some (some l)->B[i]? = some c->h[a]? = some (some f)->B[a]? = some g->c.1=g.1->2<=aT w h B c.1:=by
   intro h;induction h with
   | nil=>simp
   | cons x h L =>
    intro B i a l f c g b9 z y A E he;cases B with
    | nil=>simp at y
    | cons d B =>
     cases i with
     | zero=>omega
     | succ i =>
      simp at z y;cases a with
      | zero =>simp at A E; subst A; subst E;have:=lY (w:=w) c.1 z y;grind [aT]
      | succ a =>simp at A E;have:=L B i a l f c g (by omega) z y A E he;cases x<;>rw[aT]<;>omega
  grind [fp]
 have N:∀ (a:Nat) f g,σ.h[a]? = some (some f)->B[a]? = some g->a≠i->iO w' g.1=iO w g.1:=fun a f g z y C=>Pg (m _ (b0 a f g C z y))
 have O:∀ b,fp B { σ with h:=σ.h.set i (some (l.set j p)) } t w' b<=fp B σ t w b+bY p v b:=fun b=>by
  have K:∀ (l:List PV) (U:List Value) (j:Nat),fG (l.set j p) (U.set j v) b<=fG l U b+bY p v b:=by
   intro l;induction l with
   | nil=>grind [fG]
   | cons q qs L =>
    intro U j;cases U with
    | nil=>simp[fG]
    | cons u U =>
     cases j with
     | zero=>grind [fG]
     | succ j=>have:=L U j; grind [fG]
  have Vq:∀ (h:aH) (B:aS) (i:Nat),h[i]? = some (some l)->B[i]? = some c->(∀ (a:Nat) f g,h[a]? = some (some f)->B[a]? = some g->a≠i->iO w' g.1=iO w g.1) ->
   aT w' (h.set i (some (l.set j p))) B b<=aT w h B b+bY p v b:=by
   intro h;induction h with
   | nil=>simp
   | cons x h L =>
    intro B i z y A;cases B with
    | nil=>simp at y
    | cons d B =>
     cases i with
     | zero =>simp at z y; subst z; subst y;have e1:=I7 (w':=w') (w:=w) (h:=h) (B:=B) b (fun a f g a1 a2=>A (a+1) f g (by grind) (by grind) (by omega));grind [aT,rW,Array.toList_setIfInBounds]
     | succ i =>
      simp at z y;have:=L B i z y (fun a f g a1 a2 a3=>A (a+1) f g (by grind) (by grind) (by omega));cases x with
      | none=>grind [aT]
      | some ds =>have e:=A 0 ds d rfl rfl (by omega);grind [aT]
  have:=Vq σ.h B i H I N;simp only[fp]; omega
 have b':∀ b,bY p v b=1->b≠c.1:=fun b F e=>by grind
 refine ⟨⟨D.size,fun b o u h => ?_,D.iQ,fun k q hq => ?_,⟨by simp[D.heap.1],fun a f r => ?_⟩,fun b=>by have:=O b; have:=X b; omega,fun b F => ?_⟩,O,⟨b5,b6,b7,Nat.le_of_eq Z.symm,fun b F h0=>⟨m b fun e=>by grind,fun _=>rfl⟩⟩⟩
 .have hm:=D.mem b o u h;have c3:b≠c.1:=fun e=>by simp_all
  grind [World.cell?_of_block]
 .obtain ⟨s1,s2,s3⟩:=D.slots k q hq;refine ⟨s1,s2,s3.kept fun b F=>⟨m b fun e => ?_,fun _=>rfl⟩⟩;subst e;have e1:=FW (s:=σ.s) (t:=t) (k:=k) (b:=c.1);simp only[qQ,hq] at e1;have e2:=D.cnt c.1;have e3:=lY (w:=w) c.1 H I;grind [fp]
 .by_cases C:a=i
  .subst C;rw[BC (iY.1 H).1] at r;injection r with r; injection r with r; subst r
   refine ⟨c,I,vs.setIfInBounds j v,T,J,by grind,by grind,fun V q hq => ?_,o5⟩;by_cases Q:j=V
   .subst Q;rw[BC hj] at hq; injection hq with hq; subst hq
    exact ⟨v,by simp[b8],hr,hT.kept fun b F=>⟨m b (b' b F),fun _=>rfl⟩,z⟩
   .rw[rO Q] at hq;obtain ⟨u,a1,a2,a3,a4⟩:=o4 V q hq;refine ⟨u,by rw[aZ6 Q]; exact a1,a2,a3.kept fun b F=>⟨m b fun e => ?_,fun _=>rfl⟩,a4⟩;subst e;have e2:=D.cnt c.1;have e3:=lY (w:=w) c.1 H I;have e4:=yF c.1 hq (by rw[rW r1]; grind:(iO w c.1)[V]? = some u);grind [fp]
  .rw[rO (Ne.symm C)] at r;obtain ⟨g,S,a',c0,a1,a2,a3,a4,a5⟩:=D.heap.2 a f r;have c1:=b0 a f g C r S;refine ⟨g,S,a',c0,by rw[OB (m _ c1)]; exact a1,a2,a3,fun V q hq => ?_,a5⟩;obtain ⟨u,b1,b2,b3,b4⟩:=a4 V q hq;refine ⟨u,b1,b2,b3.kept fun b F=>⟨m b fun e => ?_,fun _=>rfl⟩,b4⟩;subst e;have K:∀ (h:aH) (B:aS) (i a:Nat),i≠a->h[i]? = some (some l)->B[i]? = some c->h[a]? = some (some f)->B[a]? = some g->2<=aT w h B c.1:=by
    intro h;induction h with
    | nil=>simp
    | cons x h L =>
     intro B i a b9 z y A E;have e4:=yF c.1 hq (by rw[rW a1]; grind:(iO w g.1)[V]? = some u);cases B with
     | nil=>simp at y
     | cons d B =>
      cases i with
      | zero =>
       cases a with
       | zero=>omega
       | succ a =>simp at z y A E; subst z; subst y;have:=lY (w:=w) d.1 A E;rw[aT,ah rfl]; omega
      | succ i =>
       simp at z y;cases a with
       | zero =>simp at A E; subst A; subst E;have:=lY (w:=w) c.1 z y;grind [aT]
       | succ a =>simp at A E;have:=L B i a (by omega) z y A E;cases x<;>rw[aT]<;>omega
   have e2:=D.cnt c.1;have:=K σ.h B i a (Ne.symm C) H I r S;grind [fp]
 .have:=O b;rw[Z] at F;have e1:=D.new b F;have e2:=Y b F;omega
end
structure TI where
 size:Nat
 bytes:Nat
 agg:Bool
 zero:List PV
def nz:Value->PV
 | .int k n => .int k n
 | .bool b => .bool b
 | .string s => .str s
 | .pointer none => .nilp
 | .slice none n c=>if n=0/\c=0 then .sl true 0 [] else .raw (.slice none n c)
 | .func a f c=>if f.isEmpty/\c.isEmpty then .func a [] [] else .raw (.func a f c)
 | v => .raw v
def Hz (z:Nat) (o:Bool) (a:List PV):PV:=match Nat.blt 1000000 z with
 | true => .iI o 0 (z-1000000) []
 | false => .sl o z a
def PV.Fb (z:Nat):PV->PV
 | .sl o s a=>if s=0 then Hz z o a else .sl o s a
 | p=>p
variable {g:Bool}
theorem aU4 {a:Bool} (h:eU m K (.sl a 0 l) u):eU m K (Hz b g l) u:=by
 obtain ⟨A,c,rfl,d,j,e,n⟩:=jo.1 h;obtain ⟨f,h6,i⟩:=e rfl; subst f;unfold Hz;split
 .exact II.2 ⟨A,c,rfl,Io _⟩
 .exact jo.2 ⟨A,c,rfl,d,by simp,fun _=>⟨rfl,h6,i⟩,by simp⟩
def bTZ:(Hz b g l).own=g:=by unfold Hz; split<;>rfl
theorem aU5:Tl m y (Hz b g l) (.slice none l.length 0):=by
 unfold Hz;split
 .refine ⟨(fun _ _ _ _ _ e _=>by cases e),(fun _ _ _ _ e _=>by cases e),fun n f j A a d e ev => ?_⟩;grind [Nat.blt_eq]
 .refine SK (fun c h=>by cases h) ?_;intro f i A n d e ev;grind
def PZ (P:Program):Nat->TypeId->List Nat
 | 0,_ => []
 | k+1,t=>match P.underlying t with
  | some (.slice e) => [match P.info? e with | some i=>i.size | none=>0]
  | some (.struct a)=>a.toList.flatMap fun f=>PZ P k f.type
  | some (.array n e)=>(List.replicate n (PZ P k e)).flatten
  | _ => [0]
def a3T (v:Value):Option PV:=if v.oneCell' then some (nz v) else none
def aQI:TypeDesc->Bool
 | .struct _=>true
 | .array _ _=>true
 | _=>false
def ti (P:Program) (t:TypeId):Option TI :=
 match P.info? t with
 | none=>none
 | some i=>match i.zero,P.underlying t with
  | some z,some d=>if z.cells.toList.all (·.oneCell')&&z.cells.size==i.size then some ⟨i.size,i.bytes,aQI d,z.cells.toList.map nz⟩ else none
  | _,_=>none
def fieldsOf (P:Program) (t:TypeId):Option (List (Nat×Nat×Bool)) :=
 match P.underlying t with
 | some (.struct a)=>a.toList.mapM fun f=>(ti P f.type).map fun i=>(f.offset,i.size,i.agg)
 | _=>none
def xq (P:Program) (t:TypeId):Option TypeId:=match P.underlying t with | some (.slice e)=>some e | _=>none
def kR (P:Program) (t:TypeId):Option TI:=(xq P t).bind (ti P)
def Gi (P:Program) (t:TypeId):Option (Nat×TI):=match P.underlying t with | some (.array n e)=>(ti P e).map fun i=>(n,i) | _=>none
theorem KF (h:u.oneCell'=true):eU m K (nz u) u:=by
 cases u with
 | int k n=>rfl
 | bool b=>rfl
 | string s=>rfl
 | pointer a=>cases a with
  | none=>rfl
  | some a=>exact Dz.2 ⟨rfl,h⟩
 | slice a n c=>cases a with
  | none =>
   simp only[nz];split
   .rename_i e; obtain ⟨rfl,rfl⟩:=e;exact jo.2 ⟨none,0,rfl,dG _,by simp,fun _=>⟨rfl,rfl,rfl⟩,by simp⟩
   .exact Dz.2 ⟨rfl,h⟩
  | some a=>exact Dz.2 ⟨rfl,h⟩
 | func i f c =>
  simp only[nz];split
  .have d:f = #[]:=by grind
   have g:c = #[]:=by grind
   subst d; subst g;exact Am.2 ⟨#[],#[],rfl,fA.2 rfl,fA.2 rfl⟩
  .exact Dz.2 ⟨rfl,h⟩
 | _=>exact Dz.2 ⟨rfl,h⟩
theorem aZ4 (v:Value):(nz v).own=true->v = .slice none 0 0:=by
 intro h;cases v with
 | slice a n c=>cases a with
  | none =>grind [nz,PV.own]
  | some a=>simp[nz,PV.own] at h
 | pointer a=>cases a<;>simp[nz,PV.own] at h
 | func b f c =>grind [nz,PV.own]
 | _=>simp[nz,PV.own] at h
theorem aC5 (v:Value) (b:Nat):bY (nz v) v b=0:=by unfold bY;grind [aZ4]
theorem c1C (v:Value) (l:List UInt8):nz v ≠ .dn l:=by unfold nz; split<;>first | (cases h) | grind
theorem c1E (v:Value) (n z:Nat) (a:List PV):nz v ≠ .iI true n z a:=by unfold nz; split<;>first | (cases h) | grind
theorem aEQ (v:Value):Tl m y (nz v) v:=by refine SK (c1C v) ?_ (c1E v);intro b c A n a e ev;have:=aZ4 v (by rw[e]; rfl);rw[ev] at this;simp_all
theorem aVY (z:Nat) (h:eU m K x u):eU m K (x.Fb z) u:=by
 cases x with
 | sl o s a =>rw[PV.Fb];grind [aU4]
 | _=>exact h
def bY7 (z:Nat) (p:PV):(p.Fb z).own=p.own:=by
 cases p with
 | sl o s a =>
  rw[PV.Fb];split
  .exact bTZ
  .rfl
 | _=>rfl
theorem Na (h:eU m K (.sl g 0 l) u):u = .slice none 0 0/\l = []:=by obtain ⟨A,c,rfl,a,b,d,e⟩:=jo.1 h;simp_all
def b'R (z:Nat) (a:eU m K x u) (h:Tl m y x u):Tl m y (x.Fb z) u:=by
 cases x with
 | sl o s b =>
  rw[PV.Fb];split
  .rename_i e; subst e;obtain ⟨rfl,rfl⟩:=Na a;exact aU5
  .exact h
 | _=>exact h
def X9:List Nat->List PV->List PV
 | z::b,p::a=>p.Fb z::X9 b a
 | _,a=>a
def PV.Ap (a:List Nat):PV->PV
 | .agg b => .agg (X9 a b)
 | p=>p.Fb (a.headD 0)
def aW3 {M:Mem} {B:aS}:∀ {c:List Nat} {a:List PV} {b:List Value},au M B a b->au M B (X9 c a) b
 | [],a,b,h=>by cases a<;>exact h
 | z::c,[],b,h=>h
 | z::c,p::a,b,h=>by obtain ⟨u,d,rfl,e,f⟩:=dO.1 h;exact dO.2 ⟨u,d,rfl,aVY z e,aW3 f⟩
theorem X7 (a:List Nat) (h:eU m K x u):eU m K (x.Ap a) u:=by
 cases x with
 | agg d=>obtain ⟨b,rfl,c⟩:=qU.1 h; exact qU.2 ⟨b,rfl,aW3 c⟩
 | _=>exact aVY (a.headD 0) h
theorem aW4 (a:List Nat) (p:PV):(p.Ap a).own=p.own:=by
 cases p with
 | agg c=>rfl
 | sl o s b=>exact bY7 (a.headD 0) (.sl o s b)
 | _=>rfl
theorem aV5 (a:List Nat) (p:PV) (v:Value) (b:Nat):bY (p.Ap a) v b=bY p v b:=by unfold bY; rw[aW4]
theorem aY6 (a:List Nat) (b:eU m K x u) (h:Tl m y x u):Tl m y (x.Ap a) u:=by
 cases x with
 | agg c=>exact gU rfl
 | _=>exact b'R (a.headD 0) b h
def PV.Js (z:Nat):PV->PV
 | .sl o s a=>if s=0 then Hz z true a else .sl o s a
 | p=>p
def zJ:List Nat->List PV->List PV
 | z::b,p::a=>p.Js z::zJ b a
 | _,a=>a
theorem bXV (z:Nat) (h:eU m K x u):eU m K (x.Js z) u:=by
 cases x with
 | sl o s a =>rw[PV.Js];grind [aU4]
 | _=>exact h
theorem b'Q (z:Nat) (a:eU m K x u) (h:Tl m y x u):Tl m y (x.Js z) u:=by
 cases x with
 | sl o s b =>
  rw[PV.Js];split
  .rename_i e; subst e;obtain ⟨rfl,rfl⟩:=Na a;exact aU5
  .exact h
 | _=>exact h
theorem bUP {M:Mem} {B:aS} (z:Nat) (a:eU M B x u) (b:Nat):bY (x.Js z) u b=bY x u b:=by
 cases x with
 | sl o s c =>rw[PV.Js];grind [Na,bY]
 | _=>rfl
theorem aUJ {M:Mem} {B:aS} (h:a3T u=some x):eU M B x u/\(∀ b,bY x u b=0)/\∀ w,Tl M w x u:=by grind [a3T,KF,aC5,aEQ]
structure sD (P:Program) (t:TypeId) (I:TI) (i:TypeInfo) (z:Value) (d:TypeDesc):Prop where
 info:P.info? t=some i
 zero:i.zero=some z
 und:P.underlying t=some d
 one:∀ v,v∈z.cells->v.oneCell'=true
 L9:z.cells.size=i.size
 size:I.size=i.size
 bytes:I.bytes=i.bytes
 agg:I.agg=aQI d
 Vp:I.zero=z.cells.toList.map nz
variable {f:Program} {h:TI}
theorem IU (a:ti f e=some h):∃ i z d,sD f e h i z d:=by
 unfold ti at a;split at a
 .cases a
 .rename_i i c;split at a
  .rename_i z d g j;split at a
   .rename_i b;cases a;simp only[bH,ja,qG] at b;exact ⟨i,z,d,c,g,j,fun v hv=>b.1 v (by grind),b.2,rfl,rfl,rfl,rfl⟩
   .cases a
  .cases a
section
variable {P:Program} {t:TypeId} {I:TI} {i:TypeInfo} {z:Value} {d:TypeDesc}
def sD.run_sizeOf (h:sD P t I i z d) (w:World):(sizeOf t).run P w = .ok I.size w:=by simp[sizeOf,typeInfo,h.info,h.size]
def sD.aE0 (h:sD P t I i z d) (w:World):(isAgg t).run P w = .ok I.agg w:=by unfold isAgg;rw[nO,gJ h.und w,h.agg];cases d<;>rfl
def sD.bYP (h:sD P t I i z d) (w:World):(zeroValue t).run P w = .ok z w:=by simp[zeroValue,typeInfo,h.info,h.zero]
end
theorem aTE {d c:Type} (f:d->Option c):∀ {l:List d} {r:List c},l.mapM f=some r->∀ {j:Nat} {y:c},r[j]? = some y->∃ x,l[j]? = some x/\f x=some y
 | [],r,h,j,y,e=>by simp_all
 | a::l,r,h,j,y,e=>by
  cases i:f a with
  | none=>grind
  | some b =>
   cases g:l.mapM f with
   | none=>simp_all
   | some bs =>
    simp[i,g] at h;subst h;cases j with
    | zero=>simp_all
    | succ j=>obtain ⟨x,m,n⟩:=aTE f g (by simpa using e); simp_all
theorem aJI {c:List (Nat×Nat×Bool)} (h:fieldsOf f e=some c) {z:Nat} (m:c[b]? = some (j,z,g)) :
 ∃ l a I i n d,f.underlying e=some (.struct l)/\l[b]? = some a/\a.offset=j/\sD f a.type I i n d/\I.size=z/\I.agg=g:=by
 unfold fieldsOf at h;split at h
 .obtain ⟨a,p,q⟩:=aTE _ h m;grind [ti,IU]
 .cases h
theorem zx (a:kR f e=some h):∃ b i z d,f.underlying e=some (.slice b)/\sD f b h i z d:=by grind [kR,xq,IU]
theorem YN (a:Gi f e=some (b,h)):∃ c i z d,f.underlying e=some (.array b c)/\sD f c h i z d:=by
 unfold Gi at a;split at a
 grind [ti,IU]
 .cases a
def PV.one:PV->Bool
 | .agg _=>false
 | .tuple _=>false
 | _=>true
def yK (a:List PV) (o z:Nat) (g:Bool):Option PV :=if g then (if o+z<=a.length then some (.agg ((a.drop o).take z)) else none) else (a[o]?).bind fun p=>if p.one then some p.un else none
def XM (q:PV) (o z:Nat) (g:Bool):Option PV :=
 match q with
 | .ptr i a=>some (.ptr i (a+o))
 | .cst (.agg b)=>(yK b o z g).map .cst
 | _=>none
def Qj (c:BinOp) (k:IntKind) (a b:Int):Option PV :=
 match c with
 | .add=>some (.int k (k.wrap (a+b)))
 | .sub=>some (.int k (k.wrap (a-b)))
 | .mul=>some (.int k (k.wrap (a*b)))
 | .quo=>if b=0 then none else some (.int k (k.wrap (a.tdiv b)))
 | .rem=>if b=0 then none else some (.int k (a.tmod b))
 | .and=>some (.int k (k.wrap (BitVec.ofInt k.bits a &&& BitVec.ofInt k.bits b).toNat))
 | .or=>some (.int k (k.wrap (BitVec.ofInt k.bits a ||| BitVec.ofInt k.bits b).toNat))
 | .eql=>some (.bool (a==b))
 | .neq=>some (.bool (a != b))
 | .lss=>some (.bool (decide (a<b)))
 | .leq=>some (.bool (decide (a<=b)))
 | .gtr=>some (.bool (decide (b<a)))
 | .geq=>some (.bool (decide (b<=a)))
 | _=>none
def Rz (c:BinOp) (k:IntKind) (a b:Int):Option PV :=
 if b<0 then none else match c with
 | .shl=>some (.int k (k.wrap (a*2 ^ min b.toNat k.bits)))
 | .shr=>some (.int k (a.fdiv (2 ^ min b.toNat k.bits)))
 | _=>none
def XL (c:BinOp) (a b:ByteArray):Option PV :=
 match c with
 | .add=>if a.size+b.size<=aO then some (.str (a ++ b)) else none
 | .eql=>some (.bool (a.toList==b.toList))
 | .neq=>some (.bool (!(a.toList==b.toList)))
 | _=>none
def aI0 (c:BinOp) (a b:Bool):Option PV :=
 match c with
 | .eql=>some (.bool (a==b))
 | .neq=>some (.bool (!(a==b)))
 | _=>none
def Hy (b:BinOp) (a:Bool):Option PV :=
 match b with
 | .eql=>some (.bool a)
 | .neq=>some (.bool (!a))
 | _=>none
def aA4 (P:Program) (t:TypeId):Bool:=P.underlying t matches some .bool
def Vl (P:Program) (t:TypeId):Bool:=P.underlying t matches some (.pointer _)
def Qm (P:Program) (t:TypeId):Bool:=P.underlying t matches some (.func _ _ _)
def uk (P:Program) (t:TypeId):Bool:=P.underlying t matches some .string
def aQD (P:Program) (t:TypeId):Option IntKind:=match P.underlying t with | some (.int k)=>some k | _=>none
def UR (P:Program) (E:TypeId->PV->PV->Option Bool) (a c:List PV):List Field->Option Bool
 | []=>some true
 | f::d=>if f.name = "_" then none else match ti P f.type with
  | some I=>(match yK a f.offset I.size I.agg,yK c f.offset I.size I.agg with
   | some p,some q=>(match E f.type p q,UR P E a c d with
    | some b,some r=>some (b&&r)
    | _,_=>none)
   | _,_=>none)
  | none=>none
def UT (P:Program):Nat->TypeId->PV->PV->Option Bool
 | 0,_,_,_=>none
 | k+1,t,x,y=>match P.underlying t,x,y with
  | some (.int _),.int q a,.int c b=>if q=c then some (a==b) else none
  | some .bool,.bool a,.bool b=>some (a==b)
  | some .string,.str a,.str b=>some (a.toList==b.toList)
  | some (.struct d),.agg e,.agg f=>if P.stoodInHeld t=true then none else UR P (UT P k) e f d.toList
  | _,_,_=>none
def Eg (P:Program) (c:BinOp) (t:TypeId) (x y:PV):Option PV :=
 match x,y with
 | .int k a,.int d b =>
  (match c with
  | .shl | .shr=>Rz c k a b
  | _=>if k=d then Qj c k a b else none)
 | .str a,.str b=>XL c a b
 | .bool a,.bool b=>if aA4 P t then aI0 c a b else none
 | .ptr _ _,.nilp=>if Vl P t then Hy c false else none
 | .cst _,.nilp=>if Vl P t then Hy c false else none
 | .nilp,.nilp=>if Vl P t then Hy c true else none
 | .func _ _ _,.raw .nilFunc=>if Qm P t then Hy c false else none
 | .raw .nilFunc,.raw .nilFunc=>if Qm P t then Hy c true else none
 | .agg e,.agg f=>if P.eqGuardType P.depth t=true then none else (UT P 12 t (.agg e) (.agg f)).bind (Hy c)
 | _,_=>none
def a5M (a:UnOp) (x:PV):Option PV :=
 match a,x with
 | .neg,.int k n=>some (.int k (k.wrap (0-n)))
 | .not,.bool b=>some (.bool (!b))
 | _,_=>none
def ZA (x:PV) (i:Nat):Option PV:=match x with | .tuple a=>(a[i]?).map PV.un | _=>none
def a3C (P:Program) (t:TypeId) (x:PV):Option PV :=
 match x with
 | .str s=>if uk P t then some (.int .i64 s.size) else none
 | .sl _ _ a=>(xq P t).map fun _ => .int .i64 a.length
 | .slh _ _ n _=>(xq P t).map fun _ => .int .i64 n
 | .iI _ n _ _=>(xq P t).map fun _ => .int .i64 n
 | _=>none
def r_:PV->Bool
 | .int k _=>k == .u8
 | _=>false
def Yf:PV->Int
 | .int _ n=>n
 | _=>0
def a7E (a:List PV):Bool:=a.all r_
def strOf (a:List PV):ByteArray:=(a.map Yf).foldl (fun r n=>r.push (UInt8.ofNat n.toNat)) ByteArray.empty
def Ql (P:Program) (s:TypeId):Bool:=match P.underlying s with
 | some (.slice e)=>(match P.underlying e with | some (.int k)=>k == .u8 | _=>false)
 | _=>false
def UN (P:Program) (s d:TypeId) (x:PV):Option PV :=
 match x with
 | .sl _ _ b=>if Ql P s=true/\uk P d=true/\a7E b=true then some (.str (strOf b)) else none
 | .int _ n=>match aQD P d with | some k=>(match P.underlying s with | some _=>some (.int k (k.wrap n)) | none=>none) | none=>none
 | .str a=>match P.underlying s,P.underlying d with | some .string,some .string=>some (.str a) | _,_=>none
 | _=>none
def a3K:List PV->Option PV
 | [.int k a,.int c b]=>if k=c then some (.int k (if b<a then b else a)) else none
 | _=>none
def a3J:List PV->Option PV
 | [.int k a,.int e b]=>if k=e then some (.int k (if b>a then b else a)) else none
 | [.int k a,.int k1 b,.int k2 c,.int k3 d]=>if k=k1/\k=k2/\k=k3 then some (.int k (if d>(if c>(if b>a then b else a) then c else (if b>a then b else a)) then d else (if c>(if b>a then b else a) then c else (if b>a then b else a)))) else none
 | _=>none
def xI (P:Program) (t:TypeId) (x:PV) (c e:Option PV):Option PV :=
 let a (d:Nat):Option PV->Option Int
  | none=>some d
  | some (.int _ n)=>some n
  | _=>none
 match x with
 | .str s=>match a 0 c,a s.size e with
  | some l,some h=>if uk P t/\0<=l/\l<=h/\h<=s.size then some (.str (s.extract l.toNat h.toNat)) else none
  | _,_=>none
 | .sl _ b f=>match a 0 c,a f.length e with
  | some l,some h=>if (kR P t).map TI.size=some b/\0<=l/\l<=h/\h<=f.length then some (.sl false b ((f.take h.toNat).drop l.toNat)) else none
  | _,_=>none
 | .slh i g n b=>match a 0 c,a n e with
  | some l,some h=>if (kR P t).map TI.size=some b/\0<=l/\l<=h/\h<=n/\0<b then (if l<n then some (.slh i (g+l.toNat*b) (h.toNat-l.toNat) b) else some (.sl false b [])) else none
  | _,_=>none
 | _=>none
def a4X (P:Program) (t:TypeId) (x a b c:PV):Option PV :=
 match x,a,b,c with
 | .sl _ d e,.int _ l,.int _ h,.int _ m=>if (kR P t).map TI.size=some d/\0<=l/\l<=h/\h<=m/\m<=e.length then some (.sl false d ((e.take h.toNat).drop l.toNat)) else none
 | _,_,_,_=>none
def kQ:List (Option PV)->Option (List PV)
 | []=>some []
 | none::_=>none
 | some p::l=>(kQ l).map (p :: ·)
def PV.newCells (p:PV):Option (List PV):=match p with | .agg a=>if a.all PV.one then some (a.map PV.un) else none | q=>if q.one then some [q.un] else none
def Gu (a:Nat->Option (Nat×Nat)):List PV->List (Nat×PV)->Option (List PV)
 | cs,[]=>some cs
 | cs,(i,p)::b=>match a i,p.newCells with
  | some (o,z),some new=>if new.length=z/\o+z<=cs.length then Gu a (cs.take o ++ new ++ cs.drop (o+z)) b else none
  | _,_=>none
def uu (rd:Operand->Option PV):List (Nat×Operand)->Option (List (Nat×PV))
 | []=>some []
 | (i,x)::l=>match rd x,uu rd l with
  | some p,some a=>some ((i,p)::a)
  | _,_=>none
def IA (P:Program) (rd:Operand->Option PV) (c:Call):Option PV :=
 match c.callee with
 | .builtin .len=>(match c.args.toList,c.argTypes.toList with
  | [x],[t]=>(rd x).bind (a3C P t)
  | _,_=>none)
 | .builtin .min=>(kQ (c.args.toList.map rd)).bind a3K
 | .builtin .max=>(kQ (c.args.toList.map rd)).bind a3J
 | _=>none
def pop (P:Program) (rd:Operand->Option PV):Op->Option PV
 | .move x=>rd x
 | .assign x=>rd x
 | .pick c a b=>match rd c with
  | some (.bool c)=>if c then rd a else rd b
  | _=>none
 | .fieldAddr s x f=>match fieldsOf P s,rd x with
  | some p,some q=>(p[f]?).bind fun (o,z,g)=>if z=0 then none else XM q o z g
  | _,_=>none
 | .field s x f=>match fieldsOf P s,rd x with
  | some p,some (.agg r)=>(p[f]?).bind fun (o,z,g)=>yK r o z g
  | _,_=>none
 | .indexAddr t x i=>match rd x,rd i with
  | some (.sl _ v B),some (.int _ n)=>if (kR P t).map TI.size=some v/\0<=n then (B[n.toNat]?).map .cst else none
  | some (.slh i j m v),some (.int _ n)=>if (kR P t).map TI.size=some v/\0<=n/\n<m then some (.ptr i (j+n.toNat*v)) else none
  | some (.ptr i j),some (.int _ n)=>match Gi P t with
   | some (m,I)=>if 0<=n/\n<m then some (.ptr i (j+n.toNat*I.size)) else none
   | none=>none
  | some (.cst (.agg r)),some (.int _ n)=>match Gi P t with
   | some (m,I)=>if 0<=n/\n<m then (yK r (n.toNat*I.size) I.size I.agg).map .cst else none
   | none=>none
  | _,_=>none
 | .index t x i=>match rd x,rd i with
  | some (.str s),some (.int _ n)=>if uk P t/\0<=n then (s[n.toNat]?).map fun b => .int .u8 b.toNat else none
  | some (.agg r),some (.int _ n)=>match Gi P t with
   | some (m,I)=>if 0<=n/\n<m then yK r (n.toNat*I.size) I.size I.agg else none
   | none=>none
  | _,_=>none
 | .slice t x C D none=>match rd x with
  | some q=>match C,D with
   | none,none=>xI P t q none none
   | some l,none=>(rd l).bind fun a=>xI P t q (some a) none
   | none,some h=>(rd h).bind fun b=>xI P t q none (some b)
   | some l,some h=>(rd l).bind fun a=>(rd h).bind fun b=>xI P t q (some a) (some b)
  | none=>none
 | .slice t x (some l) (some h) (some m)=>match rd x,rd l,rd h,rd m with
  | some q,some a,some b,some c=>a4X P t q a b c
  | _,_,_,_=>none
 | .binOp w t x y _=>match rd x,rd y with
  | some a,some b=>Eg P w t a b
  | _,_=>none
 | .unOp w _ x=>(rd x).bind (a5M w)
 | .convert s d x=>(rd x).bind (UN P s d)
 | .makeFunc E first u=>match kQ (first.toList.map rd),kQ (u.toList.map rd) with
  | some f,some c=>some (.func E f c)
  | _,_=>none
 | .extract x i=>(rd x).bind (ZA · i)
 | .nilCheck x=>match rd x with
  | some (.ptr i o)=>some (.ptr i o)
  | some (.cst e)=>some (.cst e)
  | some (.func (.func f) a b)=>some (.func (.func f) a b)
  | _=>none
 | .build t F=>match ti P t,uu rd F.toList with
  | some I,some A=>match fieldsOf P t,Gi P t with
   | some p,none=>(Gu (fun i=>(p[i]?).map fun f=>(f.1,f.2.1)) (I.zero.map PV.un) A).map .agg
   | none,some (_,J)=>(Gu (fun i=>some (i*J.size,J.size)) (I.zero.map PV.un) A).map .agg
   | _,_=>none
  | _,_=>none
 | .call c=>IA P rd c
 | _=>none
section
abbrev ai:=List PV
abbrev f_:=List UInt8
abbrev aN (n:Int):PV:=.int .i64 n
variable {P:Program} {M:Mem} {B:aS} {L:ai}
theorem aDU {a:List Value} (h:au M B L a) (o z:Nat):au M B ((L.drop o).take z) ((a.drop o).take z):=by have b:=ou h;grind [KG,wB]
theorem extract_toList (a:Array Value) (o z:Nat):(a.extract o (o+z)).toList=(a.toList.drop o).take z:=by simp_all
theorem aYM (p:PV):p.un.one=p.one:=by cases p<;>rfl
theorem a5E (a:au M B L O.toList) {i:TypeInfo} {d:TypeDesc} (l:sD P e h i u d) (f:yK L b h.size h.agg=some x) (w:World) :
 ∃ v,(part e O b).run P w = .ok v w/\eU M B x v/\x.own=false:=by
 unfold yK at f;unfold part;rw[nO,l.aE0 w];split at f
 .rename_i n;split at f
  .cases f;simp only[n,CQ,xU,nO,l.run_sizeOf w];exact ⟨_,rfl,qU.2 ⟨_,rfl,by rw[extract_toList]; exact aDU a _ _⟩,rfl⟩
  .cases f
 .cases m:L[b]? with
  | none=>simp_all
  | some q =>
   simp only[m,Ot] at f;split at f
   .cases f;obtain ⟨c,y,r⟩:=wB a m;have g:O[b]? = some c:=by grind
    have j:h.agg=false:=by grind
    simp only[j,g];exact ⟨c,rfl,qB.2 r,rH q⟩
   .cases f
theorem DZ (a:x.one=true):Loc M B x b j↔∃ u,M b j=some u/\eU M B x u :=Aa (by cases x<;>first | rfl | (simp[PV.one] at a)) (fun c e=>by grind [PV.one])
variable {X:Nat}
theorem aY0 (h:n_ M B L b j) {z:Nat} (c:yK L X z g=some x):Loc M B x b (j+X):=by
 unfold yK at c;split at c
 .split at c
  .cases c;refine zI.2 (Gm fun a q hq => ?_);grind [Ph]
  .cases c
 grind [aBD,DZ,Ph]
theorem jL (b o k:Nat):(⟨b,o,none⟩:Addr).add k=⟨b,o+k,none⟩:=by grind [Addr.add]
variable {D:PV}
theorem b'A (hq:eU M B x u) {t:List (Nat×Nat×Bool)} (y:fieldsOf P e=some t) (A:t[b]? = some (j,X,g)) (C:X≠0) (m:XM x j X g=some D) (w:World) :
 ∃ a,(Instr.fieldAt e u b).run P w = .ok a w/\eU M B D a/\D.own=false:=by
 obtain ⟨Q,F,I,i,S,d,E,G,H,J,n,K⟩:=aJI y A;subst H; subst n; subst K;have run:∀ h l,(Instr.fieldAt e (.pointer (some ⟨h,l,none⟩)) b).run P w = .ok (.pointer (some ⟨h,l+F.offset,none⟩)) w:=fun h l=>by simp[Instr.fieldAt,gJ E,G,Instr.sureAddr,fieldPlace,J.run_sizeOf w,C,jL]
 unfold XM at m;split at m
 .cases m;obtain ⟨c,L,rfl⟩:=xH.1 hq;exact ⟨_,run _ _,xH.2 ⟨c,L,rfl⟩,rfl⟩
 .rename_i N;cases hv:yK N F.offset I.size I.agg with
  | none=>simp_all
  | some r =>simp[hv] at m; subst m;obtain ⟨h,l,rfl,O⟩:=Bo.1 hq;exact ⟨_,run _ _,Bo.2 ⟨h,_,rfl,aY0 (zI.1 O) hv⟩,rfl⟩
 .cases m
variable {a':BinOp} {b1:IntKind} {b3:Int}
def bPN (h:Qj a' b1 C b3=some x) (c:a' ≠ .shl/\a' ≠ .shr) (t:TypeId) (w:World) :
 ∃ v,(binOp a' t (.int b1 C) (.int b1 b3)).run P w = .ok v w/\eU M B x v/\x.own=false:=by
 cases a'<;>simp only[Qj,reduceCtorEq] at h<;>first
  | (cases h; exact ⟨_,by simp[binOp,Op.intBits]; first | rfl | done,by first | exact fH.2 rfl | exact kw.2 rfl,rfl⟩)
  | (split at h; exact absurd h (by simp); rename_i d; cases h; exact ⟨_,by simp[binOp,Op.intDiv,d]; first | rfl | done,by rfl,rfl⟩)
  | (exact absurd rfl c.1)
  | (exact absurd rfl c.2)
def aX5 {d:IntKind} (h:Rz a' b1 C b3=some x) (t:TypeId) (w:World) :
 ∃ v,(binOp a' t (.int b1 C) (.int d b3)).run P w = .ok v w/\eU M B x v/\x.own=false:=by
 unfold Rz at h;split at h
 .cases h
 .rename_i c;cases a'<;>simp only[reduceCtorEq] at h
  .cases h; exact ⟨_,by simp[binOp,Op.shift,c],fH.2 rfl,rfl⟩
  .cases h; exact ⟨_,by simp[binOp,Op.shift,c],fH.2 rfl,rfl⟩
theorem b'5 {b:ByteArray} (h:XL a' Q b=some x) (t:TypeId) (w:World) :
 ∃ v,(binOp a' t (.string Q) (.string b)).run P w = .ok v w/\eU M B x v/\x.own=false:=by
 cases a'<;>simp only[XL,reduceCtorEq] at h
 .split at h
  .cases h;have h':¬ (((Q.size+b.size:Nat):Int)>IntKind.i64.max):=by
    have:IntKind.i64.max=9223372036854775807:=by decide
    grind [aO]
   refine ⟨_,?_,jS.2 rfl,rfl⟩;simp only[binOp,Op.stringOp,aV h'];rfl
  .cases h
 .cases h; exact ⟨_,rfl,kw.2 rfl,rfl⟩
 .cases h; exact ⟨_,rfl,kw.2 rfl,rfl⟩
variable {A:Value}
theorem Es {x y:Operand} (d:u ≠ .nilIface/\∀ c,u ≠ .agg c) (w:World):(eqGuard a' e x y u A).run P w = .ok () w:=by
 cases u with
 | nilIface=>simp_all
 | agg c=>simp_all
 | _=>cases a'<;>simp[eqGuard]
def b3J (h:P.underlying e=some .bool) (d:Nat) (a b:Bool) (w:World):(Op.equalIn (d+1) e (.bool a) (.bool b)).run P w = .ok (a==b) w:=by rw[Op.equalIn,nO,gJ h w]; rfl
variable {H:TypeId}
def aIX (h:P.underlying e=some (.pointer H)) (d:Nat) (a:Addr) (w:World):(Op.equalIn (d+1) e (.pointer (some a)) (.pointer none)).run P w = .ok false w:=by rw[Op.equalIn,nO,gJ h w]; rfl
def b3M (h:P.underlying e=some (.pointer H)) (d:Nat) (w:World):(Op.equalIn (d+1) e (.pointer none) (.pointer none)).run P w = .ok true w:=by rw[Op.equalIn,nO,gJ h w]; rfl
variable {b4 d3:Array TypeId}
def b3L (h:P.underlying e=some (.func b4 d3 g)) (d:Nat) (f:Fn) (a b:Array Value) (w:World):(Op.equalIn (d+1) e (.func f a b) .nilFunc).run P w = .ok false w:=by rw[Op.equalIn,nO,gJ h w]; rfl
def b3K (h:P.underlying e=some (.func b4 d3 g)) (d:Nat) (w:World):(Op.equalIn (d+1) e .nilFunc .nilFunc).run P w = .ok true w:=by rw[Op.equalIn,nO,gJ h w]; rfl
def MP (h:∀ d,(Op.equalIn (d+1) e u A).run P y = .ok g y):(Op.equal e u A).run P y = .ok g y:=h 9999
theorem bPO (h:aA4 P e=true):P.underlying e=some .bool:=by grind [aA4]
theorem Vm (h:uk P e=true):P.underlying e=some .string:=by grind [uk]
theorem aA6 (h:Vl P e=true):∃ a,P.underlying e=some (.pointer a):=by grind [Vl]
theorem aQJ (h:Qm P e=true):∃ a b c,P.underlying e=some (.func a b c):=by grind [Qm]
def NZ (h:Hy a' g=some x) (he:(Op.equal e u A).run P y = .ok g y)
 (c:∀ a',a' = .eql\/a' = .neq->binOp a' e u A=(if a' = .eql then do pure (.bool (<- Op.equal e u A)) else do pure (.bool (!(<- Op.equal e u A))))) :
 ∃ v,(binOp a' e u A).run P y = .ok v y/\eU M B x v/\x.own=false:=by
 cases a'<;>simp only[Hy,reduceCtorEq] at h
 .cases h; rw[c _ (.inl rfl)]; exact ⟨.bool g,by simp[he],kw.2 rfl,rfl⟩
 .cases h; rw[c _ (.inr rfl)]; exact ⟨.bool (!g),by simp[he],kw.2 rfl,rfl⟩
theorem aIW {d:Nat} {E:TypeId->PV->PV->Option Bool} (e:∀ t x y r,E t x y=some r->∀ a b,eU M B x a->eU M B y b->∀ w,(Op.equalIn d t a b).run P w = .ok r w) {g j:ai} {l m:Array Value} (n:au M B g l.toList) (o:au M B j m.toList) (w:World) :
 ∀ (c:List Field) (r:Bool),UR P E g j c=some r->(Op.eqFields d l m c).run P w = .ok r w
 | [],r,h=>by simp[UR] at h; subst h; rfl
 | f::c,r,h=>by
  rw[UR] at h;split at h
  .cases h
  .rename_i C;split at h
   .rename_i I D;split at h
    .rename_i p q F hq;split at h
     .rename_i b G H J;injection h with h; subst h
      obtain ⟨i,z,S,A⟩:=IU D;obtain ⟨u,K,L,_⟩:=a5E n A F w;obtain ⟨v,N,O,_⟩:=a5E o A hq w;have Q:=e _ _ _ _ H u v L O w;have T:=aIW e n o w c G J;rw[Op.eqFields,ah C];simp only[nO,K,N,Q,xU];cases b
      .rfl
      simp_all
     .cases h
    .cases h
   .cases h
theorem aIY:∀ (k d:Nat) (t:TypeId) (x y:PV) (r:Bool),UT P k t x y=some r->∀ a b,eU M B x a->eU M B y b->∀ w,(Op.equalIn (d+k) t a b).run P w = .ok r w
 | 0,d,t,x,y,r,h,a,b,c,e,w=>by cases h
 | k+1,d,t,x,y,r,h,a,b,c,e,w=>by
  unfold UT at h;split at h
  .split at h
   .rw[fH.1 c,fH.1 e];grind [run_equalIn_int]
   .cases h
  .rw[kw.1 c,kw.1 e];grind [run_equalIn_bool]
  .rw[jS.1 c,jS.1 e];grind [run_equalIn_string]
  .rename_i g p q i;by_cases f:P.stoodInHeld t=true;simp_all
   .rw[aV f] at h;obtain ⟨l,rfl,m⟩:=qU.1 c;obtain ⟨n,rfl,o⟩:=qU.1 e;have j:P.fieldsOf t=g:=by simp[Program.fieldsOf,i]
    rw[show d+(k+1)=(d+k)+1 from rfl,run_equalIn_struct w (d+k) t l n (by rw[j]; exact i) (by simpa using f),j];exact aIW (fun t x y r h a b c e w=>aIY k d t x y r h a b c e w) m o w g.toList r h
  .cases h
theorem a_W {p:PV} (h:Eg P a' e x D=some p) (m:eU M B x u) (n:eU M B D A) (w:World) :
 (∀ X Y:Operand,(eqGuard a' e X Y u A).run P w = .ok () w)/\∃ v,(binOp a' e u A).run P w = .ok v w/\eU M B p v/\p.own=false:=by
 unfold Eg at h;split at h
 .rw[fH.1 m,fH.1 n];refine ⟨fun _ _=>Es ⟨by simp,by simp⟩ w,?_⟩;split at h
  .exact aX5 h e w
  .exact aX5 h e w
  .rename_i E F;split at h
   .rename_i g; subst g; exact bPN h ⟨fun g=>E g,fun g=>F g⟩ e w
   .cases h
 .rw[jS.1 m,jS.1 n]; exact ⟨fun _ _=>Es ⟨by simp,by simp⟩ w,b'5 h e w⟩
 .rename_i q o;rw[kw.1 m,kw.1 n];refine ⟨fun _ _=>Es ⟨by simp,by simp⟩ w,?_⟩;split at h
  .rename_i j;have l:=bPO j;have he:(Op.equal e (.bool q) (.bool o)).run P w = .ok (q==o) w:=MP fun d=>b3J l d q o w
   refine NZ ?_ he (fun a' i=>by rcases i with rfl|rfl<;>rfl);exact h
  .cases h
 .obtain ⟨c,L,rfl⟩:=xH.1 m;rw[KE.1 n];refine ⟨fun _ _=>Es ⟨by simp,by simp⟩ w,?_⟩;split at h
  .rename_i j;obtain ⟨g,l⟩:=aA6 j;refine NZ h (MP fun d=>aIX l d _ w) (fun a' i=>by rcases i with rfl|rfl<;>rfl)
  .cases h
 .obtain ⟨o,G,rfl,_⟩:=Bo.1 m;rw[KE.1 n];refine ⟨fun _ _=>Es ⟨by simp,by simp⟩ w,?_⟩;split at h
  .rename_i j;obtain ⟨g,l⟩:=aA6 j;refine NZ h (MP fun d=>aIX l d _ w) (fun a' i=>by rcases i with rfl|rfl<;>rfl)
  .cases h
 .rw[KE.1 m,KE.1 n];refine ⟨fun _ _=>Es ⟨by simp,by simp⟩ w,?_⟩;split at h
  .rename_i j;obtain ⟨g,l⟩:=aA6 j;refine NZ h (MP fun d=>b3M l d w) (fun a' i=>by rcases i with rfl|rfl<;>rfl)
  .cases h
 .obtain ⟨f,c,rfl,_,_⟩:=Am.1 m;rw[(Dz.1 n).1];refine ⟨fun _ _=>Es ⟨by simp,by simp⟩ w,?_⟩;split at h
  .rename_i j;obtain ⟨z,C,H,l⟩:=aQJ j;refine NZ h (MP fun d=>b3L l d _ _ _ w) (fun a' i=>by rcases i with rfl|rfl<;>rfl)
  .cases h
 .rw[(Dz.1 m).1,(Dz.1 n).1];refine ⟨fun _ _=>Es ⟨by simp,by simp⟩ w,?_⟩;split at h
  .rename_i j;obtain ⟨z,C,H,l⟩:=aQJ j;refine NZ h (MP fun d=>b3K l d w) (fun a' i=>by rcases i with rfl|rfl<;>rfl)
  .cases h
 .rename_i I J;obtain ⟨N,z,_⟩:=qU.1 m;obtain ⟨O,C,_⟩:=qU.1 n;split at h
  .cases h
  .cases he:UT P 12 e (.agg I) (.agg J) with
   | none=>rw[he] at h; cases h
   | some r =>rw[he] at h;have K:(Op.equal e u A).run P w = .ok r w:=aIY 12 9988 e _ _ r he u A m n w;refine ⟨fun X Y=>by grind [run_eqGuard_agg],NZ h K (fun a' i=>by rw[z]; rcases i with rfl|rfl<;>rfl)⟩
 .cases h
end
section
variable {P:Program} {M:Mem} {B:aS}
def b4E {a:Operand->Value} {o:Oper} {s:Sem Value} (h:execOp a o=(do pure (.value (<- s)))) (b:s.run P y = .ok u y):(execOp a o).run P y = .ok (.value u) y:=by rw[h]; simp[b]
variable {D:PV}
def bSE {ty:TypeId} (h:a3C P e x=some D) (g:eU M B x u) (w:World) :
 ∃ v,(Builtin.len_ #[e] ty #[u]).run P w = .ok v w/\eU M B D v/\D.own=false:=by
 have d:∀ {n:Nat} {A:Option Addr} {c:Nat},(xq P e).map (fun _=>PV.int .i64 n)=some D->∃ v,(Builtin.len_ #[e] ty #[.slice A n c]).run P w = .ok v w/\eU M B D v/\D.own=false:=by
  intro n A c h;unfold xq at h;split at h
  .rename_i b i;simp at h; subst h;exact ⟨_,by simp[Builtin.len_,gJ i]; rfl,fH.2 rfl,rfl⟩
  .simp at h
 unfold a3C at h;split at h
 .split at h
  .rename_i j; cases h;rw[jS.1 g];exact ⟨_,by simp[Builtin.len_,gJ (Vm j)]; rfl,fH.2 rfl,rfl⟩
  .cases h
 .obtain ⟨A,f,rfl,_⟩:=jo.1 g; exact d h
 .obtain ⟨c,f,_,rfl,_⟩:=uT.1 g; exact d h
 .obtain ⟨A,f,rfl,_⟩:=II.1 g; exact d h
 .cases h
theorem bPP (h:Ql P e=true):∃ a,P.underlying e=some (.slice a)/\P.underlying a=some (.int .u8):=by grind [Ql]
variable {L:ai}
theorem b0A (c:∀ (b o:Nat) (v:Value),M b o=some v->y.cell? ⟨b,o,none⟩=some v/\v.oneCell'=true) (g:a7E L=true) (h:lS M [] 1 L b j) :
 ∀ (a:Nat) v,((L.map Yf).map (Value.int .u8))[a]? = some v->y.cell? ⟨b,j+a,none⟩=some v:=by
 intro a v hv;simp only[lN,Option.map_map] at hv;obtain ⟨q,hq,rfl⟩:=LU.1 hv;have d:=FN h hq;have f:r_ q=true:=ja.1 g q (qh hq);cases q<;>simp[r_] at f
 subst f;obtain ⟨u,i,l⟩:=(Aa rfl (fun n e=>by cases e)).1 d;have m:u = .int .u8 _:=fH.1 l;subst m;have:=(c _ _ _ i).1;rwa [Nat.mul_one] at this
theorem b2I {d:TypeId} (h:UN P e d x=some D) (m:eU M B x u) (w:World) (C:∀ (b o:Nat) (v:Value),M b o=some v->w.cell? ⟨b,o,none⟩=some v/\v.oneCell'=true) :
 ∃ v,(convert e d u).run P w = .ok v w/\eU M B D v/\D.own=false:=by
 unfold UN at h;split at h
 .rename_i K E f;split at h
  .rename_i r;cases h;obtain ⟨c,g,he⟩:=bPP r.1;obtain ⟨A,i,rfl,_,t,_,F⟩:=jo.1 m;refine ⟨.string (strOf f),?_,jS.2 rfl,rfl⟩;rw[run_convert_bytes_string w e d c A f.length i g he (Vm r.2.1)];by_cases y:f = []
   .subst y;cases A with
    | none=>rfl
    | some A=>rfl
   .obtain ⟨b,l,rfl,L⟩:=F y;have N:E=1:=by
     obtain ⟨q,O,rfl⟩:=List.exists_cons_of_ne_nil y;have hq:=t q (by simp);have z:r_ q=true:=ja.1 r.2.2 q (by simp);cases q<;>simp[r_] at z
     exact hq.symm
    have:=run_loadCells_list (P:=P) w ⟨b,l,none⟩ ((f.map Yf).map (Value.int .u8)) (fun j v Q=>by rw[jL]; grind [b0A]);simp only[bM] at this;exact run_bytesToString w ⟨b,l,none⟩ f.length i (f.map Yf) this
  .cases h
 .rename_i k0 n;rw[fH.1 m];unfold aQD at h;split at h
  .rename_i k hk;split at hk
   .rename_i S G;cases hk;split at h
    .rename_i H g;cases h;refine ⟨.int k (k.wrap n),?_,fH.2 rfl,rfl⟩;unfold convert;rw[nO,gJ g w,xU,nO,gJ G w];cases H<;>rfl
    .cases h
   .cases hk
  .cases h
 .rename_i I;rw[jS.1 m];split at h
  .rename_i g J;cases h;refine ⟨.string I,?_,jS.2 rfl,rfl⟩;unfold convert;rw[nO,gJ g w,xU,nO,gJ J w];rfl
  .cases h
 .cases h
theorem YJ:∀ {l:List (Option PV)} {a:ai},kQ l=some a->l=a.map some
 | [],a,h=>by grind [kQ]
 | none::_,_,h=>by simp[kQ] at h
 | some p::l,a,h=>by
  rw[kQ] at h;cases b:kQ l with
  | none=>grind
  | some c=>simp[b] at h; subst h; simp[YJ b]
def O0 {rd:Operand->Option PV} {f:Operand->Value} (c:∀ x q,rd x=some q->eU M B q (f x)/\q.own=false):∀ {e:List Operand} {b:ai},kQ (e.map rd)=some b->au M B b (e.map f)/\∀ p,p∈b->p.own=false
 | [],b,h=>by simp[kQ] at h; subst h; exact ⟨fA.2 rfl,by simp⟩
 | x::e,b,h=>by
  have h':=YJ h;cases b with
  | nil=>simp at h'
  | cons p b =>
   simp only[wM,List.cons.injEq] at h';obtain ⟨g,i⟩:=h';have d:=O0 c (by
    rw[i];have:∀ b:ai,kQ (b.map some)=some b:=by
     intro b; induction b with
     | nil=>rfl
     | cons a l d=>simp[kQ,d]
    exact this b)
   exact ⟨dO.2 ⟨_,_,rfl,(c _ _ g).1,d.1⟩,fun q hq=>by
    rcases jr.1 hq with rfl | hq
    .exact (c _ _ g).2
    .exact d.2 q hq⟩
theorem aDV {c:List Value} (h:au M B [x,D] c):∃ a b,c = [a,b]/\eU M B x a/\eU M B D b:=by obtain ⟨a,f,rfl,g,d⟩:=dO.1 h;obtain ⟨b,i,rfl,j,e⟩:=dO.1 d;rw[fA] at e; grind
variable {b4:Array TypeId}
def bTN (h:a3K L=some x) {vs:Array Value} (hv:au M B L vs.toList) (w:World) :
 ∃ v,(Builtin.min_ b4 e vs).run P w = .ok v w/\eU M B x v/\x.own=false:=by
 unfold a3K at h;split at h
 .split at h
  .cases h;obtain ⟨a,b,c,d,f⟩:=aDV hv;rw[fH.1 d,fH.1 f] at c;refine ⟨_,?_,fH.2 rfl,rfl⟩;unfold Builtin.min_; rw[c];rfl
  .cases h
 .cases h
def bTD (h:a3J L=some x) {vs:Array Value} (hv:au M B L vs.toList) (w:World) :
 ∃ v,(Builtin.max_ b4 e vs).run P w = .ok v w/\eU M B x v/\x.own=false:=by
 unfold a3J at h;split at h
 .split at h
  .cases h;obtain ⟨a,b,f,g,i⟩:=aDV hv;rw[fH.1 g,fH.1 i] at f;refine ⟨_,?_,fH.2 rfl,rfl⟩;unfold Builtin.max_; rw[f];rfl
  .cases h
 .split at h
  .cases h;obtain ⟨a,n,f,g,j⟩:=dO.1 hv;obtain ⟨b,o,rfl,i,j⟩:=dO.1 j;obtain ⟨c,d,rfl,l,m⟩:=aDV j;rw[fH.1 g,fH.1 i,fH.1 l,fH.1 m] at f;refine ⟨_,?_,fH.2 rfl,rfl⟩;unfold Builtin.max_; rw[f];rfl
  .cases h
 .cases h
def b_W {b:UnOp} (h:a5M b x=some D) (c:eU M B x u) (w:World):∃ v,(Op.unary b u).run P w = .ok v w/\eU M B D v/\D.own=false:=by
 unfold a5M at h;split at h
 .cases h; rw[fH.1 c]; exact ⟨_,rfl,fH.2 rfl,rfl⟩
 .cases h; rw[kw.1 c]; exact ⟨_,rfl,kw.2 rfl,rfl⟩
 .cases h
theorem b4G (h:ZA x b=some D) (f:eU M B x u) (w:World):∃ v,(Instr.extract u b).run P w = .ok v w/\eU M B D v/\D.own=false:=by
 unfold ZA at h;split at h
 .rename_i g;obtain ⟨j,rfl,l⟩:=uU.1 f;cases e:g[b]? with
  | none=>grind
  | some q =>
   simp[e] at h; subst h;obtain ⟨c,m,hq⟩:=wB l e;have d:j[b]? = some c:=by grind
   exact ⟨c,by simp[Instr.extract,d],qB.2 hq,rH q⟩
 .cases h
def aBU (d:Nat):Option PV->Option Int
 | none=>some d
 | some (.int _ n)=>some n
 | _=>none
variable {b5:Option PV} {c4:Option Value}
theorem RZ (h:aBU b b5=some C) (a:(b5=none/\c4=none)\/∃ p v,b5=some p/\c4=some v/\eU M B p v) :
 (b5=none/\c4=none/\C=b)\/∃ k,c4=some (.int k C):=by
 rcases a with ⟨rfl,rfl⟩|⟨p,v,rfl,rfl,c⟩
 grind [aBU]
 .cases p<;>simp[aBU] at h
  subst h; rw[fH.1 c]; simp
variable {d5:Option Value} {b3:Int}
def a7D (c:(c4=none/\C=0)\/∃ k,c4=some (.int k C)) (d:(d5=none/\b3=b)\/∃ k,d5=some (.int k b3))
 (e:0<=C) (f:C<=b3) (i:b3<=b) (m:b<=j) (w:World):(Instr.sliceBounds g b j c4 d5 none).run P w = .ok (C.toNat,b3.toNat,j) w:=by
 rcases c with ⟨rfl,rfl⟩|⟨k,rfl⟩<;>rcases d with ⟨rfl,rfl⟩|⟨a,rfl⟩
 rfl
 .simp[Instr.sliceBounds,TN w a b3 j _ (by omega) (by omega)]
 .simp[Instr.sliceBounds,TN w k C b _ (by omega) (by omega)]
 .simp[Instr.sliceBounds,TN w a b3 j _ (by omega) (by omega),TN w k C b3.toNat _ (by omega) (by omega)]
def b03 {k1 k2 k3:IntKind} {m:Int} (a:0<=C) (c:C<=b3) (d:b3<=m) (e:m<=b) (f:b<=j) (w:World) :
 (Instr.sliceBounds true b j (some (.int k1 C)) (some (.int k2 b3)) (some (.int k3 m))).run P w = .ok (C.toNat,b3.toNat,m.toNat) w:=by
 simp[Instr.sliceBounds,TN w k3 m j _ (by omega) (by omega),TN w k2 b3 m.toNat _ (by omega) (by omega),TN w k1 C b3.toNat _ (by omega) (by omega)]
theorem bZQ {Q S pc:PV} (q:a4X P e x Q S pc=some D) {l h m:Value} (T:eU M B x u) (U:eU M B Q l) (V:eU M B S h) (X:eU M B pc m) (w:World) :
 ∃ v,(Instr.sliceAt e u (some l) (some h) (some m)).run P w = .ok v w/\eU M B D v/\D.own=false:=by
 unfold a4X at q;split at q
 .rename_i o r H k1 g k2 h' k3 J;obtain ⟨A,y,rfl,K,L,hz,Y⟩:=jo.1 T;obtain rfl:=fH.1 U;obtain rfl:=fH.1 V;obtain rfl:=fH.1 X;split at q
  .rename_i Z;obtain ⟨ht,b1,b2,b3,b4⟩:=Z;cases q;obtain ⟨I,hI,N⟩:=LU.1 ht;obtain ⟨c,i,z,d,hu,hT⟩:=zx hI;have C:P.underlying e=some (.slice (P.elem e)):=by simp[Program.elem,hu]
   have NI:P.elem e=c:=by simp_all
   have E:(Instr.sliceAt e (.slice A H.length y) (some (.int k1 g)) (some (.int k2 h')) (some (.int k3 J))).run P w = .ok (.slice (if J.toNat=g.toNat then A else A.map (·.add (g.toNat*r))) (h'.toNat-g.toNat) (J.toNat-g.toNat)) w:=by rw[run_sliceAt_slice w e _ _ _ _ C,run_slice_any w e A H.length y C,b03 b1 b2 b3 b4 K w,xU,NI,hT.run_sizeOf w];simp[sliced,N]
   refine ⟨_,E,jo.2 ⟨_,_,by simp only[xR,vK]; rw[Nat.min_eq_left (by omega)],?_,fun c he=>L c (TD (List.mem_of_mem_drop he)),fun h0=>by grind,?_⟩,rfl⟩;grind
   .intro O;have f:((H.take h'.toNat).drop g.toNat).length≠0:=fun c=>O (qg c)
    simp only[xR,vK] at f;obtain ⟨b,n,rfl,F⟩:=Y (fun c=>by rw[c] at f; simp at f);rw[aV (by omega)];refine ⟨b,n+g.toNat*r,by rw[Xt,jL],Ac fun j D G => ?_⟩;rw[Xe,nN] at G;split at G
    .have:=FN F G;rwa [show n+g.toNat*r+j*r=n+(g.toNat+j)*r by rw[qi]; omega]
    .cases G
  .cases q
 .cases q
theorem a4Y {hi:Option PV} (q:xI P e x b5 hi=some D) (ha:eU M B x u) 
 (hl:(b5=none/\c4=none)\/∃ D v,b5=some D/\c4=some v/\eU M B D v) (hh:(hi=none/\d5=none)\/∃ D v,hi=some D/\d5=some v/\eU M B D v) (w:World) :
 ∃ v,(Instr.sliceAt e u c4 d5 none).run P w = .ok v w/\eU M B D v/\D.own=false:=by
 unfold xI at q;simp only at q;split at q
 .rename_i s;rw[jS.1 ha];split at q
  .rename_i m h' O Q;split at q
   .rename_i S;obtain ⟨T,U,V,b3⟩:=S;cases q;have N:=Vm T;have E:(c4=none/\m=0)\/∃ k,c4=some (.int k m):=by
     rcases RZ O hl with ⟨_,X,Y⟩ | r
     simp_all;simp_all
    have F:(d5=none/\h'=s.size)\/∃ k,d5=some (.int k h'):=by
     rcases RZ Q hh with ⟨_,X,Y⟩ | r
     simp_all;simp_all
    refine ⟨_,?_,jS.2 rfl,rfl⟩;rw[run_sliceAt_string w e _ _ _ _ N];simp[Instr.slice,gJ N,a7D E F U V (by omega) (dG _) w]
   .cases q
  .cases q
 .rename_i o J es;obtain ⟨A,g,rfl,K,a',hz,hA⟩:=jo.1 ha;split at q
  .rename_i m h' O Q;split at q
   .rename_i S;obtain ⟨T,U,V,b3⟩:=S;cases q;obtain ⟨I,hI,L⟩:=LU.1 T;obtain ⟨f,i,z,d,N,hT⟩:=zx hI;have G:P.underlying e=some (.slice (P.elem e)):=by simp[Program.elem,N]
    have NI:P.elem e=f:=by simp_all
    have E:(c4=none/\m=0)\/∃ k,c4=some (.int k m):=by
     rcases RZ O hl with ⟨_,X,Y⟩ | r
     simp_all;simp_all
    have F:(d5=none/\h'=es.length)\/∃ k,d5=some (.int k h'):=by
     rcases RZ Q hh with ⟨_,X,Y⟩ | r
     simp_all;simp_all
    have y:(Instr.sliceAt e (.slice A es.length g) c4 d5 none).run P w = .ok (.slice (if g=m.toNat then A else A.map (·.add (m.toNat*J))) (h'.toNat-m.toNat) (g-m.toNat)) w:=by rw[run_sliceAt_slice w e _ _ _ _ G,run_slice_any w e A es.length g G,a7D E F U V b3 K w,xU,NI,hT.run_sizeOf w];simp[sliced,L]
    refine ⟨_,y,jo.2 ⟨_,_,by simp only[xR,vK]; rw[Nat.min_eq_left (by omega)],?_,fun f he=>a' f (TD (List.mem_of_mem_drop he)),fun h0=>by simp_all,?_⟩,rfl⟩;grind
    .intro b0;have H:((es.take h'.toNat).drop m.toNat).length≠0:=fun f=>b0 (qg f)
     simp only[xR,vK] at H;obtain ⟨b,C,rfl,Z⟩:=hA (fun f=>by rw[f] at H; simp at H);rw[aV (by omega)];refine ⟨b,C+m.toNat*J,by rw[Xt,jL],Ac fun j D hj => ?_⟩;rw[Xe,nN] at hj;split at hj
     .have:=FN Z hj;rwa [show C+m.toNat*J+j*J=C+(m.toNat+j)*J by rw[qi]; omega]
     .cases hj
   .cases q
  .cases q
 .rename_i i C n J;obtain ⟨c,g,b6,rfl,K,b7⟩:=uT.1 ha;split at q
  .rename_i m h' O Q;split at q
   .rename_i S;obtain ⟨T,U,V,b3,b4⟩:=S;obtain ⟨I,hI,L⟩:=LU.1 T;obtain ⟨f,i',z,d,N,hT⟩:=zx hI;have G:P.underlying e=some (.slice (P.elem e)):=by simp[Program.elem,N]
    have NI:P.elem e=f:=by simp_all
    have E:(c4=none/\m=0)\/∃ k,c4=some (.int k m):=by
     rcases RZ O hl with ⟨_,X,Y⟩ | r
     simp_all;simp_all
    have F:(d5=none/\h'=n)\/∃ k,d5=some (.int k h'):=by
     rcases RZ Q hh with ⟨_,X,Y⟩ | r
     simp_all;simp_all
    have y:(Instr.sliceAt e (.slice (some ⟨c.1,C,none⟩) n g) c4 d5 none).run P w = .ok (.slice (if g=m.toNat then some ⟨c.1,C,none⟩ else some ⟨c.1,C+m.toNat*J,none⟩) (h'.toNat-m.toNat) (g-m.toNat)) w:=by rw[run_sliceAt_slice w e _ _ _ _ G,run_slice_any w e _ n g G,a7D E F U V b3 K w,xU,NI,hT.run_sizeOf w];simp[sliced,L,jL]
    split at q
    .cases q;rw[aV (by omega)] at y;refine ⟨_,y,uT.2 ⟨c,g-m.toNat,b6,rfl,by omega,?_⟩,rfl⟩;have:m.toNat*J+(g-m.toNat)*J=g*J:=by rw[<- qi]; grind
     omega
    .cases q;refine ⟨_,y,jo.2 ⟨_,_,by rw[show h'.toNat-m.toNat=([]:ai).length by simp; omega],by simp,by simp,fun d5=>absurd d5 (by omega),fun h0=>absurd rfl h0⟩,rfl⟩
   .cases q
  .cases q
 .cases q
end
def a8F (a:Nat):∀ (l:List Value) (k:Nat) (b:Array Value),a+k+l.length<=b.size ->
 ((l.zipIdx k).foldl (fun (b:Array Value) (c:Value×Nat)=>b.setIfInBounds (a+c.2) c.1) b).toList=b.toList.take (a+k) ++ l ++ b.toList.drop (a+k+l.length)
 | [],k,b,_=>by simp
 | v::l,k,b,h=>by simp only[List.zipIdx_cons,List.foldl_cons];rw[a8F a l (k+1) _ (by simp at h ⊢; omega),aZ7];have:=list_seg_step b.toList (a+k) v l (by omega);rw[show a+(k+1)=a+k+1 by omega,this];simp[Nat.add_assoc]
section
variable {P:Program} {M:Mem} {B:aS} {L:ai} {S:List Value}
theorem Fa {a:ai} {b:List Value} (c:au M B L S) (d:au M B a b):au M B (L ++ a) (S ++ b):=by grind [KG,ou,wB]
theorem aW0 (h:au M B L S) (k:Nat):au M B (L.take k) (S.take k):=by have:=aDU h 0 k; simp_all
def bY0 (h:au M B L S) (k:Nat):au M B (L.drop k) (S.drop k):=by have:=aDU h k (L.length-k);have a:=ou h;rwa [TF (by simp),TF (by simp[a])] at this
theorem KH (h:au M B L S):au M B (L.map PV.un) S:=by
 refine KG (by simp[ou h]) fun j p u a b => ?_
 cases hq:L[j]? with
 | none=>simp_all
 | some q =>simp[hq] at a; subst a;obtain ⟨d,e,c⟩:=wB h hq;rw[e] at b; cases b; exact qB.2 c
def FU (h:x.one=true) (d:eU M B x u):u.cells = #[u]/\u.oneCell'=true:=by
 cases x with
 | int k n=>rw[fH.1 d]; exact ⟨rfl,rfl⟩
 | bool b=>rw[kw.1 d]; exact ⟨rfl,rfl⟩
 | str b=>rw[jS.1 d]; exact ⟨rfl,rfl⟩
 | nilp=>rw[KE.1 d]; exact ⟨rfl,rfl⟩
 | raw a=>obtain ⟨rfl,g⟩:=Dz.1 d; refine ⟨?_,g⟩; cases u<;>first | rfl | (simp[Value.oneCell'] at g)
 | ptr i j=>obtain ⟨c,_,rfl⟩:=xH.1 d; exact ⟨rfl,rfl⟩
 | dZ T i =>
  obtain ⟨c,_,t,g⟩:=IG.1 d;by_cases m:T=0
  .obtain ⟨_,rfl⟩:=t m; exact ⟨rfl,rfl⟩
  .have g:=g m;unfold YY at g;split at g
   .obtain ⟨_,rfl⟩:=g; exact ⟨rfl,rfl⟩
   .obtain ⟨_,rfl|rfl⟩:=g<;>exact ⟨rfl,rfl⟩
 | cst e=>obtain ⟨c,_,rfl,_⟩:=Bo.1 d; exact ⟨rfl,rfl⟩
 | sl o q w=>obtain ⟨A,c,rfl,_⟩:=jo.1 d; exact ⟨rfl,rfl⟩
 | slh i j n q=>obtain ⟨A,c,_,rfl,_⟩:=uT.1 d; exact ⟨rfl,rfl⟩
 | dn l=>obtain ⟨A,c,rfl,_⟩:=Oe.1 d; exact ⟨rfl,rfl⟩
 | iI o n q r=>obtain ⟨A,c,rfl,_⟩:=II.1 d; exact ⟨rfl,rfl⟩
 | mp l=>obtain ⟨f,rfl,_⟩:=aVW.1 d; exact ⟨rfl,rfl⟩
 | func y f c=>obtain ⟨f,c,rfl,_⟩:=Am.1 d; exact ⟨rfl,rfl⟩
 | agg r=>simp[PV.one] at h
 | tuple r=>simp[PV.one] at h
theorem WT {new:ai} (h:x.newCells=some new) (a:eU M B x u):au M B new u.cells.toList/\∀ q,q∈new->q.own=false:=by
 unfold PV.newCells at h;split at h
 .split at h
  .cases h;obtain ⟨d,rfl,b⟩:=qU.1 a;exact ⟨KH b,fun q hq=>by grind [rH]⟩
  .cases h
 .split at h
  .rename_i c;cases h;rw[(FU c a).1];exact ⟨dO.2 ⟨u,[],rfl,qB.2 a,fA.2 rfl⟩,fun q hq=>by rw[TE.1 hq]; exact rH x⟩
  .cases h
theorem aT' {new:ai} (h:x.newCells=some new) (f:eU M B x u):∀ a,a∈u.cells.toList->a.oneCell'=true:=by
 have d:=(WT h f).1;have g:∀ q,q∈new->q.one=true:=by unfold PV.newCells at h;grind [aYM]
 intro a i;obtain ⟨j,b⟩:=zg.1 i;have n:=ou d;have l:=(iY.1 b).1;have m:new[j]? = some (new[j]'(by omega)):=jq (by omega);obtain ⟨o,e,c⟩:=wB d m;rw[e] at b; cases b;exact (FU (g _ (fZ _)) c).2
def a81 {d:Nat->Option (Nat×Nat)}:∀ {t:List (Nat×PV)} {u:List (Nat×Value)} {f:ai} {g:Array Value} {r:ai},Gu d f t=some r->au M B f g.toList ->
 t.length=u.length->(∀ (j:Nat) p v,t[j]? = some p->u[j]? = some v->p.1=v.1/\eU M B p.2 v.2)->∃ w,Instr.fill d g u=some w/\au M B r w.toList
 | [],[],f,g,r,h,m,_,_=>by simp[Gu] at h; subst h; exact ⟨g,rfl,m⟩
 | [],_::_,_,_,_,_,_,n,_=>by simp at n
 | _::_,[],_,_,_,_,_,n,_=>by simp at n
 | (i,p)::t,(A,v)::u,f,g,r,h,m,n,hv=>by
  obtain ⟨e,C⟩:=hv 0 (i,p) (A,v) rfl rfl;subst e;rw[Gu] at h;split at h
  .rename_i o z new D E;split at h
   .have q:=(WT E C).1;have x:v.cells.size=z:=by have:=ou q; simp at this; omega
    have F:g.size=f.length:=by have:=ou m; simp at this; omega
    have l:=a8F o v.cells.toList 0 g (by simp; omega);have G:(v.cells.zipIdx.foldl (fun f (c,j)=>f.setIfInBounds (o+j) c) g)=((v.cells.toList.zipIdx 0).foldl (fun (f:Array Value) (y:Value×Nat)=>f.setIfInBounds (o+y.2) y.1) g):=by rw[<- Array.foldl_toList,Array.toList_zipIdx]
    obtain ⟨w,H,I⟩:=a81 h (by
     rw[l];have:(v.cells.toList.length)=z:=by simpa using x
     rw[this];exact Fa (Fa (aW0 m o) q) (bY0 m _)) (by simpa using n) (fun j p v a b=>hv (j+1) p v (by simpa using a) (by simpa using b))
    refine ⟨w,?_,I⟩;rw[Instr.fill,D];simp only;rw[aV (by simp; omega),G];exact H
   .cases h
  .cases h
theorem aCD {rd:Operand->Option PV} {d:Operand->Value} (e:∀ x q,rd x=some q->eU M B q (d x)/\q.own=false):∀ {c:List (Nat×Operand)} {a:List (Nat×PV)},uu rd c=some a ->
 a.length=(c.map fun b=>(b.1,d b.2)).length/\∀ (j:Nat) p v,a[j]? = some p->(c.map fun b=>(b.1,d b.2))[j]? = some v->p.1=v.1/\eU M B p.2 v.2
 | [],a,h=>by grind [uu]
 | (i,x)::c,a,h=>by
  rw[uu] at h;split at h
  .rename_i p f g hq;obtain ⟨l,m⟩:=aCD e hq;grind
  .cases h
theorem aZ5 {z:Value} (h:∀ v,v∈z.cells->v.oneCell'=true):au M B ((z.cells.toList.map nz).map PV.un) z.cells.toList:=by grind [KH,KG,KF]
theorem bX1 {b:List (Nat×Nat×Bool)} (h:fieldsOf P e=some b):∃ a,P.underlying e=some (.struct a)/\a.toList.mapM (fun f=>(P.info? f.type).map fun i=>(f.offset,i.size))=some (b.map fun f=>(f.1,f.2.1)):=by
 unfold fieldsOf at h;split at h
 .rename_i a l;refine ⟨a,l,?_⟩;generalize a.toList=L at h;induction L generalizing b with
  | nil=>simp_all
  | cons f L m =>
   rw[List.mapM_cons] at h ⊢;cases c:ti P f.type with
   | none=>grind
   | some I =>
    cases g:L.mapM (fun f=>(ti P f.type).map fun i=>(f.offset,i.size,i.agg)) with
    | none=>simp_all
    | some bs =>simp[c,g] at h;subst h;obtain ⟨i,z,d,j⟩:=IU c;rw[m g];simp[j.info,j.size]
 .cases h
variable {Z:Operand->Value}
theorem b07 {o:Array (Nat×Operand)} {rd:Operand->Option PV} (u:∀ a q,rd a=some q->eU M B q (Z a)/\q.own=false) (h:pop P rd (.build e o)=some x) (w:World) :
 ∃ v,(Instr.build e (o.map fun (i,a)=>(i,Z a))).run P w = .ok v w/\eU M B x v/\x.own=false:=by
 have l:(o.map fun (i,a)=>(i,Z a)).toList=o.toList.map fun F=>(F.1,Z F.2):=by simp
 rw[pop] at h;split at h
 .rename_i I G S hq;obtain ⟨i,z,d,g⟩:=IU S;obtain ⟨H,K⟩:=aCD u hq;have L:au M B (I.zero.map PV.un) z.cells.toList:=by rw[g.Vp]; exact aZ5 g.one
  split at h
  .rename_i y N O;obtain ⟨U,A,T⟩:=bX1 N;cases m:Gu (fun i=>(y[i]?).map fun f=>(f.1,f.2.1)) (I.zero.map PV.un) G with
   | none=>simp_all
   | some r =>
    simp[m] at h; subst h;obtain ⟨c,C,D⟩:=a81 m L H K;refine ⟨.agg c,run_build w e _ c ?_,qU.2 ⟨c,rfl,D⟩,rfl⟩;have E:(fun (j:Nat)=>((y.map fun f=>(f.1,f.2.1)).toArray)[j]?)=fun (i:Nat)=>(y[i]?).map fun f=>(f.1,f.2.1):=by simp
    simp only[Program.built,g.info,A,g.zero,T];rw[E,l]; exact C
  .rename_i n J N O;obtain ⟨b,j,V,X,A,Q⟩:=YN O;cases m:Gu (fun i=>some (i*J.size,J.size)) (I.zero.map PV.un) G with
   | none=>simp_all
   | some r =>simp[m] at h; subst h;obtain ⟨c,C,D⟩:=a81 m L H K;refine ⟨.agg c,run_build w e _ c ?_,qU.2 ⟨c,rfl,D⟩,rfl⟩;simp only[Program.built,g.info,A,g.zero,Q.info];rw[l,<- Q.size]; exact C
  .cases h
 .cases h
theorem b0Z {c:Call} {ty:TypeId} {rd:Operand->Option PV} (e:∀ a q,rd a=some q->eU M B q (Z a)/\q.own=false) (h:IA P rd c=some x) (w:World) :
 ∃ v,(do let d<-resolve Z c ty; invoke d.target d.args:Sem Next).run P w = .ok (.value v) w/\eU M B x v/\x.own=false:=by
 obtain ⟨l,args,b⟩:=c;unfold IA at h;simp only at h;split at h
 .split at h
  .rename_i a t f n;cases m:rd a with
   | none=>grind
   | some q =>
    simp[m] at h;have o:args = #[a]:=by rw[<- uA]; exact f
    have r:b = #[t]:=by rw[<- uA]; exact n
    subst o; subst r;obtain ⟨v,g,i⟩:=bSE (ty:=ty) h (e _ _ m).1 w;exact ⟨v,by simp[resolve,invoke,builtin,g],i⟩
  .cases h
 .cases j:kQ (args.toList.map rd) with
  | none=>grind
  | some u =>simp[j] at h;obtain ⟨f,_⟩:=O0 e j;obtain ⟨v,g,i⟩:=bTN h (vs:=args.map Z) (by simpa using f) w;exact ⟨v,by simp only[resolve,invoke,builtin,nO,LV,xU]; rw[g]; rfl,i⟩
 .cases j:kQ (args.toList.map rd) with
  | none=>grind
  | some u =>simp[j] at h;obtain ⟨f,_⟩:=O0 e j;obtain ⟨v,g,i⟩:=bTD h (vs:=args.map Z) (by simpa using f) w;exact ⟨v,by simp only[resolve,invoke,builtin,nO,LV,xU]; rw[g]; rfl,i⟩
 .cases h
def aQ6 {A:Option Addr} {k:IntKind} {a:TypeId} {i:TypeInfo} {d:TypeDesc} (g:P.underlying e=some (.slice a)) (l:sD P a h i u d) {c f:Nat} (m:A=some ⟨c,f,none⟩)
 (o:0<=C) (p:C<b) (w:World):(Instr.indexAt e (.slice A b j) (.int k C)).run P w = .ok (.pointer (some ⟨c,f+C.toNat*h.size,none⟩)) w:=by
 subst m;simp[Instr.indexAt,asIntOf,gJ g,o,p,l.run_sizeOf w,jL]
variable {G T:Operand}
theorem bPH {rd:Operand->Option PV} (f:∀ G q,rd G=some q->eU M B q (Z G)/\q.own=false) (h:pop P rd (.indexAddr e G T)=some x) (w:World) :
 ∃ v,(Instr.indexAt e (Z G) (Z T)).run P w = .ok v w/\eU M B x v/\x.own=false:=by
 rw[pop] at h;split at h
 .rename_i o U V k n l u;have L:=(f _ _ l).1;rw[fH.1 (f _ _ u).1];split at h
  .rename_i g;obtain ⟨I,y,C⟩:=LU.1 g.1;obtain ⟨a,N,z,d,D,E⟩:=zx y;cases O:V[n.toNat]? with
   | none=>grind
   | some q =>
    simp[O] at h; subst h;have K:=(iY.1 O).1;obtain ⟨A,Q,F,X,Y,_,hA⟩:=jo.1 L
    .obtain ⟨b,H,rfl,S⟩:=hA (fun a=>by rw[a] at K; simp at K);rw[F];refine ⟨_,aQ6 D E rfl g.2 (by omega) w,Bo.2 ⟨b,_,rfl,?_⟩,rfl⟩;rw[C]; exact FN S O
  .cases h
 .rename_i j H m U k n l u;rw[fH.1 (f _ _ u).1];split at h
  .rename_i g;cases h;obtain ⟨I,y,C⟩:=LU.1 g.1;obtain ⟨a,N,z,d,D,E⟩:=zx y;obtain ⟨c,Q,J,F,_⟩:=uT.1 (f _ _ l).1;rw[F];exact ⟨_,aQ6 D E rfl g.2.1 (by omega) w,xH.2 ⟨c,J,by rw[C]⟩,rfl⟩
  .cases h
 .rename_i j H k n l u;rw[fH.1 (f _ _ u).1];split at h
  .rename_i m I y;split at h
   .rename_i g;cases h;obtain ⟨a,N,z,d,D,E⟩:=YN y;obtain ⟨c,J,F⟩:=xH.1 (f _ _ l).1;rw[F];refine ⟨_,?_,xH.2 ⟨c,J,rfl⟩,rfl⟩;simp[Instr.indexAt,asIntOf,gJ D,g.1,g.2,Instr.sureAddr,E.run_sizeOf w,jL]
   .cases h
  .cases h
 .rename_i cs k n l u;rw[fH.1 (f _ _ u).1];split at h
  .rename_i m I y;split at h
   .rename_i g;obtain ⟨a,N,z,d,D,E⟩:=YN y;obtain ⟨b,H,F,S⟩:=Bo.1 (f _ _ l).1;rw[F];cases hv:yK cs (n.toNat*I.size) I.size I.agg with
    | none=>grind
    | some r =>simp[hv] at h; subst h;refine ⟨_,?_,Bo.2 ⟨b,_,rfl,aY0 (zI.1 S) hv⟩,rfl⟩;simp[Instr.indexAt,asIntOf,gJ D,g.1,g.2,Instr.sureAddr,E.run_sizeOf w,jL]
   .cases h
  .cases h
 .cases h
theorem bPK {rd:Operand->Option PV} (c:∀ G q,rd G=some q->eU M B q (Z G)/\q.own=false) (h:pop P rd (.index e G T)=some x) (w:World) :
 ∃ v,(Instr.index e (Z G) (Z T)).run P w = .ok v w/\eU M B x v/\x.own=false:=by
 rw[pop] at h;split at h
 .rename_i s k n g j;rw[fH.1 (c _ _ j).1,jS.1 (c _ _ g).1];split at h
  .rename_i f;cases l:s[n.toNat]? with
   | none=>grind
   | some b =>simp[l] at h; subst h;refine ⟨.int .u8 b.toNat,?_,fH.2 rfl,rfl⟩;simp[Instr.index,asIntOf,gJ (Vm f.1),f.2,l]
  .cases h
 .rename_i D k n g j;rw[fH.1 (c _ _ j).1];split at h
  .rename_i m I r;split at h
   .rename_i f;obtain ⟨a,E,z,d,u,o⟩:=YN r;obtain ⟨F,y,hv⟩:=qU.1 (c _ _ g).1;rw[y];obtain ⟨v,A,C⟩:=a5E hv o h w;refine ⟨v,?_,C⟩;simp[Instr.index,asIntOf,gJ u,f.1,f.2,o.run_sizeOf w,A]
   .cases h
  .cases h
 .cases h
theorem bX4 {rd:Operand->Option PV} (n:∀ j q,rd j=some q->eU M B q (Z j)/\q.own=false) {o:Oper} (h:pop P rd o.op=some x) (w:World) (L:∀ (b o:Nat) (v:Value),M b o=some v->w.cell? ⟨b,o,none⟩=some v/\v.oneCell'=true) :
 ∃ v,(execOp Z o).run P w = .ok (.value v) w/\eU M B x v/\x.own=false:=by
 obtain ⟨N,G,A,O,C,guard⟩:=o;simp only at h;have r:∀ {s:Sem Value},(∃ v,s.run P w = .ok v w/\eU M B x v/\x.own=false)->execOp Z ⟨N,G,A,O,C,guard⟩=(do pure (.value (<- s)))->∃ v,(execOp Z ⟨N,G,A,O,C,guard⟩).run P w = .ok (.value v) w/\eU M B x v/\x.own=false :=fun ⟨v,H,J⟩ he=>⟨v,b4E he H,J⟩
 cases G with
 | move j=>exact ⟨Z j,rfl,n _ _ h⟩
 | assign j=>exact ⟨Z j,rfl,n _ _ h⟩
 | pick c a b =>
  rw[pop] at h;split at h
  .rename_i cc Q;have e:=kw.1 (n _ _ Q).1;cases cc with
   | true=>exact ⟨Z a,by simp[execOp,e,asBool],n _ _ (by grind)⟩
   | false=>exact ⟨Z b,by simp[execOp,e,asBool],n _ _ (by grind)⟩
  .cases h
 | fieldAddr s j f =>
  rw[pop] at h;split at h
  .rename_i X q S hq;cases T:X[f]? with
   | none=>grind
   | some K =>
    obtain ⟨o,z,g⟩:=K;simp only[T,Ot] at h;split at h
    .cases h
    .rename_i hz;exact r (b'A (n _ _ hq).1 S T hz h w) rfl
  .cases h
 | field s j f =>
  rw[pop] at h;split at h
  .rename_i X cs S hq;cases T:X[f]? with
   | none=>grind
   | some K =>obtain ⟨o,z,g⟩:=K;simp only[T,Ot] at h;obtain ⟨Fs,F,I,i,zv,d,hu,hF,ho,hT,Y,hg⟩:=aJI S T;subst ho; subst Y; subst hg;obtain ⟨vs,e,hv⟩:=qU.1 (n _ _ hq).1;obtain ⟨v,H,J⟩:=a5E hv hT h w;refine r ⟨v,?_,J⟩ rfl;rw[e];simp[Instr.field,gJ hu,hF,asAgg,H]
  .cases h
 | indexAddr t j i=>exact r (bPH n h w) rfl
 | index t j i=>exact r (bPK n h w) rfl
 | slice t j lo V mx =>
  cases mx with
  | some m =>
   cases lo with
   | none=>simp[pop] at h
   | some l =>
    cases V with
    | none=>simp[pop] at h
    | some b =>
     rw[pop] at h;split at h
     .rename_i q pa pb pc u D E Q;exact r (bZQ h (n _ _ u).1 (n _ _ D).1 (n _ _ E).1 (n _ _ Q).1 w) rfl
     .cases h
  | none =>
   rw[pop] at h;cases u:rd j with
   | none=>grind
   | some q =>
    cases lo with
    | none =>
     cases V with
     | none=>simp[u] at h; exact r (a4Y h (n _ _ u).1 (.inl ⟨rfl,rfl⟩) (.inl ⟨rfl,rfl⟩) w) rfl
     | some b =>
      cases E:rd b with
      | none=>simp_all
      | some pb=>simp[u,E] at h; exact r (a4Y h (n _ _ u).1 (.inl ⟨rfl,rfl⟩) (.inr ⟨_,_,rfl,rfl,(n _ _ E).1⟩) w) rfl
    | some a =>
     cases D:rd a with
     | none=>cases V<;>simp[u,D] at h
     | some pa =>
      cases V with
      | none=>simp[u,D] at h; exact r (a4Y h (n _ _ u).1 (.inr ⟨_,_,rfl,rfl,(n _ _ D).1⟩) (.inl ⟨rfl,rfl⟩) w) rfl
      | some b =>
       cases E:rd b with
       | none=>simp_all
       | some pb=>simp[u,D,E] at h; exact r (a4Y h (n _ _ u).1 (.inr ⟨_,_,rfl,rfl,(n _ _ D).1⟩) (.inr ⟨_,_,rfl,rfl,(n _ _ E).1⟩) w) rfl
 | binOp G t j y yt =>
  rw[pop] at h;split at h
  .rename_i a b D E;obtain ⟨H,v,J,h3⟩:=a_W h (n _ _ D).1 (n _ _ E).1 w;refine r (s:=do eqGuard G t j y (Z j) (Z y); binOp G t (Z j) (Z y)) ⟨v,?_,h3⟩ rfl;rw[nO,H j y,xU,J]
  .cases h
 | unOp G t j =>
  rw[pop] at h;cases u:rd j with
  | none=>grind
  | some q=>simp[u] at h; exact r (b_W h (n _ _ u).1 w) rfl
 | convert s d j =>
  rw[pop] at h;cases u:rd j with
  | none=>grind
  | some q=>simp[u] at h; exact r (b2I h (n _ _ u).1 w L) rfl
 | makeFunc fn first U =>
  rw[pop] at h;split at h
  .rename_i f c S Q;cases h;exact r (s:=Instr.makeFunc fn (first.map Z) (U.map Z)) ⟨_,rfl,Am.2 ⟨_,_,rfl,by simpa using (O0 n S).1,by simpa using (O0 n Q).1⟩,rfl⟩ rfl
  .cases h
 | extract j i =>
  rw[pop] at h;cases u:rd j with
  | none=>grind
  | some q=>simp[u] at h; exact r (b4G h (n _ _ u).1 w) rfl
 | nilCheck j =>
  rw[pop] at h;split at h
  .rename_i i o u;cases h;obtain ⟨c,_,e⟩:=xH.1 (n _ _ u).1;exact ⟨Z j,by simp[execOp,e],(n _ _ u)⟩
  .rename_i q u;cases h;obtain ⟨b,a',e,_⟩:=Bo.1 (n _ _ u).1;exact ⟨Z j,by simp[execOp,e],(n _ _ u)⟩
  .rename_i f a b u;cases h;obtain ⟨f',c',e,_,_⟩:=Am.1 (n _ _ u).1;exact ⟨Z j,by simp[execOp,e],(n _ _ u)⟩
  .cases h
 | build t ps=>exact r (b07 n h w) rfl
 | call c =>obtain ⟨v,H,J⟩:=b0Z (ty:=A) n (by simpa[pop] using h) w;exact ⟨v,H,J⟩
 | _=>simp[pop] at h
end
structure AE where
 P:Program
 n:Nat
 vars:List Nat
 mv:List Nat
 mu:List Nat
 sz:List (Nat×List Nat) := []
 jt:List (Nat×List Nat) := []
 lt:List (Nat×List Nat) := []
 pt:List (Nat×List Nat) := []
 fz:List Nat := []
 ft:List (Nat×List Nat) := []
 sy:List Nat := []
 ln:List Nat := []
def ASt.ev (a:ASt):Operand->Option PV
 | .tmp t=>cu t a.s
 | .const v=>a3T v
 | .func f=>some (.func (.func f) [] [])
 | .global _=>none
def ASt.rd (a:ASt) (x:Operand):Option PV:=(a.ev x).map PV.un
def ASt.rdT (a:List Nat) (b:ASt) (x:Operand):Option PV:=(b.rd x).map (PV.Ap a)
def elT (P:Program) (t:TypeId):List Nat:=match xq P t with | some e=>PZ P 8 e | none => []
def ASt.clr (a:ASt):Operand->ASt
 | .tmp t=>match cu t a.s with
  | some p => { a with s:=iy t p.un a.s }
  | none=>a
 | _=>a
def ASt.put (E:AE) (a:Option Nat) (p:PV) (b:ASt):Option ASt :=
 match a with
 | none=>some b
 | some d=>if d<E.n then some { b with s:=iy d p b.s } else none
def dw (l:List Nat):Option Nat->Bool
 | some d=>l.contains d
 | none=>false
def pV (d:Bool) (I:TI) (q:PV) (b:ASt):Option (PV×ASt) :=
 match q with
 | .cst e=>if e.isAgg=I.agg/\e.size=I.size then some (e.un,b) else none
 | .ptr i a=>match b.h[i]? with
  | some (some c) =>
   if I.agg then (if a+I.size<=c.length then some (.agg (((c.drop a).take I.size).map PV.un),b) else none)
   else match c[a]? with
    | some p=>if d then some (p,{ b with h:=b.h.set i (some (c.set a p.un)) }) else some (p.un,b)
    | none=>none
  | _=>none
 | _=>none
def zQ (I:TI) (a x:PV) (c:ASt):Option ASt :=
 match a with
 | .ptr i b=>match c.h[i]? with
  | some (some d)=>match x with
   | .agg e=>if e.length=I.size/\b+I.size<=d.length/\e.all PV.one then some { c with h:=c.h.set i (some (d.take b ++ e.map PV.un ++ d.drop (b+I.size))) } else none
   | p=>if p.one/\I.size=1/\b<d.length then some { c with h:=c.h.set i (some (d.set b p)) } else none
  | _=>none
 | _=>none
def PV.okE:PV->Bool
 | .agg a=>a.all PV.one&&PV.flats a
 | p=>p.one&&p.flat
def bUD (h:x.okE=true):x.flat=true:=by
 cases x with
 | agg a=>simp only[PV.okE,bH] at h; exact h.2
 | _=>first | (simp only[PV.okE,bH] at h; exact h.2) | (simp[PV.okE] at h)
def Ep (a:Nat):Nat->List (Nat×PV)->Option (ai)
 | _,[]=>some []
 | k,(i,p)::b=>if i=k/\p.size=a/\p.okE then (Ep a (k+1) b).map (p.un :: ·) else none
def gG:ai->ai
 | [] => []
 | .agg b::a=>b.map PV.un ++ gG a
 | p::a=>p.un::gG a
def Q8 (q:PV):Option PV:=match q.newCells with
 | some a=>if q.flat=true then some (match q with | .agg _ => .agg a | _=>q) else none
 | none=>none
def MJ (b:Bool) (t i:Nat) (a:ai):ai:=match b,a with
 | true,[.nilp,.sl true 0 []]=>(match Nat.beq t 0||Nat.beq t EZ with | true=>a | false => [.dZ t i,.dn []])
 | _,a=>a
theorem a_Z (b:Bool) (t:TypeId) (i:Nat) (a:ai):(MJ b t i a).length=a.length:=by unfold MJ; grind
variable {L:ai}
theorem a_Y (h:(MJ g e b L)[j]? = some x):L[j]? = some x\/(j=0/\x = .dZ e b/\L[0]? = some .nilp/\L.length=2/\(e≠0/\Nat.beq e EZ=false))\/(j=1/\x = .dn []/\L[1]? = some (.sl true 0 [])):=by
 unfold MJ at h;split at h
 .split at h
  simp_all
  .rename_i c;rw[aFT] at c;match j with
   | 0=>simp at h; exact .inr (.inl ⟨rfl,h.symm,rfl,rfl,fun a=>by simp_all,c.2⟩)
   | 1=>simp_all
   | j+2=>simp at h
 simp_all
def wL (I:TI):PV:=match I.agg with
 | true => .agg (I.zero.map PV.un)
 | false=>match I.zero with | [p]=>p.un | _ => .nilp
def xQ (n:Nat) (I:TI):ai:=match I.zero with
 | [p]=>List.replicate n p
 | a=>(List.replicate n a).flatten
theorem c1A (n:Nat) (I:TI):xQ n I=(List.replicate n I.zero).flatten:=by
 unfold xQ;split;simp_all
 .rfl
def KU (b:ByteArray):ai:=b.data.toList.map fun x => .int .u8 x.toNat
def b'7 (b:ByteArray):(KU b).length=b.size:=by rw[KU,bM]; rfl
def b'6 (b:ByteArray):KU b=o7 b.data.toList:=rfl
def aI2 (a b:f_):o7 (a ++ b)=o7 a ++ o7 b:=yT
theorem Yg (a:f_):(o7 a).length=a.length:=bM _
def aUK (l:List Nat):PV->Bool
 | .cst _=>true
 | .ptr i _=>dw l (some (1000000+i))
 | _=>false
def iK:Operand->Option Nat
 | .tmp t=>some t
 | _=>none
def SG (a b:List Nat) (d:Option Nat) (q:Option PV):Bool:=match dw a d with
 | true=>(match q with | some (.ptr i _) => !dw b (some (1000000+i)) | _=>false)
 | false=>true
def Wj:ai->Option Int
 | [.int .u8 c]=>some c
 | _=>none
theorem bUH (h:Wj L=some C):L = [.int .u8 C]:=by unfold Wj at h; grind
theorem bUG (a:0<=C) (b:C<256):o7 [UInt8.ofNat C.toNat] = [.int .u8 C]:=by have:(UInt8.ofNat C.toNat).toNat=C.toNat:=UInt8.toNat_ofNat_of_lt' (by simp_all);grind [o7]
def Gp (f:ASt) (c:Nat):PV->Option (Nat×ai)
 | .sl _ a d=>(match Nat.beq a c||Nat.beq a 0 with | true=>some (d.length,gG d) | false=>none)
 | .slh j b m a=>(match f.h[j]? with
  | some (some e)=>if a=c/\b+m*c<=e.length then some (m,((e.drop b).take (m*c)).map PV.un) else none
  | _=>none)
 | _=>none
def aRF (P:Program) (k:TypeId):Option (Option IntKind):=match P.underlying k with
 | some .string=>some none
 | some (.int a)=>some (some a)
 | _=>none
def su:Value->PV
 | .agg a => .agg ((a.toList.map nz).map PV.un)
 | v=>(nz v).un
def Xm:Value->Bool
 | .agg a=>a.toList.all (·.oneCell')
 | v=>v.oneCell'
def Di (P:Program) (t:TypeId):Option (Option IntKind×PV):=match P.underlying t with
 | some (.map k e)=>(match aRF P k,(P.info? e).bind (·.zero) with
  | some s,some z=>(match Xm z with | true=>some (s,su z) | false=>none)
  | _,_=>none)
 | _=>none
def qY (s:Option IntKind) (a b:PV):Option Bool:=match s,a,b with
 | some c,.int k x,.int d y=>(match decide (k=c)&&decide (d=c) with | true=>some (x==y) | false=>none)
 | none,.str x,.str y=>some (x.data.toList==y.data.toList)
 | _,_,_=>none
def yB (s:Option IntKind):ai->PV->Option (Option PV)
 | k::v::L,q=>(match qY s q k with
  | some true=>some (some v)
  | some false=>yB s L q
  | none=>none)
 | [],_=>some none
 | [_],_=>none
def sZ (s:Option IntKind):ai->PV->Bool
 | k::_::L,q=>(match qY s q k with | some _=>true | none=>false)&&sZ s L q
 | [],_=>true
 | [_],_=>false
def uM (s:Option IntKind):ai->PV->Bool
 | k::_::L,q=>(match qY s q k with | some true=>true | _=>uM s L q)
 | _,_=>false
def oG (s:Option IntKind):ai->PV->PV->ai
 | k::v::L,q,x=>(match qY s q k with | some true=>q::x::L | _=>k::v::oG s L q x)
 | L,_,_=>L
def pW:PV->PV->Bool
 | .str a,.str b=>Eh a.data.toList b.data.toList
 | _,_=>false
def pY:ai->PV->PV->ai
 | k::v::L,q,x=>(match pW q k with | true=>q::x::k::v::L | false=>k::v::pY L q x)
 | _,q,x => [q,x]
def kT (s:Option IntKind) (L:ai) (q x:PV):ai:=match uM s L q with
 | true=>oG s L q x
 | false=>pY L q x
def pX (b:Bool) (L:ai):PV:=match b with | true => .mp L | false => .func (.yield Iw) L []
def Ba:ai->Option (Bool×ai)
 | [.func (.yield n) L []]=>(match Nat.beq n Iw with | true=>some (false,L) | false=>none)
 | [.mp L]=>some (true,L)
 | _=>none
def aTD {a:ai} (h:Ba L=some (g,a)):L = [pX g a]:=by
 unfold Ba at h;split at h
 .split at h
  .rename_i c; cases h; rw[pI c]; rfl
  .cases h
 .cases h; rfl
 .cases h
def AQ (s:ByteArray) (p:Int):PV := .func (.yield Y0) [.str s,.int .i64 p] []
def Qp:ai->Option (ByteArray×Int)
 | [.func (.yield n) [.str s,.int .i64 p] []]=>(match Nat.beq n Y0 with | true=>some (s,p) | false=>none)
 | _=>none
def aQU (h:Qp L=some (Q,C)):L = [AQ Q C]:=by
 unfold Qp at h;split at h
 .split at h
  .rename_i a; cases h; rw[pI a]; rfl
  .cases h
 .cases h
def Qq (s:ByteArray) (p:Int):Int:=p+((Utf8.decode s p.toNat).2:Int)
def a2I (s:ByteArray) (p:Int):Int:=((Utf8.decode s p.toNat).1:Int)
def WO (b:Bool) (B:aS):aS:=match b with | true => [] | false=>B
def a4N:eU m K (pX g L) u↔∃ f,u = .func (.yield Iw) f #[]/\au m (WO g K) L f.toList:=by
 cases g with
 | true=>exact aVW
 | false =>
  refine Am.trans ⟨?_,?_⟩
  .rintro ⟨f,c,rfl,a,d⟩;rw[fA] at d;have:c = #[]:=by rw[<- uA]; exact d
   subst this;exact ⟨f,rfl,a⟩
  .rintro ⟨f,rfl,a⟩;exact ⟨f,#[],rfl,a,fA.2 rfl⟩
def RJ (b:Bool) (L:ai):(pX b L).own=false:=by cases b<;>rfl
def zC (s:Option IntKind) (q:PV):Bool:=match s,q with
 | some a,.int k _=>decide (k=a)
 | none,.str _=>true
 | _,_=>false
def Dc (a:Bool) (z:PV):Option PV->PV
 | some p=>(match a with | true => .tuple [p.un,.bool true] | false=>p.un)
 | none=>(match a with | true => .tuple [z,.bool false] | false=>z)
def bPI (a:List Nat) (d:Option Nat):Bool:=dw a (d.map (5000000 + ·))
def aDY (l:List Nat) (n:Nat):Bool:=l.all fun k=>match Nat.ble 1000000 k with | true=>Nat.blt (k-1000000) n | false=>true
def a5B (a b:List Nat) (d:Option Nat) (q:Option PV):Bool:=match dw a (d.map (6000000 + ·)) with
 | true=>(match q with | some (.dZ _ i) => !dw b (some (1000000+i)) | _=>false)
 | false=>true
def cO (E:AE) (o:Oper) (d:ASt):Option (PV×ASt) :=
 match o.op with
 | .move x=>if dw E.mv o.dst then (d.ev x).map fun p=>(p,d.clr x) else (d.rd x).map fun p=>(p,d)
 | .assign x=>(d.ev x).map fun p=>(p,d.clr x)
 | .alloc t=>match dw E.ln o.dst && !aDY E.ln d.h.length with
  | true=>none
  | false=>(ti E.P t).map fun I=>(.ptr d.h.length 0,{ d with h:=d.h ++ [some (MJ (dw E.mu o.dst) t d.h.length I.zero)] })
 | .box _ x=>if dw E.fz o.dst then ((d.rd x).bind Q8).map fun e=>(.cst e,d) else ((d.rd x).bind PV.newCells).map fun g=>(.ptr d.h.length 0,{ d with h:=d.h ++ [some g] })
 | .load t a=>match ti E.P t,d.rd a with
  | some I,some q=>(match dw E.ln o.dst with | true=>(match aUK E.ln q with | true=>pV false I q d | false=>none) | false=>pV (dw E.mv o.dst) I q d)
  | _,_=>none
 | .store t a x=>match SG E.mu E.ln (iK a) (d.rd a) with
  | false=>none
  | true=>match ti E.P t,d.rd a,d.ev x,o.dst with
   | some I,some q,some p,none=>(zQ I q p (d.clr x)).map fun F=>(.tuple [],F)
   | _,_,_,_=>none
 | .buildSlice t B H=>match kR E.P t,uu (d.rdT (elT E.P t)) H.toList with
  | some I,some J=>match Ep I.size 0 J with
   | some C=>if C.length=B/\0<I.size/\B*I.size<=16777216 then
    (if dw E.mu o.dst then some (.slh d.h.length 0 B I.size,{ d with h:=d.h ++ [some (gG C)] }) else (match bPI E.mu o.dst with
     | true=>(match (gG C).all PV.lit with | true=>some (.iI true B I.size (gG C),d) | false=>none)
     | false=>some (.sl true I.size C,d))) else none
   | none=>none
  | _,_=>none
 | .makeSlice t l c=>match kR E.P t,d.rd l,d.rd c with
  | some I,some (.int _ n),some (.int _ K)=>if n=K/\0<=n/\n<=1073741824/\0<I.size/\I.bytes<=1024 then
   (if dw E.mu o.dst then some (.slh d.h.length 0 n.toNat I.size,{ d with h:=d.h ++ [some (xQ n.toNat I)] }) else if (wL I).size=I.size/\(wL I).okE=true then some (.sl true I.size (List.replicate n.toNat (wL I)),d) else none) else none
  | _,_,_=>none
 | .makeMap t r=>match dw E.ln o.dst && !aDY E.ln d.h.length with
  | true=>none
  | false=>(match Di E.P t,r with
   | some _,none=>some (.dZ 0 d.h.length,{ d with h:=d.h ++ [some [pX (dw E.mu o.dst) []]] })
   | _,_=>none)
 | .lookup t m k M=>match Di E.P t,d.rd m,d.rd k with
  | some (s,z),some (.dZ 0 i),some q=>(match d.h[i]? with
   | some (some g)=>(match Ba g with
    | some (_,L)=>(match zC s q,yB s L q with
     | true,some r=>some (Dc M z r,d)
     | _,_=>none)
    | none=>none)
   | _=>none)
  | _,_,_=>none
 | .mapUpdate t m k v=>match Di E.P t,d.rd m,d.rd k,d.rd v,o.dst with
  | some (s,_),some (.dZ 0 i),some q,some x,none=>(match d.h[i]? with
   | some (some g)=>(match Ba g with
    | some (b,L)=>(match zC s q&&(sZ s L q&&(!b||x.flat)) with
     | true=>some (.tuple [],{ d with h:=d.h.set i (some [pX b (kT s L q x)]) })
     | false=>none)
    | none=>none)
   | _=>none)
  | _,_,_,_,_=>none
 | .insert t m k v=>match a5B E.mu E.ln (iK m) (d.rd m) with
  | false=>none
  | true=>match Di E.P t,d.rd m,d.rd k,d.rd v,o.dst with
   | some (s,_),some (.dZ 0 i),some q,some x,none=>(match d.h[i]? with
    | some (some g)=>(match Ba g with
     | some (b,L)=>(match zC s q&&(sZ s L q&&(!b||x.flat)) with
      | true=>some (.tuple [],{ d with h:=d.h.set i (some [pX b (kT s L q x)]) })
      | false=>none)
     | none=>none)
    | _=>none)
   | _,_,_,_,_=>none
 | .range t x=>match uk E.P t,d.rd x with
  | true,some (.str s)=>some (.dZ EZ d.h.length,{ d with h:=d.h ++ [some [AQ s 0]] })
  | _,_=>none
 | .next x b=>match b,d.rd x with
  | true,some (.dZ T i)=>(match d.h[i]? with
   | some (some g)=>(match Qp g with
    | some (s,p)=>(match Nat.beq T EZ&&decide (0<=p) with
     | true=>(match decide (p<(s.size:Int)) with
      | true=>some (.tuple [.bool true,.int .i64 p,.int .i32 (a2I s p)],{ d with h:=d.h.set i (some [AQ s (Qq s p)]) })
      | false=>some (.tuple [.bool false],d))
     | false=>none)
    | none=>none)
   | _=>none)
  | _,_=>none
 | .call c=>match c.callee with
  | .builtin .copy=>(match c.args.toList,c.argTypes.toList with
   | [x,y],[t,_]=>(match kR E.P t,d.rd x,d.rd y with
    | some I,some (.slh i j n f),some q=>(match d.h[i]?,Gp d f q with
     | some (some g),some (m,D)=>if I.size=f/\0<f/\j+n*f<=g.length then some (.int .i64 ((Nat.min m n:Nat):Int),{ d with h:=d.h.set i (some (g.take j ++ D.take (Nat.min m n*f) ++ g.drop (j+Nat.min m n*f))) }) else none
     | _,_=>none)
    | _,_,_=>none)
   | _,_=>none)
  | .builtin .clear=>(match c.args.toList,c.argTypes.toList,o.dst with
   | [x],[t],none=>(match kR E.P t,d.rd x with
    | some I,some (.slh i j n f)=>(match d.h[i]? with
     | some (some g)=>if I.size=f/\j+n*f<=g.length then some (.tuple [],{ d with h:=d.h.set i (some (g.take j ++ (xQ n I).map PV.un ++ g.drop (j+n*f))) }) else none
     | _=>none)
    | some _,some (.sl _ _ [])=>some (.tuple [],d)
    | _,_=>none)
   | _,_,_=>none)
  | .builtin .append=>(match c.args.toList,c.argTypes.toList with
   | [s,x],[t,u]=>(match kR E.P t,d.ev s,d.rd x with
    | some I,some (.sl G f C),some (.sl _ w A)=>if (G=true\/f=0)/\t=u/\0<I.size/\I.bytes<=1024/\(f=I.size\/f=0)/\(w=I.size\/w=0) then some (.sl true I.size (C ++ A),d.clr s) else none
    | some I,some (.sl G f C),some (.str b)=>if (G=true\/f=0)/\Ql E.P t=true/\uk E.P u=true/\I.size=1/\I.bytes<=1024/\(f=I.size\/f=0) then some (.sl true I.size (C ++ KU b),d.clr s) else none
    | some I,some (.iI true k f g),some (.sl _ w A)=>if t=u/\0<I.size/\I.bytes<=1024/\f=I.size/\(w=I.size\/w=0)/\(gG A).all PV.lit=true then some (.iI true (k+A.length) I.size (g ++ gG A),d.clr s) else none
    | some I,some (.dn l),some (.str b)=>if xq E.P t=some ML/\uk E.P u=true/\I.size=1/\I.bytes<=1024 then some (.dn (l ++ b.data.toList),d.clr s) else none
    | some I,some (.dn l),some (.sl _ w A)=>(match Wj A with
     | some c=>if xq E.P t=some ML/\t=u/\I.size=1/\I.bytes<=1024/\w=1 then some (.dn (l ++ [UInt8.ofNat c.toNat]),d.clr s) else none
     | none=>none)
    | _,_,_=>none)
   | _,_=>none)
  | _=>(IA E.P d.rd c).map fun p=>(p,d)
 | op=>(pop E.P d.rd op).map fun p=>(p,d)
def kL (E:AE) (o:Oper) (e:ASt):Prop :=
 match o.op with
 | .call c=>match c.callee with
  | .builtin .append=>(match c.args.toList with
   | [s,x]=>(match e.ev s,e.rd x with
    | some (.sl _ _ d),some (.sl _ _ a)=>d.length+a.length<=aO
    | some (.sl _ _ d),some (.str b)=>d.length+b.size<=aO
    | some (.iI _ k _ _),some (.sl _ _ a)=>k+a.length<=aO
    | some (.dn l),some (.str b)=>l.length+b.size<=aO
    | some (.dn l),some (.sl _ _ a)=>(match Wj a with | some c=>l.length+1<=aO/\0<=c/\c<256 | none=>True)
    | _,_=>True)
   | _=>True)
  | _=>True
 | _=>True
section
variable {n:Nat} {out:Nat->Nat} {M:Mem} {B:aS} {σ:ASt} {a:Act} {w:World} {E:AE} {G:Operand}
def Inv.ev (b:Inv n M B out σ a.tmps w) (h:σ.ev G=some x):eU M B x (a.eval G)/\Tl M w x (a.eval G):=by
 cases G with
 | tmp t=>exact (b.slots t x h).2
 | const v=>obtain ⟨c,_,d⟩:=aUJ h; exact ⟨c,d w⟩
 | func f=>cases h; exact ⟨Am.2 ⟨_,_,rfl,fA.2 rfl,fA.2 rfl⟩,gU rfl⟩
 | global g=>cases h
theorem Inv.rd (b:Inv n M B out σ a.tmps w) (x:Operand) (q:PV) (h:σ.rd x=some q):eU M B q (a.eval x)/\q.own=false:=by
 unfold ASt.rd at h;cases he:σ.ev x with
 | none=>grind
 | some p=>simp[he] at h; subst h; exact ⟨qB.2 (b.ev he).1,rH p⟩
theorem Inv.rdT (b:Inv n M B out σ a.tmps w) (c:List Nat) (x:Operand) (q:PV) (h:σ.rdT c x=some q):eU M B q (a.eval x)/\q.own=false:=by
 unfold ASt.rdT at h;cases he:σ.rd x with
 | none=>grind
 | some p=>obtain ⟨d,e⟩:=b.rd x p he; grind [X7,aW4]
theorem Inv.Yo (c:Inv n M B out σ a.tmps w) (h:σ.ev G=some x):Inv n M B out (σ.clr G) a.tmps w/\(∀ b,fp B (σ.clr G) a.tmps w b+bY x (a.eval G) b=fp B σ a.tmps w b)/\(σ.clr G).h=σ.h:=by
 cases G with
 | tmp t =>have h':cu t σ.s=some x:=h;have:=c.clr h';simp only[ASt.clr,h'];exact ⟨this.1,this.2,trivial⟩
 | const v=>exact ⟨c,fun b=>by rw[show a.eval (.const v)=v from rfl,(aUJ (M:=M) (B:=B) h).2.1]; rfl,rfl⟩
 | func f=>cases h; exact ⟨c,fun b=>by rfl,rfl⟩
 | global g=>cases h
structure Pre (n:Nat) (out:Nat->Nat) (M:Mem) (B:aS) (σ:ASt) (t:Array Value) (w:World) (M':Mem) (B':aS) (σ':ASt) (w':World) (p:PV) (v:Value):Prop where
 inv:Inv n M' B' out σ' t w'
 le:eH M M' B B'
 fr:Fr (fp B σ t w) M w M' w'
 own:∀ b,b<w.heap.size->fp B' σ' t w' b+bY p v b<=fp B σ t w b
 rep:eU M' B' p v
 tl:Tl M' w' p v
 cnt:∀ b,fp B' σ' t w' b+bY p v b+out b<=1
 new:∀ b,w'.heap.size<=b->bY p v b=0
def Pre.put {m:Mem} {i:aS} {c f:ASt} {j:World} (h:Pre E.n out M B σ a.tmps w m i c j x u) {e:Option Nat} (g:ASt.put E e x c=some f) :
 Good E.n out M B σ a.tmps w m i f (a.put e u).tmps j:=by
 cases e with
 | none =>cases g;exact ⟨h.inv,h.le,h.fr,fun b l=>by have:=h.own b l; show fp i c a.tmps j b<=_; omega⟩
 | some d =>
  simp only[ASt.put] at g;split at g
  .rename_i o;cases g;obtain ⟨q,r⟩:=h.inv.bXG o h.rep h.tl h.cnt h.new;exact ⟨q,h.le,h.fr,fun b l=>lD (r b) (h.own b l)⟩
  .cases g
def Pre.plain (d:Inv n M B out σ a.tmps w) (e:eU M B x u) (c:∀ b,bY x u b=0) (f:Tl M w x u):Pre n out M B σ a.tmps w M B σ w x u :=⟨d,eH.refl _ _,Fr.refl _ _ _,fun b _=>by rw[c]; omega,e,f,fun b=>by rw[c]; exact d.cnt b,fun b _=>c b⟩
def Pre.Bg {e:Mem} {f:aS} {c:ASt} {g:World} (h:Good n out M B σ a.tmps w e f c a.tmps g) (i:eU e f x u) (d:x.own=false):Pre n out M B σ a.tmps w e f c g x u :=⟨h.inv,h.le,h.fr,fun b j=>by rw[ed d]; exact h.own b j,i,gU d,fun b=>by rw[ed d]; exact h.inv.cnt b,fun b _=>ed d u b⟩
def Pre.moved (c:Inv n M B out σ a.tmps w) (h:σ.ev G=some x):Pre n out M B σ a.tmps w M B (σ.clr G) w x (a.eval G):=by obtain ⟨e,d,j⟩:=c.Yo h;obtain ⟨f,g⟩:=c.ev h;exact ⟨e,eH.refl _ _,Fr.refl _ _ _,fun b _=>by rw[d]; omega,f,g,fun b=>by rw[d]; exact c.cnt b,fun b i=>by have:=d b; have:=c.new b i; omega⟩
def a'Z (a:ti f e=some h) (w:World):∃ c:Array Value,(Instr.alloc e true (.tuple #[])).run f w = .ok (.pointer (some ⟨w.heap.size,0,none⟩)) (w.alloc (.cells c e))/\c.size=h.size/\h.zero=c.toList.map nz/\∀ v,v∈c->v.oneCell'=true:=by obtain ⟨i,z,d,b⟩:=IU a;refine ⟨z.cells,?_,by rw[b.L9,b.size],b.Vp,b.one⟩;simp only[Instr.alloc,nO,b.bYP w,newRow];rfl
def Ym:∀ {c:ai} {b o:Nat},n_ M B c b o->∃ a:List Value,au M B c a/\∀ (j:Nat) v,a[j]? = some v->M b (o+j)=some v
 | [],_,_,_=>⟨[],fA.2 rfl,by simp⟩
 | p::c,b,o,h=>by
  obtain ⟨⟨u,d,e⟩,f⟩:=a7J.1 h;obtain ⟨a,g,i⟩:=Ym f;refine ⟨u::a,dO.2 ⟨u,a,rfl,e,g⟩,fun j v hv => ?_⟩;cases j with
  | zero=>simp at hv; subst hv; exact d
  | succ j=>have:=i j v (by simpa using hv); rwa [show o+(j+1)=o+1+j by omega]
theorem KY {P:Program} (a:ti P e=some h) {b c:Nat} {w:World} :
 (h.agg=true->∀ f:List Value,f.length=h.size->(∀ (j:Nat) v,f[j]? = some v->w.cell? ⟨b,c+j,none⟩=some v)->(Instr.loadAt e (.pointer (some ⟨b,c,none⟩))).run P w = .ok (.agg f.toArray) w) /\
 (h.agg=false->∀ v,w.cell? ⟨b,c,none⟩=some v->(Instr.loadAt e (.pointer (some ⟨b,c,none⟩))).run P w = .ok v w):=by
 obtain ⟨i,z,d,g⟩:=IU a;constructor
 .intro l f m hv;have:=run_loadCells_list (P:=P) w ⟨b,c,none⟩ f (fun j v n=>by rw[jL]; simp_all);rw[m] at this;simp[Instr.loadAt,Instr.sureAddr,loadVar,g.aE0 w,l,g.run_sizeOf w,this]
 .intro l v hv;simp[Instr.loadAt,Instr.sureAddr,loadVar,g.aE0 w,l,hv]
theorem aBC (o:Inv n M B out σ a.tmps w) {P:Program} {t:TypeId} {I:TI} (h:ti P t=some I) {x:Operand} {q:PV} (hq:σ.rd x=some q) {Z:Bool} {p:PV} {L:ASt} (l:pV Z I q σ=some (p,L)) :
 ∃ v,(Instr.loadAt t (a.eval x)).run P w = .ok v w/\Pre n out M B σ a.tmps w M B L w p v:=by
 have hr:=(o.rd x q hq).1;unfold pV at l;split at l
 .rename_i e;split at l
  .rename_i y;cases l;obtain ⟨b,f,T,g⟩:=Bo.1 hr;have g:=g.mono (eH.zero M B);rw[T];cases H:I.agg with
   | true =>
    rw[H] at y;cases e<;>simp[PV.isAgg] at y
    obtain ⟨z,J,A⟩:=Ym (zI.1 g);have a':=ou J;refine ⟨_,(KY h).1 H z (by grind [PV.size]) (fun j v hv=>(o.mem _ _ _ (A j v hv)).1),Pre.plain o (qU.2 ⟨_,rfl,by omega⟩) (fun b=>ed rfl _ _) (gU rfl)⟩
   | false =>
    rw[H] at y;have J:e.isAgg=false:=y.1;have A:∀ m,e ≠ .tuple m:=fun m e'=>by subst e'; exact a3H.1 g
    obtain ⟨u,hu,Ha⟩:=(Aa J A).1 g;exact ⟨u,(KY h).2 H u (o.mem _ _ _ hu).1,Pre.plain o (qB.2 Ha) (fun b=>Rk _ _ _) (gU (rH _))⟩
  .cases l
 .rename_i i f;obtain ⟨c,⟨y,N⟩,T⟩:=xH.1 hr;rw[T];split at l
  .rename_i m D;obtain ⟨z,ty,r1,o2,o3,o4,o5⟩:=o.heap.at D y;obtain ⟨ty,rfl,o1⟩:=Ff r1 (by rw[o2.2]; exact N);have E:∀ (j:Nat) v,z[j]? = some v->w.cell? ⟨c.1,j,none⟩=some v:=fun j v hv=>by simp[World.cell?,o1,hv]
   split at l
   .rename_i H;split at l
    .cases l;have Qh:au M B (((m.drop f).take I.size).map PV.un) ((z.toList.drop f).take I.size):=by grind [KH,KG]
     refine ⟨_,(KY h).1 H ((z.toList.drop f).take I.size) (by simp; omega) (fun j v hv => ?_),Pre.plain o (qU.2 ⟨_,rfl,by omega⟩) (fun b=>ed rfl _ _) (gU rfl)⟩;rw[nN] at hv;simp_all
    .cases l
   .have U:I.agg=false:=by grind
    cases V:m[f]? with
    | none=>simp_all
    | some r =>
     simp only[V] at l;obtain ⟨v,hv,F,X,O⟩:=o4 f r V;have C:=(KY h).2 U v (E _ _ hv);cases Z with
     | false =>obtain ⟨rfl,rfl⟩:=l;exact ⟨v,C,Pre.plain o (qB.2 F) (fun b=>Rk _ _ _) (gU (rH _))⟩
     | true =>
      simp at l;obtain ⟨rfl,rfl⟩:=l;have Y:=(iY.1 V).1;have Q:w.setCell ⟨c.1,f,none⟩ v=w:=by
       have:=setCell_eq_setRow w c.1 f z ty (0,0) v o1;have e2:z.setIfInBounds f v=z:=by grind
       grind [setRow_self]
      have S:∀ b,bY r.un v b=0:=fun b=>Rk _ _ _
      obtain ⟨s1,s2,s3,_,_⟩:=o.setCell D y N Y (qB.2 F) (gU (rH _)) O (fun b=>by rw[S]; exact o.cnt b) (fun b _=>S b);rw[Q] at s1 s2 s3;have G:∀ b,fp B { σ with h:=σ.h.set i (some (m.set f r.un)) } a.tmps w b+bY r v b<=fp B σ a.tmps w b:=fun b=>by
       have b0:∀ (m:ai) (K:List Value) (j:Nat),m[j]? = some r->K[j]? = some v->fG (m.set j r.un) K b+bY r v b=fG m K b:=by
        intro m;induction m with
        | nil=>simp
        | cons q qs ih =>
         intro K j J A;cases K with
         | nil=>simp at A
         | cons u K =>
          cases j with
          | zero=>grind [fG]
          | succ j=>grind [fG]
       have Vq:∀ (h:aH) (B:aS) (i:Nat),h[i]? = some (some m)->B[i]? = some c->aT w (h.set i (some (m.set f r.un))) B b+bY r v b=aT w h B b:=by
        intro h;induction h with
        | nil=>simp
        | cons x h ih =>
         intro B i J A;cases B with
         | nil=>simp at A
         | cons d B =>
          cases i with
          | zero =>grind [iO,aT]
          | succ i =>have:=ih B i J A;cases x<;>simp only[List.set_cons_succ,aT]<;>omega
       have:=Vq σ.h B i D y;simp only[fp]; omega
      exact ⟨v,C,s1,eH.refl _ _,Fr.refl _ _ _,fun b _=>G b,F,X,fun b=>by have:=G b; have:=o.cnt b; omega,fun b hb=>by have:=G b; have:=o.new b hb; omega⟩
  .cases l
 .cases l
end
section
variable {n:Nat} {out:Nat->Nat} {M:Mem} {B:aS} {σ:ASt} {a:Act} {w:World} {t:Array Value}
theorem a5C {P:Program} {i:Nat} {c:Nat×Nat×TypeId} (D:B[i]? = some c) (m:c.2.2≠0) {off:Nat}:∀ (f:ai) (l:List Value) (k:Nat) (a:ai) (σ:ASt) (w:World),Inv n M B out σ t w->σ.h[i]? = some (some a) ->
 au M B f l->(∀ d,d∈f->d.own=false)->(∀ u,u∈l->u.oneCell'=true)->off+k+f.length<=a.length ->
 ∃ q,(storeCells ⟨c.1,off,none⟩ l k).run P w = .ok () q/\Good n out M B σ t w M B { σ with h:=σ.h.set i (some (a.take (off+k) ++ f ++ a.drop (off+k+f.length))) } t q
 | [],l,k,a,σ,w,r,z,x,_,_,_=>by
  rw[fA] at x; subst x;refine ⟨w,rfl,?_⟩;have:σ.h.set i (some (a.take (off+k) ++ [] ++ a.drop (off+k+([]:ai).length)))=σ.h:=by simp only[BB,iJ,Oq,Om];apply Ol;grind
  rw[this]; exact Good.refl r
 | d::f,l,k,a,σ,w,r,z,x,g,j,o=>by
  obtain ⟨u,l,rfl,E,F⟩:=dO.1 x;have y:=g d (by simp);have p:=j u (by simp);simp only[bT] at o;obtain ⟨s1,G,H,N,O⟩:=r.setCell z D m (by omega:off+k<a.length) E (gU y) p (fun b=>by rw[ed y]; exact r.cnt b) (fun b _=>ed y _ _);have I:(store ((⟨c.1,off,none⟩:Addr).add k) u).run P w = .ok () (w.setCell ⟨c.1,off+k,none⟩ u):=by rw[jL,run_store P w _ u _ p];grind
  have A:({ σ with h:=σ.h.set i (some (a.set (off+k) d)) }:ASt).h[i]? = some (some (a.set (off+k) d)):=BC (iY.1 z).1;obtain ⟨q,Q,J⟩:=a5C (P:=P) (off:=off) D m f l (k+1) (a.set (off+k) d) _ _ s1 A F (fun e he=>g e (by simp[he])) (fun v hv=>j v (by simp[hv])) (by rw[LJ]; omega);refine ⟨q,by grind [storeCells,Sem.run_bind,Result.andThen_ok],?_⟩;have C:Good n out M B σ t w M B { σ with h:=σ.h.set i (some (a.set (off+k) d)) } t (w.setCell ⟨c.1,off+k,none⟩ u) :=⟨s1,eH.refl _ _,H,fun b _=>by have:=G b; rw[ed y] at this; exact this⟩;have:=C.trans J;have e:(a.set (off+k) d).take (off+(k+1)) ++ f ++ (a.set (off+k) d).drop (off+(k+1)+f.length)=a.take (off+k) ++ (d::f) ++ a.drop (off+k+(d::f).length):=by
   have K:(a.set (off+k) d).take (off+(k+1))=a.take (off+k) ++ [d]:=by apply Ol;grind
   have L:(a.set (off+k) d).drop (off+(k+1)+f.length)=a.drop (off+k+(d::f).length):=by rw[List.drop_set_of_lt (by omega)];simp; omega
   rw[K,L]; simp
  rw[List.set_set,e] at this;exact this
def aV' {b:List Value} (h:au M B L b) (c:∀ d,d∈L->d.one=true):∀ u,u∈b->u.oneCell'=true:=by intro u f;obtain ⟨j,a⟩:=zg.1 f;have m:=ou h;have g:=(iY.1 a).1;have i:L[j]? = some L[j]:=jq (by omega);obtain ⟨n,e,l⟩:=wB h i;rw[e] at a; cases a;exact (FU (c _ (fZ _)) l).2
theorem b'4 (l:Inv n M B out σ a.tmps w) {P:Program} {N:TypeId} {I:TI} (h:ti P N=some I) {x y:Operand} {q p:PV} (hq:σ.rd x=some q) (O:σ.ev y=some p) {m:ASt} (e:zQ I q p (σ.clr y)=some m) :
 ∃ F X Y,(Instr.storeAt N (a.eval x) (a.eval y)).run P w = .ok () F/\Pre n out M B σ a.tmps w X Y m F (.tuple []) undef:=by
 have Z:=(l.rd x q hq).1;obtain ⟨f,G⟩:=l.ev O;obtain ⟨i',z,d,Q⟩:=IU h;obtain ⟨S,o,c3⟩:=l.Yo O;have r:eU M B (.tuple []) undef:=uU.2 ⟨#[],rfl,fA.2 rfl⟩;unfold zQ at e;split at e
 .rename_i i off;obtain ⟨c,⟨T,t⟩,e1⟩:=xH.1 Z;rw[e1];split at e
  .rename_i u v;split at e
   .rename_i A;split at e
    .rename_i C;cases e;obtain ⟨H,e2,hv⟩:=qU.1 f;have J:H.size=I.size:=by have:=ou hv; simp_all
     have D:∀ d,d∈A->d.one=true:=fun d U=>ja.1 C.2.2 d U
     .obtain ⟨F,hw,j⟩:=a5C T t (off:=off) (A.map PV.un) H.toList 0 u _ _ S v (KH hv) (fun d U=>by grind [rH]) (aV' hv D) (by simp; omega);refine ⟨F,M,B,?_,?_⟩
      .rw[e2];have K:(Value.agg H).cells.size=I.size:=J;simp only[Instr.storeAt,Instr.sureAddr,nO,LV,xU,storeVar,Q.run_sizeOf w];rw[aV (by rw[K]; simp)];exact hw
      .have E:∀ b,fp B (σ.clr y) a.tmps w b=fp B σ a.tmps w b:=fun b=>by have:=o b; exact this
       have e3:({ σ.clr y with h:=(σ.clr y).h.set i (some (u.take (off+0) ++ A.map PV.un ++ u.drop (off+0+(A.map PV.un).length))) }:ASt) = { σ.clr y with h:=(σ.clr y).h.set i (some (u.take off ++ A.map PV.un ++ u.drop (off+I.size))) }:=by simp_all
       rw[e3] at j;exact ⟨j.inv,j.le,j.fr.mono fun b _ V=>by rw[E]; exact V,fun b L=>by have:=j.own b L; rw[E] at this; simpa[bY,PV.own] using this,r,gU rfl,fun b=>by have:=j.inv.cnt b; simpa[bY,PV.own] using this,fun b _=>by rfl⟩
    .cases e
   .split at e
    .rename_i p a' g;cases e;obtain ⟨h1,h2,h3⟩:=g;obtain ⟨k1,k2⟩:=FU h1 f;obtain ⟨s1,s2,s3,s4,s5⟩:=S.setCell v T t h3 f G k2 (fun b=>by rw[o]; exact l.cnt b) (fun b L=>by have:=o b; have:=l.new b L; omega);refine ⟨_,M,B,?_,s1,eH.refl _ _,s3.mono fun b _ V=>by have:=o b; omega,fun b _=>by have:=s2 b; have:=o b; simp only[bY,PV.own]; simp; omega,r,gU rfl,fun b=>by have:=s1.cnt b; simpa[bY,PV.own] using this,fun b _=>by rfl⟩;have b0:(store ((⟨c.1,off,none⟩:Addr).add 0) (a.eval y)).run P w = .ok () (w.setCell ⟨c.1,off,none⟩ (a.eval y)):=by rw[jL,run_store P w _ _ _ k2];grind
     simp only[Instr.storeAt,Instr.sureAddr,nO,LV,xU,storeVar,Q.run_sizeOf w];grind [Sem.run_bind,Sem.run_pure,Result.andThen_ok,storeCells]
    .cases e
  .cases e
 .cases e
end
section
variable {n:Nat} {out:Nat->Nat} {M M':Mem} {B:aS} {σ:ASt} {a:Act} {w:World} {t:Array Value}
theorem aJJ (d:Nat):∀ (e:List (Nat×Value)) (k:Nat) (done a:List Value),(∀ (j:Nat) v,e[j]? = some v->v.1=k+j/\v.2.cells.size=d)->done.length=k*d->a.length=e.length*d ->
 Instr.fill (fun i=>some (i*d,d)) (done ++ a).toArray e=some (done ++ e.flatMap fun v=>v.2.cells.toList).toArray
 | [],k,done,a,_,_,n=>by have:a = []:=qg (by grind);grind [Instr.fill]
 | v::e,k,done,a,h,f,n=>by
  obtain ⟨q,o⟩:=h 0 v rfl;obtain ⟨i,v⟩:=v;subst q;have b:=a8F (i*d) v.cells.toList 0 (done ++ a).toArray (by simp[f,o]; rw[n]; simp[qi]);have r:(v.cells.zipIdx.foldl (fun g (c,j)=>g.setIfInBounds (i*d+j) c) (done ++ a).toArray)=((v.cells.toList.zipIdx 0).foldl (fun (g:Array Value) (l:Value×Nat)=>g.setIfInBounds (i*d+l.2) l.1) (done ++ a).toArray):=by rw[<- Array.foldl_toList,Array.toList_zipIdx]
  have p:v.cells.toList.length=d:=by simpa using o
  simp only[Oq,p,<- f] at b;rw[List.take_left,<- Oi,List.drop_left] at b;rw[Instr.fill];simp only;rw[aV (by simp[o,f,n,qi]),r];have m:(v.cells.toList.zipIdx 0).foldl (fun (g:Array Value) (l:Value×Nat)=>g.setIfInBounds (i*d+l.2) l.1) (done ++ a).toArray=((done ++ v.cells.toList) ++ a.drop d).toArray:=by rw[<- uA,<- f,b]
  rw[m,aJJ d e (i+1) (done ++ v.cells.toList) (a.drop d) (fun j x t=>by obtain ⟨a1,a2⟩:=h (j+1) x (by simpa using t);exact ⟨by omega,a2⟩) (by simp[f,p,qi]) (by simp[n,qi])];simp
theorem bSV {b o f g:Nat} (h:Loc M B x b o) (c:∀ (b o:Nat) (v:Value),M b o=some v->M' b o=some v) (i:∀ j,j<x.size->∀ v,M b (o+j)=some v->M' f (g+j)=some v):Loc M' B x f g:=by
 have l:eH M M' B B:=⟨c,fun _ _ h=>h⟩;by_cases t:x.isAgg=true
 .cases x<;>simp[PV.isAgg] at t
  refine zI.2 (Gm fun j q hq => ?_);obtain ⟨u,m,d⟩:=Ph (zI.1 h) hq;exact ⟨u,i j (iY.1 hq).1 u m,d.mono l⟩
 .have a:x.isAgg=false:=by grind
  have n:∀ r,x ≠ .tuple r:=fun r e=>by subst e; exact a3H.1 h
  obtain ⟨u,m,d⟩:=(Aa a n).1 h;have w:x.size=1:=by cases x<;>first | rfl | (simp[PV.isAgg] at a)
  refine (Aa a n).2 ⟨u,?_,d.mono l⟩;have:=i 0 (by omega) u (by omega);omega
def bSX {a b o f c:Nat} (h:lS M B a L b o) (g:∀ p,p∈L->p.size=a) (d:∀ (b o:Nat) (v:Value),M b o=some v->M' b o=some v) (l:∀ j,j<L.length*a->∀ v,M b (o+j)=some v->M' f (c+j)=some v):lS M' B a L f c :=
 Ac fun j p e=>bSV (FN h e) d fun i q v hv=>by
  have m:=(iY.1 e).1;have n:=g p (qh e);have:j*a+i<L.length*a:=by have:(j+1)*a<=L.length*a:=wO _ m;rw[qi] at this; omega
  have:=l (j*a+i) this v (by rwa [show o+(j*a+i)=o+j*a+i by omega]);rwa [show c+(j*a+i)=c+j*a+i by omega] at this
theorem bSW {b o:Nat} (h:Loc M B x b o):∃ c:List Value,c.length=x.size/\∀ (j:Nat) v,c[j]? = some v->M b (o+j)=some v:=by
 by_cases g:x.isAgg=true
 .cases x<;>simp[PV.isAgg] at g
  obtain ⟨c,i,l⟩:=Ym (zI.1 h);exact ⟨c,(ou i).symm,l⟩
 .have a:x.isAgg=false:=by grind
  have m:∀ f,x ≠ .tuple f:=fun f e=>by subst e; exact a3H.1 h
  obtain ⟨u,n,q⟩:=(Aa a m).1 h;have d:x.size=1:=by cases x<;>first | rfl | (simp[PV.isAgg] at a)
  refine ⟨[u],by simp[d],fun j v hv => ?_⟩;grind
def aSZ:∀ {c:ai} {a b o:Nat},lS M B a c b o->(∀ p,p∈c->p.size=a)->∃ d:List Value,d.length=c.length*a/\∀ (j:Nat) v,d[j]? = some v->M b (o+j)=some v
 | [],_,_,_,_,_=>⟨[],by simp,by simp⟩
 | p::c,a,b,o,h,g=>by
  obtain ⟨i,l⟩:=RH.1 h;obtain ⟨e,r,m⟩:=bSW i;obtain ⟨d,t,n⟩:=aSZ l fun q hq=>g q (by simp[hq])
  have u:=g p (by simp);refine ⟨e ++ d,by simp[qi]; omega,fun j v hv => ?_⟩;rcases zk j e.length with f | f
  .exact m j v (by rwa [vJ f] at hv)
  .have:=n (j-e.length) v (by rwa [Il f] at hv);rwa [show o+a+(j-e.length)=o+j by omega] at this
theorem aIS {c:Nat}:∀ {a:List (Nat×PV)} {k:Nat} {b:ai},Ep c k a=some b->b.length=a.length/\∀ (j:Nat) q,a[j]? = some q->q.1=k+j/\q.2.size=c/\q.2.okE=true/\b[j]? = some q.2.un
 | [],k,b,h=>by grind [Ep]
 | (i,p)::a,k,b,h=>by
  rw[Ep] at h;split at h
  .rename_i d;cases he:Ep c (k+1) a with
   | none=>grind
   | some e =>
    simp[he] at h; subst h;obtain ⟨f,g⟩:=aIS he;refine ⟨by simp[f],fun j q hq => ?_⟩;cases j with
    | zero=>simp at hq; subst hq; exact ⟨d.1,d.2.1,d.2.2,rfl⟩
    | succ j =>obtain ⟨a1,a2,a3,a4⟩:=g j q (by simpa using hq);exact ⟨by omega,a2,a3,by simpa using a4⟩
  .cases h
theorem b4O {b:List (Nat×Value)} {a:Nat} (c:∀ (j:Nat) v,b[j]? = some v->v.2.cells.size=a):∀ {j:Nat} {v:Nat×Value},b[j]? = some v->∀ i,i<a->(b.flatMap fun v=>v.2.cells.toList)[j*a+i]? = v.2.cells.toList[i]? := by
 induction b with
 | nil=>simp
 | cons u g d =>
  intro j v h i e;have f:u.2.cells.toList.length=a:=by simpa using c 0 u rfl
  rw[TC];cases j with
  | zero=>grind
  | succ j =>rw[Il (by rw[qi]; omega),f,show (j+1)*a+i-a=j*a+i by rw[qi]; omega];exact d (fun j v h=>c (j+1) v (by grind)) (by grind) i e
theorem b4P {vs:List (Nat×Value)} {sz:Nat} (a:∀ (j:Nat) v,vs[j]? = some v->v.2.cells.size=sz):(vs.flatMap fun v=>v.2.cells.toList).length=vs.length*sz:=by
 induction vs with
 | nil=>simp
 | cons u c b =>
  rw[TC,aZ,b (fun j v h=>a (j+1) v (by grind))];have d:u.2.cells.toList.length=sz:=by simpa using a 0 u rfl
  grind
theorem bSO (g:kR f e=some h) {b:Nat} {iD:Array (Nat×Value)} (q:iD.size=b) (r:∀ (j:Nat) v,iD.toList[j]? = some v->v.1=j/\v.2.cells.size=h.size) (m:0<h.size) (o:b*h.size<=16777216) (w:World) :
 ∃ a,(Instr.buildSlice e b iD).run f w = .ok (.slice (some ⟨w.heap.size,0,none⟩) b b) (w.alloc (.cells (iD.toList.flatMap fun v=>v.2.cells.toList).toArray a)):=by
 obtain ⟨a,i,z,d,n,c⟩:=zx g;refine ⟨a,?_⟩;have l:=c.size;by_cases t:b=0
 .have p:iD = #[]:=by simp_all
  subst p;simp[Instr.buildSlice,gJ n,c.run_sizeOf w,Instr.fill,newRow];grind
 .refine run_buildSlice w e a b iD _ i z n c.info c.zero (by rw[<- l]; omega) (by grind [Nat.mul_ne_zero]) ?_;have:=aJJ i.size iD.toList 0 [] ((List.range (b*i.size)).map (z.cells[· % z.cells.size]!)) (fun j v hv=>by grind) (by simp) (by grind);have a:(Array.range (b*i.size)).map (z.cells[· % z.cells.size]!)=([] ++ (List.range (b*i.size)).map (z.cells[· % z.cells.size]!)).toArray:=by grind
  rw[a,this]; rfl
def b06 {rd:Operand->Option PV} {d:Operand->Value} (h:∀ x q,rd x=some q->eU M B q (d x)/\q.own=false) {e:Array (Nat×Operand)} {c:List (Nat×PV)} (hq:uu rd e.toList=some c) {f:Nat} (he:Ep f 0 c=some L) :
 (∀ (j:Nat) v,(e.map fun (i,x)=>(i,d x)).toList[j]? = some v->v.1=j/\v.2.cells.size=f/\∃ q:Nat×PV,c[j]? = some q/\L[j]? = some q.2.un/\q.2.size=f/\eU M B q.2 v.2/\q.2.okE=true)/\(e.map fun (i,x)=>(i,d x)).size=L.length:=by
 obtain ⟨l,t⟩:=aCD h hq;obtain ⟨u,w⟩:=aIS he;have m:(e.map fun (i,x)=>(i,d x)).toList=e.toList.map fun p=>(p.1,d p.2):=by simp
 refine ⟨fun j v hv => ?_,by rw[u,l]; simp⟩;rw[m] at hv;have r:=(iY.1 hv).1;have b:c[j]? = some (c[j]'(by rw[l]; exact r)):=jq _;obtain ⟨a1,a2⟩:=t j _ v b hv;obtain ⟨D,g,n,y⟩:=w j _ b;refine ⟨by omega,?_,_,b,y,g,a2,n⟩;generalize c[j]'(by rw[l]; exact r)=q at *;cases a:q.2 with
 | agg z =>rw[a] at a2 g;obtain ⟨A,o,C⟩:=qU.1 a2;have:=ou C;rw[o];simp[PV.size] at g;simp at this;show A.size=f;omega
 | tuple z=>rw[a] at n; simp[PV.okE,PV.one] at n
 | _ =>rw[(FU (by rw[a]; rfl) a2).1,<- g,a]; rfl
theorem bXU {v:Value} (h:eU M B x v) (b:x.okE=true):∀ u,u∈v.cells.toList->u.oneCell'=true:=by
 have a:x.one=true->∀ u,u∈v.cells.toList->u.oneCell'=true:=fun c u d=>by
  rw[(FU c h).1] at d;have:u=v:=by grind
  subst this; exact (FU c h).2
 cases x with
 | agg e =>obtain ⟨g,rfl,f⟩:=qU.1 h;simp only[PV.okE,bH] at b;exact aV' f (ja.1 b.1)
 | tuple e=>grind [PV.okE]
 | _=>exact a rfl
end
section
variable {n:Nat} {out:Nat->Nat} {M:Mem} {B:aS} {σ:ASt} {a:Act} {w:World} {E:AE}
theorem Rj {p:PV} {b0 off m c b:Nat}:bY p (.slice (some ⟨b0,off,none⟩) m c) b<=if b0=b then 1 else 0:=by grind [bY]
theorem Pre.newRow (g:Inv n M B out σ a.tmps w) {vs:Array Value} {ty:TypeId} {sz k:Nat} {es:ai} {cap:Nat} (o:0<sz) (r:∀ v,v∈vs->v.oneCell'=true) (hk:k=es.length*sz) (d:es.length<=cap) (i:cap*sz<=vs.size)
 (t:∀ e,e∈es->e.size=sz) (u:lS (laid M w.heap.size (vs.toList.take k)) [] sz es w.heap.size 0) :
 Pre n out M B σ a.tmps w (laid M w.heap.size (vs.toList.take k)) B σ (w.alloc (.cells vs ty)) (.sl true sz es) (.slice (some ⟨w.heap.size,0,none⟩) es.length cap):=by
 obtain ⟨j,y⟩:=g.lay vs ty k r;have C:=fun b (f:w.heap.size<=b)=>g.new b f
 refine ⟨j.inv,j.le,j.fr,fun b f => ?_,jo.2 ⟨_,cap,rfl,d,t,fun h=>absurd h (by omega),fun _=>⟨_,_,rfl,u⟩⟩,?_,fun b => ?_,fun b f => ?_⟩;grind [Rj]
 .refine SK (fun l h=>by cases h) ?_;intro z A x D q e ev;grind [heap_alloc_new,zF,zG]
 .have:=Rj (p := .sl true sz es) (b0:=w.heap.size) (off:=0) (m:=es.length) (c:=cap) (b:=b);have:=g.cnt b;grind
 .have:=Rj (p := .sl true sz es) (b0:=w.heap.size) (off:=0) (m:=es.length) (c:=cap) (b:=b);simp at f;rw[aV (by omega)] at this; omega
theorem aSU {M:Mem} {B:aS} (h:x.lit=true) (a:eU M B x u):eU Nc [] x u:=by
 cases x with
 | int k n=>exact fH.2 (fH.1 a)
 | bool b=>exact kw.2 (kw.1 a)
 | str s=>exact jS.2 (jS.1 a)
 | _=>simp[PV.lit] at h
theorem aSR {M:Mem} {B:aS} (h:x.lit=true) (a:eU Nc [] x u):eU M B x u:=by
 cases x with
 | int k n=>exact fH.2 (fH.1 a)
 | bool b=>exact kw.2 (kw.1 a)
 | str s=>exact jS.2 (jS.1 a)
 | _=>simp[PV.lit] at h
theorem aBE {M:Mem} {i b:Nat}:∀ {d:ai} {o:Nat},lS M [] i d b o->(∀ e,e∈d->e.size=i)->∀ {j:Nat} {p:PV},(gG d)[j]? = some p->∃ u,M b (o+j)=some u/\eU M [] p u
 | [],_,_,_,j,p,h=>by simp[gG] at h
 | e::d,o,r,l,j,p,h=>by
  obtain ⟨f,t⟩:=RH.1 r;have v:=fun {j:Nat} {p:PV}=>aBE t (fun e he=>l e (by simp[he])) (j:=j) (p:=p)
  have m:=l e (by simp);cases e with
  | agg g =>
   rw[gG] at h;simp only[PV.size] at m;rcases zk j g.length with w | w
   .rw[vJ (by grind)] at h;cases n:g[j]? with
    | none=>grind
    | some q =>simp[n] at h; subst h;obtain ⟨u,a,c⟩:=Ph (zI.1 f) n;exact ⟨u,a,qB.2 c⟩
   grind
  | tuple g=>exact (a3H.1 f).elim
  | _ =>
   rw[gG] at h
   .simp only[PV.size] at m;cases j with
    | zero =>simp at h; subst h;obtain ⟨u,a,c⟩:=(DZ rfl).1 f;exact ⟨u,a,qB.2 c⟩
    | succ j =>obtain ⟨u,a,c⟩:=v h;exact ⟨u,by rw[<- a]; congr 1; omega,c⟩
   .simp
theorem ZF {a:Nat}:∀ {es:ai},(∀ e,e∈es->e.size=a)->(gG es).length=es.length*a
 | [],_=>by simp[gG]
 | e::es,b=>by
  have d:=ZF (es:=es) fun e he=>b e (by simp[he])
  have c:=b e (by simp);rw[bT,LQ];cases e with
  | agg f=>grind [PV.size,gG]
  | _=>simp only[PV.size] at c; rw[gG,bT,d,c]; simp
theorem Pre.aU2 (g:Inv n M B out σ a.tmps w) {ty:TypeId} {sz k:Nat} {cs:ai} {cap:Nat} (l:0<sz) (q:∀ v,v∈O->v.oneCell'=true) (hk:cs.length=k*sz) (d:k<=cap) (h:cap*sz<=O.size)
 (z:∀ (j:Nat) p,cs[j]? = some p->p.lit=true/\∃ u,O[j]? = some u/\eU Nc [] p u/\u.oneCell'=true) :
 Pre n out M B σ a.tmps w (laid M w.heap.size (O.toList.take 0)) B σ (w.alloc (.cells O ty)) (.iI true k sz cs) (.slice (some ⟨w.heap.size,0,none⟩) k cap):=by
 obtain ⟨i,r⟩:=g.lay O ty 0 q;have A:=fun b (f:w.heap.size<=b)=>g.new b f
 refine ⟨i.inv,i.le,i.fr,fun b f => ?_,II.2 ⟨_,cap,rfl,d⟩,?_,fun b => ?_,fun b f => ?_⟩;grind [Rj]
 .refine aEO ?_;intro C t y x D o e ev;grind [heap_alloc_new,zF,zG]
 .have:=Rj (p := .iI true k sz cs) (b0:=w.heap.size) (off:=0) (m:=k) (c:=cap) (b:=b);have:=g.cnt b;grind
 .have:=Rj (p := .iI true k sz cs) (b0:=w.heap.size) (off:=0) (m:=k) (c:=cap) (b:=b);simp at f;rw[aV (by omega)] at this; omega
theorem qW:∀ {a:ai} {p:PV},p∈gG a->p.own=false
 | [],p,h=>by simp[gG] at h
 | e::a,p,h=>by
  cases e with
  | agg b =>
   rcases LK.1 h with h | h
   .obtain ⟨x,_,rfl⟩:=zh.1 h; exact rH x
   .exact qW h
  | _ =>
   rw[gG] at h
   .rcases jr.1 h with rfl | h
    .exact rH _
    .exact qW h
   .simp
def a8E:∀ {c:ai} {d:List (Nat×Value)},c.length=d.length->(∀ (j:Nat) e v,c[j]? = some e->d[j]? = some v->eU M B e v.2/\e.okE=true)->au M B (gG c) (d.flatMap fun v=>v.2.cells.toList)
 | [],[],_,_=>fA.2 rfl
 | [],_::_,h,_=>by simp at h
 | _::_,[],h,_=>by simp at h
 | e::c,v::d,i,h=>by
  obtain ⟨f,l⟩:=h 0 e v rfl rfl;have g:=a8E (by simpa using i) fun j e v a b=>h (j+1) e v (by simpa using a) (by simpa using b)
  rw[TC];cases e with
  | agg m =>obtain ⟨p,n,o⟩:=qU.1 f;rw[n];exact Fa (KH o) g
  | tuple m=>simp[PV.okE,PV.one] at l
  | _ =>
   rw[gG]
   .rw[(FU rfl f).1];exact dO.2 ⟨_,_,rfl,qB.2 f,g⟩
   .simp
def b_U (p:PV):p.un.okE=p.okE:=by cases p<;>rfl
theorem bSP (t:Inv n M B out σ a.tmps w) {Q:List Nat} {P:Program} {L:TypeId} {I:TI} (hT:kR P L=some I) {D:Array (Nat×Operand)} {S:List (Nat×PV)} (hq:uu (σ.rdT Q) D.toList=some S) {b:ai} (he:Ep I.size 0 S=some b) {c:Nat} (E:b.length=c) (f:0<I.size) (N:c*I.size<=16777216) :
 (∃ v o F G,(Instr.buildSlice L c (D.map fun (i,x)=>(i,a.eval x))).run P w = .ok v o/\Pre n out M B σ a.tmps w F G σ o (.sl true I.size b) v) /\
 (∃ v o F G,(Instr.buildSlice L c (D.map fun (i,x)=>(i,a.eval x))).run P w = .ok v o/\Pre n out M B σ a.tmps w F G { σ with h:=σ.h ++ [some (gG b)] } o (.slh σ.h.length 0 c I.size) v) /\
 ((gG b).all PV.lit=true->∃ v o F G,(Instr.buildSlice L c (D.map fun (i,x)=>(i,a.eval x))).run P w = .ok v o/\Pre n out M B σ a.tmps w F G σ o (.iI true c I.size (gG b)) v):=by
 subst E;obtain ⟨T,O⟩:=b06 (M:=M) (B:=B) (t.rdT Q) hq he;obtain ⟨e,g⟩:=bSO hT O (fun j v hv=>by grind) f N w;generalize a':(D.map fun (i,x)=>(i,a.eval x))=iD at *;have m:=b4P (vs:=iD.toList) (sz:=I.size) fun j v hv=>(T j v hv).2.1
 have y:iD.toList.length=b.length:=by omega
 rw[y] at m;have d:∀ (j:Nat) e v,b[j]? = some e->iD.toList[j]? = some v->eU M B e v.2/\e.okE=true/\e.size=I.size:=fun j e v z A=>by obtain ⟨_,_,q,_,U,h4,h5,h6⟩:=T j v A;rw[z] at U; cases U;exact ⟨qB.2 h5,by rw[b_U]; exact h6,by rw[aFG]; exact h4⟩
 have V:∀ v,v∈(iD.toList.flatMap fun v=>v.2.cells.toList)->v.oneCell'=true:=by intro u H;obtain ⟨v,hv,H⟩:=List.mem_flatMap.1 H;obtain ⟨j,r⟩:=zg.1 hv;grind [bXU]
 refine ⟨?_,?_,?_⟩
 .refine ⟨_,_,_,_,g,Pre.newRow t (k:=b.length*I.size) f (by grind) rfl (dG _) (by simp[m]) (fun e he => ?_) (Ac fun j p r => ?_)⟩
  .obtain ⟨j,r⟩:=zg.1 he;have J:=(iY.1 r).1;exact (d j e _ r (jq (by omega))).2.2
  .have J:=(iY.1 r).1;have hv:iD.toList[j]? = some (iD.toList[j]'(by omega)):=jq (by omega);generalize iD.toList[j]'(by omega)=v at hv;obtain ⟨K,X,Y⟩:=d j p v r hv;have K:=K.flat [] (bUD X);have Z:=(WC t ((iD.toList.flatMap fun v=>v.2.cells.toList).toArray.toList.take (b.length*I.size))).none;have l:∀ i,i<I.size->∀ u,v.2.cells.toList[i]? = some u->laid M w.heap.size ((iD.toList.flatMap fun v=>v.2.cells.toList).toArray.toList.take (b.length*I.size)) w.heap.size (0+j*I.size+i)=some u:=fun i hi u H=>by rw[zF (zG t),ah rfl,nN,ah (by have:(j+1)*I.size<=b.length*I.size:=wO _ J;rw[qi] at this; omega)];grind [b4O]
   cases p with
   | agg ds =>obtain ⟨us,e1,hr⟩:=qU.1 K;refine zI.2 (Gm fun i q hq => ?_);obtain ⟨u,H,Ha⟩:=wB hr hq;have hi:=(iY.1 hq).1;simp[PV.size] at Y;exact ⟨u,l i (by omega) u (by rw[e1]; exact H),Ha.mono Z⟩
   | tuple ds=>simp[PV.okE,PV.one] at X
   | _ =>refine (DZ rfl).2 ⟨v.2,?_,K.mono Z⟩;have:=l 0 (by simp[PV.size] at Y; omega) v.2 (by rw[(FU rfl K).1]; rfl);simpa using this
 .have C:au M B (gG b) (iD.toList.flatMap fun v=>v.2.cells.toList):=a8E y.symm fun j e v z A=>⟨(d j e v z A).1,(d j e v z A).2.1⟩
  have hG:=t.newObj (iD.toList.flatMap fun v=>v.2.cells.toList).toArray e (gG b) (by have:=ou C; simp_all) (fun j p r=>by grind [wB,qW,gU,ed]);refine ⟨_,_,_,_,g,Pre.Bg hG (uT.2 ⟨(w.heap.size,(iD.toList.flatMap fun v=>v.2.cells.toList).toArray.size,e+1),b.length,⟨by rw[t.heap.1]; simp,by simp⟩,rfl,dG _,by simp[m]⟩) rfl⟩
 .intro b0;have C:au M B (gG b) (iD.toList.flatMap fun v=>v.2.cells.toList):=a8E y.symm fun j e v z A=>⟨(d j e v z A).1,(d j e v z A).2.1⟩
  refine ⟨_,_,_,_,g,Pre.aU2 t (k:=b.length) f (by grind) (by have:=ou C; omega) (dG _) (by simp[m]) fun j p r => ?_⟩;grind [wB,aSU]
end
section
variable {n:Nat} {out:Nat->Nat} {M:Mem} {B:aS} {σ:ASt} {a:Act} {w:World} {H:TypeId} {J:TypeInfo}
theorem aHN {P:Program} {ty:TypeId} (j:P.underlying e=some (.slice H)) (l:P.info? H=some J) (n:J.zero=some u) {base A':Option Addr} {sLen sCap m c:Nat} {olds news:List Value}
 (f:(Builtin.firstCells J.size sLen (.slice base sLen sCap)).run P w.drew = .ok olds.toArray w.drew) (g:(Builtin.firstCells J.size m (.slice A' m c)).run P w.drew = .ok news.toArray w.drew)
 (o:sCap<sLen+m) (a:sLen+m<=aO) (p:J.bytes<=1024) :
 (Builtin.append_ #[e,e] ty #[.slice base sLen sCap,.slice A' m c]).run P w =
  .ok (.slice (some ⟨w.heap.size,0,none⟩) (sLen+m) (grownCap w (sLen+m) sCap H)) (w.drew.alloc (.cells (olds.toArray ++ news.toArray ++ Builtin.zeroCells u.cells (grownCap w (sLen+m) sCap H-(sLen+m))) H)):=by
 unfold aO at a;have q:¬ (sLen+m<=sCap):=by omega
 have b:¬ (9223372036854775807<((sLen:Int)+(m:Int))):=by omega
 have h:(sLen+m)*J.bytes<=140737488355328:=lD (Nat.mul_le_mul a p) (by decide);have d:¬ (281474976710656<Builtin.nextslicecap (sLen+m) sCap*J.bytes):=by have:=growslice_fits o h; omega
 simp[Builtin.append_,gJ j,sizeOf,typeInfo,zeroValue,l,n,Builtin.lenOf,q,b,d,Question.forced,f,g,newRow,grownCap];grind
variable {S:List Value} {b7:TypeId}
def aHP {P:Program} {ty:TypeId} (h:P.underlying e=some (.slice H)) (j:P.info? H=some J) {g off:Nat} {A':Option Addr} {sLen sCap m c:Nat} 
 (d:(Builtin.firstCells J.size m (.slice A' m c)).run P w = .ok S.toArray w) (l:w.heap[g]? = some (.cells O b7 (0,0))) (a:sLen+m<=sCap) (n:∀ u,u∈S->u.oneCell'=true) (f:off+sLen*J.size+S.length<=O.size) :
 (Builtin.append_ #[e,e] ty #[.slice (some ⟨g,off,none⟩) sLen sCap,.slice A' m c]).run P w =
  .ok (.slice (some ⟨g,off,none⟩) (sLen+m) sCap) (w.setRow g (O.toList.take (off+sLen*J.size) ++ S ++ O.toList.drop (off+sLen*J.size+S.length)).toArray):=by
 have b:=run_storeCells_at P g (off+sLen*J.size) b7 S 0 O w l (by omega) n;simp only[Oq] at b;simp[Builtin.append_,gJ h,sizeOf,typeInfo,j,Builtin.lenOf,a,d,jL,b]
variable {b6:Option Addr}
def aHO (b:f.underlying e=some (.slice b7)) (d:f.info? b7=some J) {c:Nat} 
 (a:(Builtin.firstCells J.size 0 (.slice b6 0 c)).run f w = .ok S.toArray w) :
 (Builtin.append_ #[e,e] H #[.slice none 0 0,.slice b6 0 c]).run f w = .ok (.slice none 0 0) w:=by
 simp[Builtin.append_,gJ b,sizeOf,typeInfo,d,Builtin.lenOf,a]
def ZH {b:Nat}:fp B σ O w.drew b=fp B σ O w b:=by simp only[fp]; rw[I7 (w':=w.drew) (w:=w) b (fun _ _ _ _ _=>rfl)]
theorem a8A {P:Program} {f a:Nat} (n:∀ e,e∈L->e.size=f) (t:L.length<=a) (y:L ≠ []->∃ b c,b6=some ⟨b,c,none⟩/\lS M [] f L b c) (p:∀ (b o:Nat) (v:Value),M b o=some v->w.cell? ⟨b,o,none⟩=some v/\v.oneCell'=true) :
 ∃ g:List Value,g.length=L.length*f/\(∀ d,(∀ (b o:Nat) (v:Value),M b o=some v->d.cell? ⟨b,o,none⟩=some v)->(Builtin.firstCells f L.length (.slice b6 L.length a)).run P d = .ok g.toArray d)/\(∀ u,u∈g->u.oneCell'=true) /\
  ∀ (i:Mem) (l m:Nat),(∀ (b o:Nat) (v:Value),M b o=some v->i b o=some v)->(∀ (j:Nat) v,g[j]? = some v->i l (m+j)=some v)->lS i [] f L l m:=by
 cases b6 with
 | none =>
  have:L = []:=by simp_all
  subst this;exact ⟨[],by simp,fun d _=>by rfl,by simp,fun _ _ _ _ _=>a3I⟩
 | some x =>
  by_cases h:L = []
  .subst h;exact ⟨[],by simp,fun d _=>Xu (P:=P) d f 0 x 0 a [] (by simp) (fun j v hv=>by simp at hv),by simp,fun _ _ _ _ _=>a3I⟩
  obtain ⟨b,c,z,q⟩:=y h;cases z;obtain ⟨g,r,E⟩:=aSZ q n;refine ⟨g,r,fun d F=>Xu (P:=P) d f L.length ⟨b,c,none⟩ L.length a g r (fun j v hv=>by rw[jL]; simp_all),fun u B => ?_,fun i l m C G=>bSX q n C fun j D v hv => ?_⟩
  .obtain ⟨j,D⟩:=zg.1 B;grind
  simp_all
variable {c0:Bool}
def X6 {M:Mem} {B:aS} {a:Nat}:eU M B (.sl g a L) u↔eU M B (.sl c0 a L) u:=by rw[jo,jo]
theorem aXC {b:Nat} (d:g=true\/b=0) (l:eU M B (.sl g b L) u) (e:Tl M w (.sl g b L) u):∀ A c,u = .slice A L.length c->(A=none->c=0)/\(b=0->A=none)/\∀ a,A=some a->(PV.sl g b L).own=true/\∃ f m,w.heap[a.block]? = some (.cells f m (0,0))/\a.off+c*b<=f.size/\(∀ o,a.off+L.length*b<=o->M a.block o=none)/\a.spot=none/\a.off=0:=fun A c h=>by
 obtain ⟨C,i,j,_,_,n,_⟩:=jo.1 l;rw[h] at j; injection j with p _ q; subst p; subst q
 by_cases r:b=0;simp_all
 .have:=d.resolve_right r;subst this;obtain ⟨t,x,y⟩:=e.s b L _ _ _ rfl h;exact ⟨t,x,fun a z=>⟨rfl,y a z⟩⟩
def Y4 (w g:World) (e:TypeId) (b:Nat) (h v:Value):Prop:=∀ A n a,v = .slice (some A) n a->∃ d f,g.heap[A.block]? = some (.cells d f (0,0))/\((f=e/\d.size=a*b/\a<=maxLen)\/∃ A0 i c,h = .slice (some A0) i a/\w.heap[A0.block]? = some (.cells c f (0,0))/\d.size=c.size)
theorem aHQ (L:Inv n M B out σ a.tmps w) {P:Program} {t u ty e:TypeId} {I:TI} {i:TypeInfo} {z:Value} {d:TypeDesc} (Z:sD P e I i z d) {s:Operand} {X:Value} {sz:Nat} {es es':ai} {p0:PV} (hs:σ.ev s=some p0) (hr:eU M B (.sl true sz es) (a.eval s))
 (a':∀ A cap,a.eval s = .slice A es.length cap->(A=none->cap=0)/\(sz=0->A=none)/\∀ a,A=some a->p0.own=true/\∃ cs ty,w.heap[a.block]? = some (.cells cs ty (0,0))/\a.off+cap*sz<=cs.size/\(∀ o,a.off+es.length*sz<=o->M a.block o=none)/\a.spot=none/\a.off=0)
 (b0:0<I.size) (e6:I.bytes<=1024) (N:sz=I.size\/sz=0) (e7:∀ p,p∈es'->p.size=I.size) (O:es.length+es'.length<=aO)
 {news:List Value} (n1:news.length=es'.length*I.size) (n3:∀ u,u∈news->u.oneCell'=true)
 (n4:∀ (M':Mem) (b' o':Nat),(∀ (b o:Nat) (v:Value),M b o=some v->M' b o=some v)->(∀ (j:Nat) v,news[j]? = some v->M' b' (o'+j)=some v)->lS M' [] I.size es' b' o')
 (c6:es' = []->(Builtin.append_ #[t,u] ty #[.slice none 0 0,X]).run P w = .ok (.slice none 0 0) w)
 (c8:∀ {g off sLen sCap:Nat} {m:Array Value} {D:TypeId},w.heap[g]? = some (.cells m D (0,0))->sLen+es'.length<=sCap->off+sLen*i.size+news.length<=m.size ->
  (Builtin.append_ #[t,u] ty #[.slice (some ⟨g,off,none⟩) sLen sCap,X]).run P w = .ok (.slice (some ⟨g,off,none⟩) (sLen+es'.length) sCap) (w.setRow g (m.toList.take (off+sLen*i.size) ++ news ++ m.toList.drop (off+sLen*i.size+news.length)).toArray))
 (c9:∀ {base:Option Addr} {sLen sCap:Nat} {olds:List Value},(Builtin.firstCells i.size sLen (.slice base sLen sCap)).run P w.drew = .ok olds.toArray w.drew->sCap<sLen+es'.length->sLen+es'.length<=aO ->
  (Builtin.append_ #[t,u] ty #[.slice base sLen sCap,X]).run P w = .ok (.slice (some ⟨w.heap.size,0,none⟩) (sLen+es'.length) (grownCap w (sLen+es'.length) sCap e)) (w.drew.alloc (.cells (olds.toArray ++ news.toArray ++ Builtin.zeroCells z.cells (grownCap w (sLen+es'.length) sCap e-(sLen+es'.length))) e))) :
 ∃ v w' M' B',(Builtin.append_ #[t,u] ty #[a.eval s,X]).run P w = .ok v w'/\Pre n out M B σ a.tmps w M' B' (σ.clr s) w' (.sl true I.size (es ++ es')) v/\Y4 w w' e i.size (a.eval s) v:=by
 have E:=Z.size;have e8:=Z.bytes;obtain ⟨c1,Y,c3⟩:=L.Yo hs;obtain ⟨A,cap,e1,K,e9,c',hA⟩:=jo.1 hr;obtain ⟨hn,hz,b1⟩:=a' A cap e1;have e':sz=I.size\/es = []:=N.imp id fun h=>(c' h).1
 have d3:∀ p,p∈es->p.size=I.size:=fun p hp=>by grind
 have d4:es ≠ []->∃ b off,A=some ⟨b,off,none⟩/\lS M [] I.size es b off:=fun T=>by simp_all
 obtain ⟨olds,o1,o2,o3,o4⟩:=a8A (P:=P) d3 K d4 L.mem;have b2:∀ p,p∈es ++ es'->p.size=I.size:=fun p hp=>by grind
 rw[e1];by_cases r:es.length+es'.length<=cap
 .cases A with
  | none =>
   have d5:=hn rfl;have h1:es = []:=qg (by omega);have h2:es' = []:=qg (by omega);subst h1; subst h2; subst d5;refine ⟨.slice none 0 0,w,M,B,c6 rfl,⟨c1,eH.refl _ _,Fr.refl _ _ _,fun b _ => ?_,jo.2 ⟨none,0,rfl,dG _,by simp,fun _=>⟨rfl,rfl,rfl⟩,by simp⟩,SK (fun l h=>by cases h) fun _ _ _ _ _ _ e=>by grind,fun b => ?_,fun b _=>by simp[bY]⟩,fun A n cap e=>by cases e⟩
   .have:=Y b; simp[bY] at *; omega
   .have:=Y b; have:=L.cnt b; simp[bY] at *; omega
  | some ad =>
   obtain ⟨g,off,rfl,b3⟩:∃ b off,ad=⟨b,off,none⟩/\lS M [] I.size es b off:=by
    by_cases T:es = []
    .obtain ⟨_,_,_,_,_,_,b4⟩:=b1 ad rfl;have b4:=b4.1;exact ⟨ad.block,ad.off,by cases ad; simp_all,by rw[T]; exact a3I⟩
    simp_all
   obtain ⟨d6,m,D,t1,t2,t3,_,b5⟩:=b1 _ rfl;simp only at t1 t2 t3 b5;have Q:∀ b,bY p0 (a.eval s) b=if g=b then 1 else 0:=fun b=>by rw[e1]; simp[bY,d6]
   have f0:fp B σ a.tmps w g=1/\out g=0/\fp B (σ.clr s) a.tmps w g=0:=by have:=L.cnt g; have:=Y g; rw[Q,ah rfl] at this; omega
   have d7:∀ o,off+es.length*I.size<=o->M g o=none:=fun o ho=>t3 o (by simp_all)
   have b6:sz=I.size:=N.resolve_right fun h=>by have:=hz h; cases this
   rw[b6] at t2;have b7:off+es.length*I.size+news.length<=m.size:=by rw[n1];have:(es.length+es'.length)*I.size<=cap*I.size:=wO _ r;rw[qi] at this; omega
   have y:=c8 (g:=g) (off:=off) (sLen:=es.length) (sCap:=cap) t1 r (by rw[<- E]; exact b7);rw[<- E] at y;generalize hk:off+es.length*I.size=k at *;have f3:g<w.heap.size:=(zf.1 t1).1;generalize NH:(m.toList.take k ++ news ++ m.toList.drop (k+news.length)).toArray=c at *;have b8:c.size=m.size:=by rw[<- NH]; simp; omega
   have b9:∀ j,j<news.length->c[k+j]? = news[j]? := fun j hj=>by
    rw[<- NH];rw[aFX];have hl:(m.toList.take k).length=k:=by simp; omega
    rw[yS,Il (by omega),hl,RY,vJ hj]
   have d':∀ o,o<k->c[o]? = m[o]? := fun o ho=>by
    rw[<- NH];rw[aFX];have hl:(m.toList.take k).length=k:=by simp; omega
    rw[yS,vJ (by omega),nN,ah ho]; simp
   have hM:∀ (b o:Nat) (v:Value),M b o=some v->(if b=g/\k<=o/\o<k+news.length then news[o-k]? else M b o)=some v:=fun b o v h=>by
    by_cases T:b=g/\k<=o/\o<k+news.length;simp_all
    .rw[aV T]; exact h
   have F:(w.setRow g c).heap[g]? = some (.cells c D (0,0)):=setRow_heap w g m _ D (0,0) t1;have e0:∀ b,b≠g->(w.setRow g c).heap[b]? = w.heap[b]? := fun b G=>setRow_other w g b _ G
   obtain ⟨M2,H⟩:∃ M2:Mem,∀ b o,M2 b o=if b=g/\k<=o/\o<k+news.length then news[o-k]? else M b o:=⟨Dk _ _,FQ fun b o v h=>hM b o v (M.g _ _ _ h)⟩
   have C:eH M M2 B B:=⟨fun b o v h=>by rw[H]; grind,fun _ _ h=>h⟩;obtain ⟨f1,f2⟩:=c1.ext (w':=w.setRow g c) C (fun b o v h=>by
    by_cases G:b=g
    .subst G;have U:(w.setRow b c).cell? ⟨b,o,none⟩=c[o]? := by simp[World.cell?,F]
     rw[U];by_cases T:k<=o/\o<k+news.length
     .rw[H,ah ⟨rfl,T⟩] at h;have:=b9 (o-k) (by omega);rw[show k+(o-k)=o by omega] at this;grind
     .rw[H,aV (fun x=>T x.2)] at h;have hm:=L.mem b o v h;have:o<k:=by grind
      have h3:w.cell? ⟨b,o,none⟩=m[o]? := by simp[World.cell?,t1]
      grind
    .rw[H,aV (fun x=>G x.1)] at h;have hm:=L.mem b o v h;grind [World.cell?_of_block]) (fun b G=>by
    have d8:b≠g:=fun e=>by grind
    grind) (by simp[World.setRow])
   have J:∀ b,bY (.sl true I.size (es ++ es')) (.slice (some ⟨g,off,none⟩) (es.length+es'.length) cap) b=if g=b then 1 else 0:=fun b=>by rfl
   refine ⟨_,_,_,_,y,⟨f1,C,⟨rfl,rfl,rfl,by simp[World.setRow],fun b G h0 => ?_⟩,fun b G => ?_,jo.2 ⟨_,cap,by rw[aZ],by rw[aZ]; exact r,b2,fun h=>absurd h (by omega),fun _ => ?_⟩,?_,fun b => ?_,fun b G => ?_⟩,fun A2 c0 S e2=>by grind⟩
   .have d8:b≠g:=fun e=>by grind
    grind
   grind
   .refine ⟨g,off,rfl,aSX (b3.mono C.none) ?_⟩;rw[hk];refine n4 _ _ _ C.mem fun j v hv => ?_
    have hj:=(iY.1 hv).1;rw[H,ah ⟨rfl,by omega,by omega⟩,RY]; exact hv
   .refine SK (fun l h=>by cases h) ?_;intro f4 f5 x2 c0 S e3 e4;cases e3; cases e4;refine ⟨by simp,fun h=>absurd h (by omega),fun x hx => ?_⟩;cases hx;refine ⟨c,D,F,by rw[b8]; exact t2,fun o ho => ?_,rfl,b5⟩;simp only at ho;have f6:off+(es ++ es').length*I.size=k+news.length:=by rw[aZ,qi,n1]; omega
    grind
   .rw[f2,J]; have:=Y b; rw[Q] at this; have:=L.cnt b; omega
   .rw[J,aV];grind
 .have y:=c9 (base:=A) (sLen:=es.length) (sCap:=cap) (olds:=olds) (by rw[<- E]; exact o2 w.drew fun b o v h=>(L.mem b o v h).1) (by omega) O;obtain ⟨d1,d2⟩:=c1.drew;have d9:=grownCap_ge w (es.length+es'.length) cap e;have c4:(es ++ es').length*I.size=olds.length+news.length:=by rw[o1,n1,aZ,qi]
  have V:((olds.toArray ++ news.toArray ++ Builtin.zeroCells z.cells (grownCap w (es.length+es'.length) cap e-(es.length+es'.length))).toList.take ((es ++ es').length*I.size))=olds ++ news:=by rw[c4];grind [List.take_left]
  have c5:∀ v,v∈(olds.toArray ++ news.toArray ++ Builtin.zeroCells z.cells (grownCap w (es.length+es'.length) cap e-(es.length+es'.length)))->v.oneCell'=true:=fun v hv=>by
   rcases Array.mem_append.1 hv with hv | hv
   grind
   .unfold Builtin.zeroCells at hv;obtain ⟨j,hj,rfl⟩:=Array.mem_map.1 hv;by_cases h0:z.cells.size=0
    .rw[h0] at hj; simp at hj
    .have:j % z.cells.size<z.cells.size:=Nat.mod_lt _ (by omega);rw[getElem!_pos z.cells _ this];exact Z.one _ (Array.getElem_mem _)
  have e5:=d1.mem;have q:=Pre.newRow (a:=a) d1 (ty:=e) (sz:=I.size) (k:=(es ++ es').length*I.size) (es:=es ++ es') (cap:=grownCap w (es.length+es'.length) cap e) b0 c5 rfl (by rw[aZ]; exact d9) (by
   simp only[Array.size_append,List.size_toArray,size_zeroCells,Z.L9,<- E,o1,n1];rw[<- qi,<- qi];exact wO _ (by omega)) b2 (by
   rw[V];have K:=WC d1 (olds ++ news);refine aSX (o4 _ _ _ K.mem fun j v hv => ?_) (n4 _ _ _ K.mem fun j v hv => ?_)
   .show laid M w.drew.heap.size (olds ++ news) w.drew.heap.size (0+j)=some v;rw[zF (zG d1),ah rfl,rP,vJ (iY.1 hv).1]; exact hv
   .show laid M w.drew.heap.size (olds ++ news) w.drew.heap.size (0+es.length*I.size+j)=some v;rw[zF (zG d1),ah rfl,rP,<- o1,Il (Nat.le_add_right _ _),RY]; exact hv)
  rw[aZ] at q;refine ⟨_,_,_,_,y,⟨q.inv,q.le,?_,fun b G => ?_,q.rep,q.tl,q.cnt,q.new⟩,fun A2 c0 S e2=>by
   cases e2;refine ⟨_,e,TK w.drew _,.inl ⟨rfl,?_,grownCap_le_maxLen w _ cap e (by unfold aO at O; unfold maxLen; omega)⟩⟩;simp only[Array.size_append,List.size_toArray,size_zeroCells,Z.L9,o1,n1,E];rw[<- qi,<- qi];congr 1
   omega⟩
  .refine (Fr.trans (f:=fp B σ a.tmps w) (g:=fp B (σ.clr s) a.tmps w.drew) (M':=M) (w':=w.drew) ⟨rfl,rfl,rfl,dG _,fun _ _ _=>⟨rfl,fun _=>rfl⟩⟩ q.fr fun b G h0 => ?_);have:=Y b;rw[ZH];omega
  .have h1:=q.own b G;have h2:=Y b;rw[ZH] at h1;exact lD h1 (by omega)
def a6Q (M:Mem) (w:World) (f:PV) (c:Nat) (d:ai) (v:Value):Prop:=∀ A b,v = .slice A d.length b->(A=none->b=0)/\(c=0->A=none)/\∀ a,A=some a->f.own=true/\∃ e g,w.heap[a.block]? = some (.cells e g (0,0))/\a.off+b*c<=e.size/\(∀ o,a.off+d.length*c<=o->M a.block o=none)/\a.spot=none/\a.off=0
variable {b2:Type}
def aT9 {p:b2->World->Prop} {q:b2->World->Mem->aS->Prop} {r d:b2->World->Prop} (e:∀ v a,r v a->d v a) (h:∃ v a b c,p v a/\q v a b c/\r v a):∃ v a b c,p v a/\q v a b c/\d v a:=let ⟨v,a,b,c,f,g,i⟩:=h; ⟨v,a,b,c,f,g,e v a i⟩
def aIQ {p:b2->World->Prop} {q:b2->World->Mem->aS->Prop} {r:b2->World->Prop} (h:∃ v a b c,p v a/\q v a b c/\r v a):∃ v a b c,p v a/\q v a b c:=let ⟨v,a,b,c,d,e,_⟩:=h; ⟨v,a,b,c,d,e⟩
variable {G T:Operand} {Y:ai}
theorem aHR (r:Inv n M B out σ a.tmps w) {P:Program} {ty:TypeId} (hT:kR P e=some h) {N j:Nat} (hs:σ.ev G=some x) (S:eU M B (.sl true N L) (a.eval G)) (y:a6Q M w x N L (a.eval G)) (hx:σ.rd T=some (.sl g j Y))
 (A:0<h.size) (C:h.bytes<=1024) (D:N=h.size\/N=0) (Vf:j=h.size\/j=0) (E:L.length+Y.length<=aO) :
 ∃ v O M' B',(Builtin.append_ #[e,e] ty #[a.eval G,a.eval T]).run P w = .ok v O/\Pre n out M B σ a.tmps w M' B' (σ.clr G) O (.sl true h.size (L ++ Y)) v/\∃ c,P.underlying e=some (.slice c)/\Y4 w O c h.size (a.eval G) v:=by
 obtain ⟨c,i,z,d,Q,m⟩:=zx hT;have l:=m.size;have U:=m.bytes;have V:=(r.rd T _ hx).1;obtain ⟨A',F,e2,Z,b5,a',b6⟩:=jo.1 V;have b3:j=h.size\/Y = []:=Vf.imp id fun f=>(a' f).1
 have H:∀ p,p∈Y->p.size=h.size:=fun p hp=>by grind
 have b0:Y ≠ []->∃ b J,A'=some ⟨b,J,none⟩/\lS M [] h.size Y b J:=fun hc=>by simp_all
 obtain ⟨b4,n1,n2,n3,n4⟩:=a8A (P:=P) H Z b0 r.mem;rw[e2];refine aT9 (fun v O f=>⟨c,Q,l▸f⟩) (aHQ (ty:=ty) (u:=e) r m hs S y A C D H E n1 n3 n4 (X := .slice A' Y.length F) (fun h0 => ?_) (fun hh q K => ?_) (fun b1 hg b2 => ?_))
 .subst h0;exact aHO Q m.info (by rw[<- l]; exact n2 w fun b g v f=>(r.mem b g v f).1)
 .exact aHP Q m.info (by rw[<- l]; exact n2 w fun b g v f=>(r.mem b g v f).1) hh q n3 K
 .exact aHN Q m.info m.zero b1 (by rw[<- l]; exact n2 w.drew fun b g v f=>(r.mem b g v f).1) hg b2 (by rw[<- U]; exact C)
def a_9 (r:Inv n M B out σ a.tmps w) {ty:TypeId} (z:kR f e=some h) {l b:Nat} (m:c0=true\/l=0) (u:σ.ev G=some (.sl c0 l L)) (A:σ.rd T=some (.sl g b Y))
 (c:0<h.size) (p:h.bytes<=1024) (d:l=h.size\/l=0) (C:b=h.size\/b=0) (i:L.length+Y.length<=aO) :
 ∃ v y D E,(Builtin.append_ #[e,e] ty #[a.eval G,a.eval T]).run f w = .ok v y/\Pre n out M B σ a.tmps w D E (σ.clr G) y (.sl true h.size (L ++ Y)) v:=by
 obtain ⟨j,q⟩:=r.ev u;exact aIQ (aHR r z u (X6.1 j) (aXC m j q) A c p d C i)
variable {d6:TypeId}
theorem a_4 {P:Program} (l:P.underlying e=some (.slice d6)) (m:P.underlying H=some .string) (n:P.info? d6=some J) (o:J.zero=some u) {a b:Nat} 
 (g:(Builtin.firstCells J.size a (.slice b6 a b)).run P w.drew = .ok S.toArray w.drew) (p:b<a+Q.size) (c:a+Q.size<=aO) (q:J.bytes<=1024) :
 (Builtin.append_ #[e,H] b7 #[.slice b6 a b,.string Q]).run P w =
  .ok (.slice (some ⟨w.heap.size,0,none⟩) (a+Q.size) (grownCap w (a+Q.size) b d6)) (w.drew.alloc (.cells (S.toArray ++ (Lib.strCells Q).toArray ++ Builtin.zeroCells u.cells (grownCap w (a+Q.size) b d6-(a+Q.size))) d6)):=by
 unfold aO at c;have r:¬ (a+Q.size<=b):=by omega
 have d:¬ (9223372036854775807<((a:Int)+(Q.size:Int))):=by omega
 have h:(a+Q.size)*J.bytes<=140737488355328:=lD (Nat.mul_le_mul c q) (by decide);have f:¬ (281474976710656<Builtin.nextslicecap (a+Q.size) b*J.bytes):=by have:=growslice_fits p h; omega
 have j:=aZ8 (P:=P) w.drew J.size Q;simp[Builtin.append_,gJ l,gJ m,sizeOf,typeInfo,zeroValue,n,o,Builtin.lenOf,r,d,f,Question.forced,g,j,newRow,grownCap];grind
def a_5 {P:Program} (c:P.underlying e=some (.slice d6)) (d:P.underlying H=some .string) (f:P.info? d6=some J) (b:Q.size=0) :
 (Builtin.append_ #[e,H] b7 #[.slice none 0 0,.string Q]).run P w = .ok (.slice none 0 0) w:=by
 have a:=aZ8 (P:=P) w J.size Q;rw[b,show Lib.strCells Q = [] from qg (by rw[Lib.strCells_length]; exact b)] at a;simp[Builtin.append_,gJ c,gJ d,sizeOf,typeInfo,f,Builtin.lenOf,b,a]
theorem aHS (hI:Inv n M B out σ a.tmps w) {P:Program} {t u ty:TypeId} (hT:kR P t=some h) (O:uk P u=true) {H:Nat} (hs:σ.ev G=some x) (S:eU M B (.sl true H L) (a.eval G)) (y:a6Q M w x H L (a.eval G)) (hx:σ.rd T=some (.str Q))
 (f:h.size=1) (A:h.bytes<=1024) (C:H=h.size\/H=0) (D:L.length+Q.size<=aO) :
 ∃ v J M' B',(Builtin.append_ #[t,u] ty #[a.eval G,a.eval T]).run P w = .ok v J/\Pre n out M B σ a.tmps w M' B' (σ.clr G) J (.sl true h.size (L ++ KU Q)) v/\∃ e,P.underlying t=some (.slice e)/\Y4 w J e h.size (a.eval G) v:=by
 obtain ⟨e,i,z,d,K,q⟩:=zx hT;have U:=q.size;have V:=q.bytes;have r:=Vm O;rw[jS.1 (hI.rd T _ hx).1];have l:=b'7 Q;refine aT9 (fun v J c=>⟨e,K,U▸c⟩) (aHQ (ty:=ty) (u:=u) (t:=t) (X := .string Q) hI q hs S y (es':=KU Q) (by omega) A C (fun p hp => ?_) (by rw[l]; exact D) (news:=Lib.strCells Q) (by rw[Lib.strCells_length,l,f,Nat.mul_one]) (Lib.strCells_oneCell Q) (fun M' b' o' hM hc => ?_) (fun h0 => ?_) (fun {g Y E b2 Z a'} hh m b3 => ?_) (fun b0 hg F => ?_))
 .obtain ⟨T,_,rfl⟩:=zh.1 hp;rw[f]; rfl
 .rw[f];refine Ac fun j p N => ?_
  unfold KU at N;rw[lN] at N;cases hv:Q.data.toList[j]? with
  | none=>simp_all
  | some v =>simp[hv] at N; subst N;refine (DZ rfl).2 ⟨_,?_,fH.2 rfl⟩;rw[Nat.mul_one];grind [Lib.strCells]
 .exact a_5 K r q.info (by rw[<- l,h0]; rfl)
 .rw[l] at m ⊢;have o:=run_storeCells_at P g (Y+E*i.size) a' (Lib.strCells Q) 0 Z w hh (by omega) (Lib.strCells_oneCell Q);simp only[Oq] at o;have b1:=aZ8 (P:=P) w i.size Q;simp[Builtin.append_,gJ K,gJ r,sizeOf,typeInfo,q.info,Builtin.lenOf,m,b1,jL,o]
 .rw[l] at hg F ⊢;exact a_4 K r q.info q.zero b0 hg F (by rw[<- V]; exact A)
def a_A (r:Inv n M B out σ a.tmps w) {ty:TypeId} (A:kR f e=some h) (C:Ql f e=true) (m:uk f H=true) {l:Nat} (o:g=true\/l=0) (y:σ.ev G=some (.sl g l L)) (D:σ.rd T=some (.str Q))
 (c:h.size=1) (p:h.bytes<=1024) (d:l=h.size\/l=0) (i:L.length+Q.size<=aO) :
 ∃ v z E F,(Builtin.append_ #[e,H] ty #[a.eval G,a.eval T]).run f w = .ok v z/\Pre n out M B σ a.tmps w E F (σ.clr G) z (.sl true h.size (L ++ KU Q)) v:=by
 obtain ⟨j,q⟩:=r.ev y;exact aIQ (aHS r A m y (X6.1 j) (aXC o j q) D c p d i)
variable {b8:f_}
theorem aXB (a:TlT M w (.dn b8) u):a6Q M w (.dn b8) 1 (o7 b8) u:=fun A b e=>by obtain ⟨c,d⟩:=a b8 A _ b rfl e;refine ⟨c,fun h=>absurd h (by omega),fun x f=>⟨rfl,?_⟩⟩;grind [Yg]
theorem Pre.dn {g:Mem} {p:aS} {c:ASt} {i:World} {q:Value} {d:f_} (he:L=o7 d) (h:Pre n out M B σ O w g p c i (.sl true 1 (o7 b8 ++ L)) u) (y:Y4 w i ML 1 q u) (z:TlT M w (.dn b8) q) :
 Pre n out M B σ O w g p c i (.dn (b8 ++ d)) u:=by
 subst he;have f:∀ b,bY (.dn (b8 ++ d)) u b=bY (.sl true 1 (o7 b8 ++ o7 d)) u b:=fun b=>by rfl
 refine ⟨h.inv,h.le,h.fr,fun b j=>by rw[f]; exact h.own b j,?_,⟨(fun _ _ _ _ _ e=>by cases e),fun Q A m a e ev => ?_,fun _ _ _ _ _ _ e _=>by cases e⟩,fun b=>by rw[f]; exact h.cnt b,fun b j=>by rw[f]; exact h.new b j⟩
 .refine X8.1 ?_;rw[aI2];exact X6.1 h.rep
 .cases e;obtain ⟨C,_,D⟩:=h.tl.s 1 _ A m a rfl ev;refine ⟨C,fun x r => ?_⟩;obtain ⟨S,T,E,U,F,V,G⟩:=D x r;subst r;obtain ⟨H,I,k1,k2⟩:=y x m a ev;rw[E] at k1;injection k1 with k1; injection k1 with k1 k3 _; subst k1; subst k3
  have X:∀ o,(b8 ++ d).length<=o->g x.block o=none:=fun o f=>F o (by rw[<- aI2,Yg,G]; omega)
  rcases k2 with ⟨rfl,t,J⟩|⟨A0,K,N,t,J,Y⟩
  simp_all
  .obtain ⟨_,Z⟩:=z b8 (some A0) K a rfl t;grind
theorem aIR (h:xq f e=some H):f.underlying e=some (.slice H):=by grind [xq]
def a_7 (z:Inv n M B out σ a.tmps w) {ty:TypeId} (F:kR f e=some h) (m:xq f e=some ML) (o:uk f H=true) (A:σ.ev G=some (.dn b8)) (J:σ.rd T=some (.str Q))
 (d:h.size=1) (p:h.bytes<=1024) (g:b8.length+Q.size<=aO) :
 ∃ v j q r,(Builtin.append_ #[e,H] ty #[a.eval G,a.eval T]).run f w = .ok v j/\Pre n out M B σ a.tmps w q r (σ.clr G) j (.dn (b8 ++ Q.data.toList)) v:=by
 obtain ⟨y,i⟩:=z.ev A;obtain ⟨v,j,q,r,K,C,c,D,E⟩:=aHS (ty:=ty) z F o A (X6.1 (X8.2 y)) (aXB i.t) J d p (.inl d.symm) (by rw[Yg]; exact g);rw[aIR m] at D; cases D;rw[d] at C E;exact ⟨v,j,q,r,K,C.dn (b'6 Q) E i.t⟩
def a_6 (A:Inv n M B out σ a.tmps w) {ty:TypeId} (J:kR f e=some h) (q:xq f e=some ML) (D:σ.ev G=some (.dn b8)) (K:σ.rd T=some (.sl g 1 [.int .u8 C]))
 (d:h.size=1) (r:h.bytes<=1024) (i:b8.length+1<=aO) (L:0<=C) (j:C<256) :
 ∃ v p u y,(Builtin.append_ #[e,e] ty #[a.eval G,a.eval T]).run f w = .ok v p/\Pre n out M B σ a.tmps w u y (σ.clr G) p (.dn (b8 ++ [UInt8.ofNat C.toNat])) v:=by
 obtain ⟨z,m⟩:=A.ev D;obtain ⟨v,p,u,y,N,E,b,F,H⟩:=aHR (ty:=ty) A J D (X6.1 (X8.2 z)) (aXB m.t) K (by omega) r (.inl d.symm) (.inl d.symm) (by rw[Yg]; exact i);rw[aIR q] at F; cases F;rw[d] at E H;exact ⟨v,p,u,y,N,E.dn (bUG L j).symm H m.t⟩
theorem a_8 (F:Inv n M B out σ a.tmps w) {P:Program} {t ty:TypeId} {I:TI} (hT:kR P t=some I) {s x:Operand} {k G:Nat} {cs l:ai} {o:Bool} (hs:σ.ev s=some (.iI true k I.size cs)) (hx:σ.rd x=some (.sl o G l))
 (Z:0<I.size) (b5:I.bytes<=1024) (Vf:G=I.size\/G=0) (d8:(gG l).all PV.lit=true) (a':k+l.length<=aO) :
 ∃ v w' M' B',(Builtin.append_ #[t,t] ty #[a.eval s,a.eval x]).run P w = .ok v w'/\Pre n out M B σ a.tmps w M' B' (σ.clr s) w' (.iI true (k+l.length) I.size (cs ++ gG l)) v:=by
 obtain ⟨e,i,z,d,hu,J⟩:=zx hT;have C:=J.size;have b6:=J.bytes;have b7:=(F.rd x _ hx).1;obtain ⟨A',K,e2,b8,d9,b9,d'⟩:=jo.1 b7;have d3:G=I.size\/l = []:=Vf.imp id fun h=>(b9 h).1
 have S:∀ p,p∈l->p.size=I.size:=fun p hp=>by grind
 have b':l ≠ []->∃ b off,A'=some ⟨b,off,none⟩/\lS M [] I.size l b off:=fun hc=>by simp_all
 obtain ⟨news,n1,n2,n3,n4⟩:=a8A (P:=P) S b8 b' F.mem;have e0:(gG l).length=news.length:=by rw[ZF S,n1]
 have d4:∀ (j:Nat) p,(gG l)[j]? = some p->p.lit=true/\∃ u,news[j]? = some u/\eU Nc [] p u/\u.oneCell'=true:=fun j p X=>by
  have hl:=n4 (laid M w.heap.size news) w.heap.size 0 (WC F news).mem fun j v hv=>by rw[zF (zG F),ah rfl,rP]; exact hv
  grind [aBE,zF,zG,aSU]
 obtain ⟨c0,c4⟩:=F.ev hs;obtain ⟨A,cap,e1,c5⟩:=II.1 c0;obtain ⟨⟨c6,_⟩,hn,L⟩:=c4.p _ _ _ _ _ _ rfl e1;obtain ⟨c1,c2,c3⟩:=F.Yo hs;rw[e1,e2];have b0:(cs ++ gG l).length=(k+l.length)*I.size:=by rw[aZ,c6,ZF S,qi]
 by_cases D:k+l.length<=cap
 .cases A with
  | none =>
   have b1:=hn rfl;have T:k=0:=by omega
   have h2:l = []:=qg (by omega);subst T; subst h2; subst b1;have h3:cs = []:=qg (by omega);subst h3;refine ⟨.slice none 0 0,w,M,B,aHO hu J.info (by rw[<- C]; exact n2 w fun b o v h=>(F.mem b o v h).1),⟨c1,eH.refl _ _,Fr.refl _ _ _,fun b _ => ?_,II.2 ⟨none,0,rfl,dG _⟩,aEO fun k' G c8 A m cap e ev => ?_,fun b => ?_,fun b _=>by simp[bY]⟩⟩;simp_all;grind
   .have:=c2 b; have:=F.cnt b; simp_all
  | some ad =>
   obtain ⟨r,U,Y,t2,t3,t4,t5,t6⟩:=L ad rfl;obtain ⟨g,off,b2⟩:=ad;simp only at Y t4 t5 t6;subst t5; subst t6;have N:∀ b,bY (.iI true k I.size cs) (a.eval s) b=if g=b then 1 else 0:=fun b=>by rw[e1]; rfl
   have e5:fp B σ a.tmps w g=1/\out g=0/\fp B (σ.clr s) a.tmps w g=0:=by have:=F.cnt g; have:=c2 g; rw[N,ah rfl] at this; omega
   have O:0+k*I.size+news.length<=r.size:=by rw[n1];have:(k+l.length)*I.size<=cap*I.size:=wO _ D;rw[qi] at this; omega
   have E:=aHP (P:=P) (ty:=ty) (g:=g) (off:=0) (sLen:=k) (sCap:=cap) (m:=l.length) (A':=A') (c:=K) hu J.info (by rw[<- C]; exact n2 w fun b o v h=>(F.mem b o v h).1) Y D n3 (by rw[<- C]; exact O);rw[<- C,rP] at E;rw[rP] at O;generalize NH:(r.toList.take (k*I.size) ++ news ++ r.toList.drop (k*I.size+news.length)).toArray=y at *;have d5:y.size=r.size:=by rw[<- NH]; simp; omega
   have e6:∀ j,j<news.length->y[k*I.size+j]? = news[j]? := fun j X=>by rw[<- NH,aFX];grind
   have d6:∀ o,o<k*I.size->y[o]? = r[o]? := fun o ho=>by rw[<- NH,aFX];grind
   have c9:(w.setRow g y).heap[g]? = some (.cells y U (0,0)):=setRow_heap w g r _ U (0,0) Y;have b3:∀ b,b≠g->(w.setRow g y).heap[b]? = w.heap[b]? := fun b H=>setRow_other w g b _ H
   obtain ⟨f1,f2⟩:=c1.ext (M':=M) (w':=w.setRow g y) (eH.refl _ _) (fun b o v h=>by
    have H:b≠g:=fun e=>by simp_all
    have hm:=F.mem b o v h;grind [World.cell?_of_block]) (fun b H=>by
    have e7:b≠g:=fun e=>by grind
    simp_all) (by simp_all)
   have V:∀ b,bY (.iI true (k+l.length) I.size (cs ++ gG l)) (.slice (some ⟨g,0,none⟩) (k+l.length) cap) b=if g=b then 1 else 0:=fun b=>by rfl
   have e8:g<w.heap.size:=(zf.1 Y).1;refine ⟨_,_,M,B,E,⟨f1,eH.refl _ _,⟨rfl,rfl,rfl,by simp_all,fun b H h0=>⟨b3 b fun e=>by grind,fun _=>rfl⟩⟩,fun b H => ?_,II.2 ⟨_,cap,rfl,D⟩,aEO fun k' e9 c8 A2 m d7 e3 e4 => ?_,fun b => ?_,fun b H => ?_⟩⟩;simp_all;grind
   .rw[f2,V]; have:=c2 b; rw[N] at this; have:=F.cnt b; omega
   grind
 ·
  obtain ⟨olds,o1,o2,o3⟩:∃ olds:List Value,olds.length=k*I.size/\(Builtin.firstCells I.size k (.slice A k cap)).run P w.drew = .ok olds.toArray w.drew/\(∀ (j:Nat) p,cs[j]? = some p->p.lit=true/\∃ u,olds[j]? = some u/\eU Nc [] p u/\u.oneCell'=true)/\∀ u,u∈olds->u.oneCell'=true:=by
   cases A with
   | none =>
    have b1:=hn rfl;have T:k=0:=by omega
    subst T;have h3:cs = []:=qg (by omega);subst h3;exact ⟨[],by simp,by rfl,fun j p h=>by simp at h,by simp⟩
   | some ad =>
    obtain ⟨r,U,Y,t2,t3,t4,t5,t6⟩:=L ad rfl;obtain ⟨g,off,b2⟩:=ad;simp only at Y t4 t5 t6;subst t5; subst t6;have e':k*I.size<=r.size:=lD (wO _ c5) t2;have Q:∀ (j:Nat) v,(r.toList.take (k*I.size))[j]? = some v->j<k*I.size/\r[j]? = some v:=fun j v hv=>by rw[nN] at hv;simp_all
    refine ⟨r.toList.take (k*I.size),by simp; omega,Xu (P:=P) w.drew I.size k ⟨g,0,none⟩ k cap _ (by simp; omega) (fun j v hv => ?_),fun j p X => ?_,fun u hu => ?_⟩
    .rw[jL,rP];have:=(Q j v hv).2;show w.cell? ⟨g,j,none⟩=some v;grind [World.cell?]
    grind
    .obtain ⟨j,X⟩:=zg.1 hu;obtain ⟨T,h2⟩:=Q j u X;obtain ⟨q1,u',q2,q3,q4⟩:=t3 j _ (jq (by omega:j<cs.length));rw[h2] at q2; simp_all
  obtain ⟨o3,o4⟩:=o3;have E:=aHN (P:=P) (ty:=ty) (base:=A) (A':=A') (sLen:=k) (sCap:=cap) (m:=l.length) (c:=K) (olds:=olds) (news:=news) hu J.info J.zero (by rw[<- C]; exact o2) (by rw[<- C]; exact n2 w.drew fun b o v h=>(F.mem b o v h).1) (by omega) a' (by rw[<- b6]; exact b5);obtain ⟨d1,d2⟩:=c1.drew;have c':=grownCap_ge w (k+l.length) cap e;have b4:∀ v,v∈(olds.toArray ++ news.toArray ++ Builtin.zeroCells z.cells (grownCap w (k+l.length) cap e-(k+l.length)))->v.oneCell'=true:=fun v hv=>by
   rcases Array.mem_append.1 hv with hv | hv
   grind
   .unfold Builtin.zeroCells at hv;obtain ⟨j,X,rfl⟩:=Array.mem_map.1 hv;by_cases h0:z.cells.size=0;simp_all
    .have:j % z.cells.size<z.cells.size:=Nat.mod_lt _ (by omega);rw[getElem!_pos z.cells _ this];exact J.one _ (Array.getElem_mem _)
  have q:=Pre.aU2 (a:=a) d1 (ty:=e) (sz:=I.size) (k:=k+l.length) (cs:=cs ++ gG l) (cap:=grownCap w (k+l.length) cap e) Z b4 b0 c' (by
   simp only[Array.size_append,List.size_toArray,size_zeroCells,J.L9,<- C,o1,n1];rw[<- qi,<- qi];simp_all) (fun j p X=>by
   grind)
  refine ⟨_,_,_,_,E,⟨q.inv,q.le,?_,fun b H => ?_,q.rep,q.tl,q.cnt,q.new⟩⟩
  .refine (Fr.trans (f:=fp B σ a.tmps w) (g:=fp B (σ.clr s) a.tmps w.drew) (M':=M) (w':=w.drew) ⟨rfl,rfl,rfl,dG _,fun _ _ _=>⟨rfl,fun _=>rfl⟩⟩ q.fr fun b H h0 => ?_);have:=c2 b;rw[ZH];omega
  .have T:=q.own b H;have h2:=c2 b;rw[ZH] at T;exact lD T (by omega)
end
section
variable {n:Nat} {out:Nat->Nat} {M:Mem} {B:aS} {σ:ASt} {a:Act} {w:World}
theorem a8D {a:Type} {l:List a}:∀ {n j:Nat},j<n*l.length->((List.replicate n l).flatten)[j]? = l[j % l.length]?
 | 0,j,h=>by simp at h
 | n+1,j,h=>by
  rw[List.replicate_succ,List.flatten_cons];rcases zk j l.length with h' | h'
  .rw[vJ h',Nat.mod_eq_of_lt h']
  .rw[Il h',Nat.mod_eq_sub_mod h'];exact a8D (by rw[LQ] at h; omega)
variable {b2:Type}
theorem aJ' {l:List b2} {n:Nat}:((List.replicate n l).flatten).length=n*l.length:=by simp
theorem a7K (c:Array Value) (n k:Nat) (hk:k=n*c.size):(madeCells c k).toList=(List.replicate n c.toList).flatten:=by subst hk;apply Ol;grind [a8D,madeCells,aJ']
variable {J:TypeInfo} {r:TypeDesc}
def aFQ (a:sD f e h J u r) (m:Nat):xQ m h=((List.replicate m u.cells.toList).flatten).map nz:=by rw[c1A,a.Vp,List.map_flatten,List.map_replicate]
def aFP (a:sD f e h J u r) (m:Nat):(xQ m h).length=m*h.size:=by rw[aFQ a,bM,aJ',a.size,<- a.L9]; simp
def ZG {l:List b2} {n:Nat} {x:b2} (h:x∈(List.replicate n l).flatten):x∈l:=by obtain ⟨c,b,a⟩:=List.mem_flatten.1 h;rw[(List.mem_replicate.1 b).2] at a; exact a
variable {H:TypeId}
def bT8 (j:f.underlying e=some (.slice H)) (a:sD f H h J u r) (k c:IntKind) (g:0<=C) (l:C<=1073741824) (o:h.bytes<=1024) :
 (Instr.makeSlice e (.int k C) (.int c C)).run f w = .ok (.slice (some ⟨w.heap.size,0,none⟩) C.toNat C.toNat) (w.alloc (.cells (madeCells u.cells (C.toNat*J.size)) H)):=by
 have b:(J.bytes:Int)*C<=281474976710656:=by
  have n:(J.bytes:Int)<=1024:=by have:=a.bytes; omega
  calc (J.bytes:Int)*C<=1024*1073741824:=Int.mul_le_mul n l g (by decide)
   _<=281474976710656:=by decide
 exact run_make w e H J u j a.info a.zero k c C C g (Int.le_refl _) b (by omega)
theorem bT7 (l:Inv n M B out σ a.tmps w) {P:Program} {e:TypeId} {I:TI} {i:TypeInfo} {z:Value} {d:TypeDesc} (b:sD P e I i z d) (m:Nat) :
 Good n out M B σ a.tmps w M (B ++ [(w.heap.size,(madeCells z.cells (m*i.size)).size,e+1)]) { σ with h:=σ.h ++ [some (xQ m I)] } a.tmps (w.alloc (.cells (madeCells z.cells (m*i.size)) e)):=by
 have f:=a7K z.cells m (m*i.size) (by rw[b.L9]);refine l.newObj _ e _ (by rw[aFP b,size_madeCells,b.size]; omega) (fun j p c => ?_);rw[aFQ b,<- f,lN] at c;cases hv:(madeCells z.cells (m*i.size)).toList[j]? with
 | none=>simp_all
 | some v =>
  simp[hv] at c; subst c;have o:(madeCells z.cells (m*i.size))[j]? = some v:=by grind
  have g:v.oneCell'=true:=b.one v (by have:=qh hv;rw[f] at this;simpa using ZG this);grind [KF,aEQ,aC5]
def b1L {l:List b2} {n j k:Nat} (a:j<n) (hk:k<l.length):((List.replicate n l).flatten)[j*l.length+k]? = l[k]? := by rw[a8D (by have:(j+1)*l.length<=n*l.length:=wO _ a;rw[LQ] at this; omega),Nat.add_comm,Nat.add_mul_mod_self_right,Nat.mod_eq_of_lt hk]
theorem bT9 (F:Inv n M B out σ a.tmps w) (c:sD f e h J u r) (t:0<h.size) (N:(wL h).size=h.size) (O:(wL h).okE=true) (m:Nat) :
 ∃ Q,Pre n out M B σ a.tmps w Q B σ (w.alloc (.cells (madeCells u.cells (m*J.size)) e)) (.sl true h.size (List.replicate m (wL h))) (.slice (some ⟨w.heap.size,0,none⟩) m m):=by
 have G:=a7K u.cells m (m*J.size) (by rw[c.L9]);have y:u.cells.toList.length=h.size:=by rw[c.size,<- c.L9]; simp
 have A:∀ v,v∈madeCells u.cells (m*J.size)->v.oneCell'=true:=fun v hv=>c.one v (by
  have:v∈(madeCells u.cells (m*J.size)).toList:=by grind
  rw[G] at this;simpa using ZG this)
 have C:(madeCells u.cells (m*J.size)).size=m*h.size:=by rw[size_madeCells,c.size]
 have H:=Pre.newRow (a:=a) F (vs:=madeCells u.cells (m*J.size)) (ty:=e) (sz:=h.size) (k:=m*h.size) (es:=List.replicate m (wL h)) (cap:=m) t A (by simp) (by simp) (by rw[C]; omega) (fun x S=>by rw[(List.mem_replicate.1 S).2]; exact N) (by
  refine Ac fun j p K => ?_
  obtain ⟨D,rfl⟩:j<m/\p=wL h:=by have X:=qh K;have Y:=(iY.1 K).1;simp_all
  have o:∀ k v,u.cells.toList[k]? = some v->laid M w.heap.size ((madeCells u.cells (m*J.size)).toList.take (m*h.size)) w.heap.size (0+j*h.size+k)=some v:=fun k v hv=>by
   have hk:=(iY.1 hv).1;have T:j*h.size+k<m*h.size:=by have:(j+1)*h.size<=m*h.size:=wO _ D;rw[LQ] at this; omega
   rw[zF (zG F),ah rfl,nN,ah (by omega),G,rP,<- y,b1L D hk]; exact hv
  cases E:h.agg with
  | true =>
   have l:wL h = .agg (h.zero.map PV.un):=by simp[wL,E]
   rw[l];refine zI.2 (Gm fun k q hq => ?_);rw[c.Vp,lN,lN] at hq;cases hv:u.cells.toList[k]? with
   | none=>simp_all
   | some v =>simp[hv] at hq; subst hq;exact ⟨v,o k v hv,qB.2 (KF (c.one v (by grind)))⟩
  | false =>
   have l:wL h=match h.zero with | [p]=>p.un | _ => .nilp:=by simp[wL,E]
   rw[c.Vp] at l;cases g:u.cells.toList with
   | nil=>rw[g] at y; grind
   | cons v b =>
    cases b with
    | nil =>
     rw[g] at l;simp only[wM,List.map_nil] at l;have hv:u.cells.toList[0]? = some v:=by rw[g]; rfl
     have U:v.oneCell'=true:=c.one v (by grind);have L:eU (laid M w.heap.size ((madeCells u.cells (m*J.size)).toList.take (m*h.size))) [] (wL h) v:=by rw[l]; exact qB.2 (KF U)
     have V:(wL h).one=true:=by rw[l,aYM];unfold nz; split<;>first | rfl | (split<;>rfl)
     grind [DZ]
    | cons Z r2 =>rw[g] at l;grind [PV.size])
 grind
theorem b1M (E:Inv n M B out σ a.tmps w) {P:Program} {t ty e:TypeId} {I:TI} {i:TypeInfo} {z:Value} {d:TypeDesc} (b:P.underlying t=some (.slice e)) (f:sD P e I i z d) {j off m:Nat} {l:ai} {v:Value} (hv:eU M B (.slh j off m I.size) v) (q:σ.h[j]? = some (some l)) (D:off+m*I.size<=l.length) :
 ∃ o,(Builtin.clear_ #[t] ty #[v]).run P w = .ok (.tuple #[]) o/\Good n out M B σ a.tmps w M B { σ with h:=σ.h.set j (some (l.take off ++ (xQ m I).map PV.un ++ l.drop (off+m*I.size))) } a.tmps o:=by
 obtain ⟨c,F,⟨G,r⟩,rfl,_,_⟩:=uT.1 hv;have x:=a7K z.cells m (m*z.cells.size) rfl;have g:(Builtin.zeroCells z.cells m).toList=(List.replicate m z.cells.toList).flatten:=by rw[<- x]; rfl
 have H:au M B ((xQ m I).map PV.un) ((List.replicate m z.cells.toList).flatten):=by rw[aFQ f];refine KH (KG (by simp) fun k p u y b => ?_);rw[lN,b] at y;simp at y; subst y;exact KF (f.one u (by simpa using ZG (qh b)))
 obtain ⟨o,A,C⟩:=a5C (P:=P) G r (off:=off) ((xQ m I).map PV.un) _ 0 l σ w E q H (fun d K=>by grind [rH]) (fun u b=>f.one u (by simpa using ZG b)) (by rw[bM,aFP f]; omega);simp only[Oq,bM,aFP f] at C;cases m with
 | zero =>
  have J:((List.replicate 0 z.cells.toList).flatten) = []:=rfl;rw[J] at A;have:w=o:=by simpa[storeCells] using A
  subst this;exact ⟨w,by simp[Builtin.clear_,gJ b],C⟩
 | succ m =>refine ⟨o,?_,C⟩;simp[Builtin.clear_,gJ b,zeroValue,typeInfo,f.info,f.zero,g,A]
theorem b2J (I:Inv n M B out σ O w) {P:Program} {l m:Nat} (h:Gp σ l x=some (m,L)) (V:eU M B x u) (X:0<l) :
 ∃ r:List Value,r.length=m*l/\au M B L r/\(∀ q,q∈L->q.own=false)/\(∀ a,a∈r->a.oneCell'=true)/\(Builtin.lenOf u).run P w = .ok m w/\∀ k,k<=m->(Builtin.firstCells l k u).run P w = .ok (r.take (k*l)).toArray w:=by
 unfold Gp at h;split at h
 .rename_i o g y;split at h
  .rename_i J;cases h;simp only[EN] at J;have J:g=l\/g=0:=J.imp (fun e=>pI e) fun e=>pI e
   obtain ⟨A,C,rfl,K,b1,hz,hA⟩:=jo.1 V;have D:∀ x,x∈y->x.size=l:=fun x hp=>by grind
   cases A with
   | none =>
    have:y = []:=by simp_all
    subst this;exact ⟨[],by simp,fA.2 rfl,by simp[gG],by simp,by rfl,fun k hk=>by simp[Builtin.firstCells]⟩
   | some d =>
    by_cases E:y = []
    .subst E;exact ⟨[],by simp,fA.2 rfl,by simp[gG],by simp,by rfl,fun k hk=>by grind [run_firstCells_some]⟩
    obtain ⟨b,f,hx,Y⟩:=hA E;cases hx;have Y:lS M [] l y b f:=by simp_all
    obtain ⟨r,Z,h2⟩:=Ym (Gm (ps:=gG y) (o:=f) fun j x N=>aBE Y D N);have F:r.length=y.length*l:=by rw[<- ou Z,ZF D]
    refine ⟨r,F,Z.mono (eH.zero _ _),fun q hq=>qW hq,fun a z => ?_,by rfl,fun k hk => ?_⟩
    .obtain ⟨j,N⟩:=zg.1 z;exact (I.mem _ _ _ (h2 j a N)).2
    .have b2:k*l<=y.length*l:=wO _ hk;refine Xu (P:=P) w l k ⟨b,f,none⟩ y.length C _ (by rw[vK]; omega) fun j u hv => ?_
     rw[nN] at hv;split at hv
     .rw[jL]; exact (I.mem _ _ _ (h2 j u hv)).1
     .cases hv
  .cases h
 .rename_i j f m' g;split at h
  .rename_i cs Q;split at h
   .rename_i S;obtain ⟨rfl,a'⟩:=S;cases h;obtain ⟨c,C,⟨S,T⟩,rfl,K,b0⟩:=uT.1 V;obtain ⟨r,ty,r1,o2,o3,o4,o5⟩:=I.heap.at Q S;obtain ⟨ty,rfl,o1⟩:=Ff r1 (by rw[o2.2]; exact T);have G:∀ (i:Nat) a,((r.toList.drop f).take (m*g))[i]? = some a->i<m*g/\r[f+i]? = some a:=fun i a z=>by rw[nN] at z;simp_all
    have H:((r.toList.drop f).take (m*g)).length=m*g:=by simp; omega
    refine ⟨(r.toList.drop f).take (m*g),H,KH (KG (by rw[H]; simp; omega) fun i x a hp z => ?_),fun q hq=>by grind [rH],fun a z => ?_,by rfl,fun k hk => ?_⟩;grind
    .obtain ⟨i,U⟩:=zg.1 z;obtain ⟨b3,U⟩:=G i a U;obtain ⟨u',a1,_,_,a4⟩:=o4 (f+i) _ (jq (by omega:f+i<cs.length));rw[U] at a1; simp_all
    grind [Nat.mul_le_mul_right,run_firstCells_some,jL,World.cell?]
   .cases h
  .cases h
 .cases h
def b2K (E:Inv n M B out σ a.tmps w) {P:Program} {t u ty e:TypeId} {I:TI} {i:TypeInfo} {z:Value} {d:TypeDesc} (y:P.underlying t=some (.slice e)) (K:sD P e I i z d) {j off m f:Nat} {g b:ai} {v x:Value} {F:PV} (hv:eU M B (.slh j off m I.size) v) (A:σ.h[j]? = some (some g)) (G:off+m*I.size<=g.length)
 (L:eU M B F x) (l:Gp σ I.size F=some (f,b)) (o:0<I.size) :
 ∃ r,(Builtin.copy_ #[t,u] ty #[v,x]).run P w = .ok (.int .i64 ((Nat.min f m:Nat):Int)) r/\Good n out M B σ a.tmps w M B { σ with h:=σ.h.set j (some (g.take off ++ b.take (Nat.min f m*I.size) ++ g.drop (off+Nat.min f m*I.size))) } a.tmps r:=by
 obtain ⟨c,N,⟨O,C⟩,rfl,_,_⟩:=uT.1 hv;obtain ⟨Q,S,H,T,U,V,h6⟩:=b2J (P:=P) E l L o;have p:Nat.min f m<=f:=Nat.min_le_left _ _;have D:Nat.min f m<=m:=Nat.min_le_right _ _;have X:Nat.min f m*I.size<=f*I.size:=wO _ p;have Y:Nat.min f m*I.size<=m*I.size:=wO _ D;have Z:b.length=f*I.size:=by rw[ou H,S]
 have q:(b.take (Nat.min f m*I.size)).length=Nat.min f m*I.size:=by rw[vK]; omega
 obtain ⟨r,g1,J⟩:=a5C (P:=P) O C (off:=off) (b.take (Nat.min f m*I.size)) (Q.take (Nat.min f m*I.size)) 0 g σ w E A (aW0 H _) (fun d hd=>T d (TD hd)) (fun u y=>U u (TD y)) (by rw[q]; omega);simp only[Oq,q] at J;refine ⟨r,?_,J⟩;have h7:=h6 _ p;simp[Builtin.copy_,gJ y,V,K.run_sizeOf w,h7,g1,goInt]
end
section
variable {n:Nat} {out:Nat->Nat} {M:Mem} {B:aS} {σ:ASt} {a:Act} {w:World} {E:AE} {U:Option IntKind}
theorem aTF (h:Di f e=some (U,x)):∃ k a b i d,f.underlying e=some (.map k a)/\f.underlying k=some d/\(match U with | none=>d = .string | some c=>d = .int c)/\f.info? a=some i/\i.zero=some b/\x=su b/\Xm b=true:=by
 unfold Di at h;split at h
 .rename_i k a j;split at h
  .rename_i l b hk m;split at h
   .rename_i g;cases h;cases n:f.info? a with
    | none=>simp_all
    | some i =>grind [aRF]
   .cases h
  .cases h
 .cases h
theorem bXW {z:Value} (h:Xm z=true):eU M B (su z) z/\(su z).own=false:=by
 have b:∀ v:Value,v.oneCell'=true->eU M B (nz v).un v/\((nz v).un).own=false:=fun v hv=>⟨qB.2 (KF hv),rH _⟩
 cases z with
 | agg a =>
  have c:∀ v,v∈(Value.agg a).cells->v.oneCell'=true:=fun v hv=>by grind [Xm,Value.cells]
  exact ⟨qU.2 ⟨a,rfl,aZ5 (z := .agg a) c⟩,rfl⟩
 | tuple a=>simp[Xm,Value.oneCell'] at h
 | _=>simp only[su]; exact b _ rfl
variable {r:TypeDesc}
def aRG (a:match U with | none=>r = .string | some c=>r = .int c) (hq:zC U x=true) (b:eU M B x u):MapKept.IsKey r u:=by
 unfold zC at hq;split at hq
 .have hq:=TM hq;simp only at a;subst a; subst hq;rw[fH.1 b]; rfl
 .simp only at a;subst a;rw[jS.1 b]; simp[MapKept.IsKey]
 .cases hq
variable {D:PV} {A:Value}
theorem Yu (b:match U with | none=>r = .string | some f=>r = .int f) (h:qY U x D=some g) (c:eU M B x u) (hv:eU M B D A):Instr.sameNow r u A=some g/\(g=true->u=A):=by
 unfold qY at h;split at h
 .split at h
  .rename_i hk;cases h;simp only[bH,pJ] at hk;obtain ⟨rfl,rfl⟩:=hk;simp only at b;subst b;rw[fH.1 c,fH.1 hv];grind [Instr.sameNow]
  .cases h
 .rename_i a y;cases h;simp only at b;subst b;rw[jS.1 c,jS.1 hv];have e:(a==y)=(a.data.toList==y.data.toList):=by
   rw[I4,a5X,qG];constructor;simp_all
   .intro h; cases a; simp_all
  grind [Instr.sameNow,MapKept.bytes_beq]
 .cases h
def ZC (e:MapEntry) (a:List MapEntry):vW (e::a)=e.key::e.val::vW a:=rfl
theorem aPC {s:Option IntKind} {d:TypeDesc} (l:match s with | none=>d = .string | some x=>d = .int x) {q:PV} {u:Value} (m:eU M B q u):∀ {L:ai} {g:List MapEntry} {r:Option PV} (i:Nat),au M B L (vW g)->yB s L q=some r ->
 (r=none/\Instr.findNow d u g i=some none)\/∃ (p:PV) (j:Nat) (e:MapEntry),r=some p/\Instr.findNow d u g i=some (some (i+j,e.val))/\eU M B p e.val
 | L,[],r,i,h,c=>by
  have:L = []:=by cases L with | nil=>rfl | cons p L=>obtain ⟨_,_,e,_⟩:=dO.1 h; cases e
  subst this;simp[yB] at c; subst c;exact .inl ⟨rfl,rfl⟩
 | L,e::g,r,i,h,c=>by
  rw[ZC] at h;match L,h with
  | k::v::L,h =>
   obtain ⟨a,D,f,o,h⟩:=dO.1 h;injection f with f n; subst f; subst n
   obtain ⟨b,E,f,y,h⟩:=dO.1 h;injection f with f n; subst f; subst n
   rw[yB] at c;split at c
   .rename_i he;cases c;obtain ⟨t,_⟩:=Yu l he m o;exact .inr ⟨v,0,e,rfl,by simp[Instr.findNow,t],y⟩
   .rename_i he;obtain ⟨t,_⟩:=Yu l he m o;rcases aPC l m (i+1) h c with ⟨w,z⟩|⟨p,j,A,w,z,C⟩
    grind [Instr.findNow]
    .exact .inr ⟨p,j+1,A,w,by grind [Instr.findNow],C⟩
   .cases c
  | [],h=>rw[fA] at h; cases h
  | [p],h=>obtain ⟨_,_,f,_,h⟩:=dO.1 h; rw[fA] at h; simp_all
def fv (d:TypeDesc) (u:Value):List MapEntry->Option (Option Value)
 | []=>some none
 | e::a=>match Instr.sameNow d u e.key with
  | some true=>some (some e.val)
  | some false=>fv d u a
  | none=>none
def ZB {d:TypeDesc} {u:Value}:∀ (a:List MapEntry) (i:Nat),(Instr.findNow d u a i).map (fun o=>o.map (·.2))=fv d u a
 | [],i=>rfl
 | e::a,i=>by
  simp only[Instr.findNow,fv];cases Instr.sameNow d u e.key with
  | none=>rfl
  | some b=>cases b with
   | true=>rfl
   | false=>exact ZB a (i+1)
def Uh {d:TypeDesc} {u:Value} (r:List MapEntry):∀ (l:List MapEntry),fv d u (l ++ r)=match fv d u l with | some none=>fv d u r | x=>x
 | []=>rfl
 | e::l=>by
  rw[qF];simp only[fv];cases Instr.sameNow d u e.key with
  | none=>rfl
  | some b=>cases b with
   | true=>rfl
   | false=>exact Uh r l
theorem aE8 {k:ByteArray}:Instr.sameNow .string (.string Q) (.string k)=some (Q.data.toList==k.data.toList):=by
 simp only[Instr.sameNow,H_];rw[I4,a5X,qG];constructor;simp_all
 .intro h; cases Q; simp_all
def Vj (e x:MapEntry) (l:List MapEntry):ui e (x::l)=if Vs e.key x.key then e::x::l else x::ui e l:=rfl
def DU (d:TypeDesc) (u:Value):Prop:=(d = .string/\uJ u=true)\/((∃ a,d = .int a)/\uJ u=false)
def aRI (a:match U with | none=>r = .string | some c=>r = .int c) (hq:zC U x=true) (b:eU M B x u):DU r u:=by
 unfold zC at hq;split at hq
 .rw[fH.1 b]; exact .inr ⟨⟨_,a⟩,rfl⟩
 .rw[jS.1 b]; exact .inl ⟨a,rfl⟩
 .cases hq
theorem Hf (h:uJ u=true):∃ a,u = .string a:=by cases u<;>first | exact ⟨_,rfl⟩ | (simp[uJ] at h)
theorem aE7 {b:IntKind} (c:r = .int b) (hk:uJ A=true):Instr.sameNow r u A=none:=by subst c; obtain ⟨a,rfl⟩:=Hf hk; cases u<;>rfl
theorem aK5 {d:TypeDesc} {u:Value} (r:DU d u) {e:MapEntry} (he:uJ e.key=true):∀ {l:List MapEntry},(l.all fun x=>uJ x.key)=true->(l.any fun x=>IQ e.key x.key)=false->fv d u (ui e l)=fv d u (l ++ [e])
 | [],_,_=>rfl
 | x::l,g,h=>by
  simp only[CO,bH] at g;simp only[Xo,aFT] at h;unfold ui;rcases r with ⟨rfl,j⟩|⟨⟨m,rfl⟩,j⟩
  .obtain ⟨a,rfl⟩:=Hf j;obtain ⟨b,n⟩:=Hf he;split
   ·
    have i:∀ {l:List MapEntry},(l.all fun x=>uJ x.key)=true->(l.any fun x=>IQ e.key x.key)=false->fv .string (.string a) (e::l)=fv .string (.string a) (l ++ [e]):=fun {l} k1 k2=>by
     rw[Uh];simp only[fv,n,aE8];by_cases f:a.data.toList=b.data.toList
     .have t:fv .string (.string a) l=some none:=by
       clear g h;induction l with
       | nil=>rfl
       | cons y l v =>simp only[CO,bH] at k1;simp only[Xo,aFT] at k2;obtain ⟨c,p⟩:=Hf k1.1;have k3:=k2.1;rw[n,p] at k3;simp only[IQ,zn,ne_eq] at k3;simp only[fv,p,aE8];rw[show (a.data.toList==c.data.toList)=false by rw[zn,f]; exact k3];exact v k1.2 k2.2
      rw[t,show (a.data.toList==b.data.toList)=true by simp[f]]
     .rw[show (a.data.toList==b.data.toList)=false from zn.2 f];cases fv .string (.string a) l with
      | none=>rfl
      | some o=>cases o<;>rfl
    exact i (l:=x::l) (by simp only[CO,bH]; exact g) (by simp only[Xo,aFT]; exact h)
   .rw[qF];simp only[fv];rw[aK5 (.inl ⟨rfl,rfl⟩) he g.2 h.2]
  .have q:Instr.sameNow (.int m) u x.key=none:=aE7 rfl g.1;have w:Instr.sameNow (.int m) u e.key=none:=aE7 rfl he;split
   .rw[qF]; simp only[fv,q,w]
   .rw[qF]; simp only[fv,q]
theorem a'V (a:DU r u) (l:List MapEntry) (e:MapEntry):fv r u (JA l e)=fv r u (l ++ [e]):=by grind [JA,aK5]
theorem lg (a:List MapEntry) (e:MapEntry):rV (a ++ [e])=JA (rV a) e:=by grind [rV]
theorem aXI {P:List MapEntry->Prop} (a:P []) (b:∀ l e,P l->P (l ++ [e])) (l:List MapEntry):P l:=by
 have:∀ l:List MapEntry,P l.reverse:=fun l=>by
  induction l with
  | nil=>exact a
  | cons e l c=>rw[List.reverse_cons]; simp_all
 have h:=this l.reverse;rwa [List.reverse_reverse] at h
theorem Yi (b:DU r u) (a:List MapEntry):fv r u (rV a)=fv r u a:=by refine aXI (P:=fun a=>fv r u (rV a)=fv r u a) rfl (fun l e c => ?_) a;rw[lg,a'V b,Uh,Uh,c]
variable {c6:List MapEntry} {b5:Option PV}
theorem bO5 (l:match U with | none=>r = .string | some m=>r = .int m) (c:DU r u) (n:eU M B x u) (i:Nat) (h:au M B L (vW (rV c6))) (t:yB U L x=some b5) :
 (b5=none/\Instr.findNow r u c6 i=some none)\/∃ (p:PV) (j:Nat) (v:Value),b5=some p/\Instr.findNow r u c6 i=some (some (j,v))/\eU M B p v:=by
 have e:=Yi c c6;rw[<- ZB c6 i,<- ZB (rV c6) 0] at e;rcases aPC l n 0 h t with ⟨g,f⟩|⟨p,j,w,g,f,y⟩
 .rw[f] at e;refine .inl ⟨g,?_⟩;cases b:Instr.findNow r u c6 i with
  | none=>rw[b] at e; cases e
  | some o=>cases o with
   | none=>rfl
   | some a=>rw[b] at e; cases e
 .rw[f] at e;cases b:Instr.findNow r u c6 i with
  | none=>rw[b] at e; cases e
  | some o=>cases o with
   | none=>rw[b] at e; cases e
   | some a =>rw[b] at e;grind
def mJ (d:TypeDesc) (u y:Value):List MapEntry->List MapEntry
 | [] => []
 | e::a=>match Instr.sameNow d u e.key with
  | some true => { e with key:=u,val:=y }::a
  | _=>e::mJ d u y a
theorem aTS {d:TypeDesc} {u y:Value}:∀ (a:List MapEntry) (i j:Nat) (v:Value),Instr.findNow d u a i=some (some (i+j,v))->a.modify j (fun e => { e with key:=u,val:=y })=mJ d u y a/\∃ e,a[j]? = some e/\Instr.sameNow d u e.key=some true
 | [],i,j,v,h=>by cases h
 | e::a,i,j,v,h=>by
  simp only[Instr.findNow] at h;cases f:Instr.sameNow d u e.key with
  | none=>rw[f] at h; cases h
  | some b =>
   rw[f] at h;cases b with
   | true =>grind [mJ]
   | false =>
    have g:∀ (a:List MapEntry) (i k:Nat) (v:Value),Instr.findNow d u a i=some (some (k,v))->i<=k:=by
     intro a;induction a with
     | nil=>intro i k v h; cases h
     | cons x a o =>grind [Instr.findNow]
    have:=g a (i+1) (i+j) v h;obtain ⟨c,rfl⟩:∃ c,j=c+1:=⟨j-1,by omega⟩;obtain ⟨l,m,p,n⟩:=aTS a (i+1) c v (by rw[show i+1+c=i+(c+1) by omega]; exact h);refine ⟨?_,m,by grind,n⟩;simp only[mJ,f];rw[<- l]; rfl
theorem aBI (d:TypeDesc) (u y:Value) (f:Value->Bool) (a:∀ k,Instr.sameNow d u k=some true->f u=f k):∀ (l:List MapEntry),((mJ d u y l).all fun x=>f x.key)=(l.all fun x=>f x.key)/\((mJ d u y l).any fun x=>f x.key)=(l.any fun x=>f x.key)
 | []=>⟨rfl,rfl⟩
 | e::l=>by obtain ⟨b,c⟩:=aBI d u y f a l;grind [mJ]
theorem l9 (c:DU r u) (h:Instr.sameNow r u A=some true):u=A:=by
 rcases c with ⟨rfl,b⟩|⟨⟨e,rfl⟩,b⟩
 .obtain ⟨a,rfl⟩:=Hf b;cases A<;>simp only[Instr.sameNow,H_,reduceCtorEq] at h
  grind [MapKept.bytes_beq]
 .cases u<;>cases A<;>simp only[Instr.sameNow,reduceCtorEq] at h
  simp_all
theorem aBJ {d:TypeDesc} {u y:Value} (r:List MapEntry):∀ {l:List MapEntry} {v:Value},fv d u l=some (some v)->mJ d u y (l ++ r)=mJ d u y l ++ r
 | [],v,h=>by cases h
 | e::l,v,h=>by
  rw[qF];simp only[fv] at h;simp only[mJ];cases a:Instr.sameNow d u e.key with
  | none=>rw[a] at h; cases h
  | some b=>rw[a] at h; cases b with
   | true=>rfl
   | false=>simp only[aBJ r (l:=l) h,qF]
theorem aTM {d:TypeDesc} {u y:Value} {r:List MapEntry}:∀ {l:List MapEntry},fv d u l=some none->mJ d u y (l ++ r)=l ++ mJ d u y r
 | [],h=>rfl
 | e::l,h=>by
  rw[qF];simp only[fv] at h;simp only[mJ];cases a:Instr.sameNow d u e.key with
  | none=>rw[a] at h; cases h
  | some b=>rw[a] at h; cases b with
   | true=>cases h
   | false=>simp only[aTM (l:=l) h,qF]
def aTK {d:TypeDesc} {u y:Value} (b:DU d u) {e:MapEntry} (c:Instr.sameNow d u e.key=some false):∀ {l:List MapEntry},mJ d u y (ui e l)=ui e (mJ d u y l)
 | []=>by simp only[ui,mJ,c]
 | x::l=>by
  rw[Vj];split
  .rename_i a;simp only[mJ,c];split
   .rename_i f;rw[l9 b f,Vj,ah a]
   .rw[Vj,ah a]
  .rename_i a;simp only[mJ];split
   .rename_i f;rw[l9 b f,Vj,aV a]
   .rw[aTK b c,Vj,aV a]
theorem aTL {d:TypeDesc} {u y:Value} (f:DU d u) {e:MapEntry} (a:Instr.sameNow d u e.key=some true):∀ {l:List MapEntry},fv d u l=some none->mJ d u y (ui e l)=ui { e with key:=u,val:=y } l
 | [],_=>by simp only[ui,mJ,a]
 | x::l,h=>by
  simp only[fv] at h;unfold ui;split
  .rename_i c;rw[l9 f a,ah c];simp only[mJ,show Instr.sameNow d e.key e.key=some true by rw[l9 f a] at a; exact a]
  .rename_i c;cases g:Instr.sameNow d u x.key with
   | none=>rw[g] at h; cases h
   | some b=>rw[g] at h; cases b with
    | true=>cases h
    | false =>simp only[mJ,g];rw[aTL f a h,l9 f a,aV c]
theorem b1D (g:DU r u) (f:List MapEntry):∀ v,fv r u f=some (some v)->rV (mJ r u A f)=mJ r u A (rV f):=by
 refine aXI (P:=fun f=>∀ v,fv r u f=some (some v)->rV (mJ r u A f)=mJ r u A (rV f)) (fun v h=>by cases h) (fun l e m v h => ?_) f;have hk:∀ k,Instr.sameNow r u k=some true->uJ u=uJ k:=fun k hk=>by rw[l9 g hk]
 have hq:∀ (q:Value) k,Instr.sameNow r u k=some true->IQ q u=IQ q k:=fun q k hk=>by rw[l9 g hk]
 rw[Uh] at h;cases i:fv r u l with
 | none=>rw[i] at h; cases h
 | some o =>
  cases o with
  | some x =>
   rw[aBJ [e] i,lg,lg,m x i];have C:fv r u (rV l)=some (some x):=by rw[Yi g,i]
   unfold JA;rw[(aBI r u A uJ hk (rV l)).1,(aBI r u A (IQ e.key) (hq e.key) (rV l)).2];split
   .rename_i c;simp only[bH,Ij] at c;refine (aTK g ?_).symm;cases j:Instr.sameNow r u e.key with
    | none =>
     exfalso;rcases g with ⟨rfl,n⟩|⟨⟨p,rfl⟩,n⟩
     .obtain ⟨a,rfl⟩:=Hf n;obtain ⟨b,t⟩:=Hf c.1.1;rw[t] at j; cases j
     ·
      have:∀ {l:List MapEntry},(l.all fun x=>uJ x.key)=true->∀ v,fv (.int p) u l≠some (some v):=fun {l} D v w=>by
       cases l with
       | nil=>cases w
       | cons z l =>grind [fv,aE7]
      simp_all
    | some b =>
     cases b with
     | false=>rfl
     | true =>
      exfalso;have B:=l9 g j;have:∀ {l:List MapEntry} {v:Value},fv r u l=some (some v)->(l.any fun x=>IQ e.key x.key)=false->uJ e.key=true->False:=fun {l v}=>by
       induction l with
       | nil=>intro h; cases h
       | cons z l m =>grind [fv,Hf,IQ]
      grind
   grind [aBJ]
  | none =>rw[i] at h;grind [fv,Yi,aTM,lg,mJ,l9,JA,aTL]
theorem aPU {s:Option IntKind} {d:TypeDesc} (l:match s with | none=>d = .string | some o=>d = .int o) {q:PV} {u:Value} (m:eU M B q u):∀ {L:ai} {i:List MapEntry},au M B L (vW i)->sZ s L q=true ->
 (uM s L q=true/\∃ v,fv d u i=some (some v))\/(uM s L q=false/\fv d u i=some none)
 | L,[],h,f=>by
  have:L = []:=by cases L with | nil=>rfl | cons p L=>obtain ⟨_,_,e,_⟩:=dO.1 h; cases e
  subst this;exact .inr ⟨rfl,rfl⟩
 | L,e::i,h,f=>by
  rw[ZC] at h;match L,h with
  | k::v::L,h =>
   obtain ⟨a,w,c,t,h⟩:=dO.1 h;injection c with c j; subst c; subst j
   obtain ⟨b,x,c,y,h⟩:=dO.1 h;injection c with c j; subst c; subst j
   rw[sZ,bH] at f;obtain ⟨g,f⟩:=f;cases he:qY s q k with
   | none=>rw[he] at g; cases g
   | some r =>
    obtain ⟨n,z⟩:=Yu l he m t;cases r with
    | true=>exact .inl ⟨by simp only[uM,he],e.val,by simp only[fv,n]⟩
    | false =>simp only[uM,he,fv,n];exact aPU l m h f
  | [],h=>rw[fA] at h; cases h
  | [p],h=>obtain ⟨_,_,c,_,h⟩:=dO.1 h; rw[fA] at h; simp_all
theorem aTR {s:Option IntKind} {d:TypeDesc} (m:match s with | none=>d = .string | some w=>d = .int w) {q x:PV} {u y:Value} (i:eU M B q u) (n:eU M B x y):∀ {L:ai} {j:List MapEntry},au M B L (vW j)->sZ s L q=true ->
 au M B (oG s L q x) (vW (mJ d u y j))
 | L,[],h,f=>by
  have:L = []:=by cases L with | nil=>rfl | cons p L=>obtain ⟨_,_,e,_⟩:=dO.1 h; cases e
  subst this;exact h
 | L,e::j,h,f=>by
  rw[ZC] at h;match L,h with
  | k::v::L,h =>
   obtain ⟨a,A,c,o,h⟩:=dO.1 h;injection c with c l; subst c; subst l
   obtain ⟨b,C,c,z,h⟩:=dO.1 h;injection c with c l; subst c; subst l
   rw[sZ,bH] at f;obtain ⟨g,f⟩:=f;cases he:qY s q k with
   | none=>rw[he] at g; cases g
   | some r =>
    obtain ⟨t,D⟩:=Yu m he i o;cases r with
    | true =>simp only[oG,he,mJ,t];exact dO.2 ⟨u,_,rfl,i,dO.2 ⟨y,_,rfl,n,h⟩⟩
    | false =>simp only[oG,he,mJ,t];exact dO.2 ⟨_,_,rfl,o,dO.2 ⟨_,_,rfl,z,aTR m i n h f⟩⟩
  | [],h=>rw[fA] at h; cases h
  | [p],h=>obtain ⟨_,_,c,_,h⟩:=dO.1 h; rw[fA] at h; simp_all
def bT0 (he:qY U x D=some g) (a:eU M B x u) (hv:eU M B D A):pW x D=Vs u A:=by
 unfold qY at he;split at he
 .rw[fH.1 a,fH.1 hv]; rfl
 .rw[jS.1 a,jS.1 hv]; rfl
 .cases he
theorem aQC {s:Option IntKind} {q x:PV} {g:MapEntry} (i:eU M B q g.key) (j:eU M B x g.val):∀ {L:ai} {l:List MapEntry},au M B L (vW l)->sZ s L q=true->au M B (pY L q x) (vW (ui g l))
 | L,[],h,d=>by
  have:L = []:=by cases L with | nil=>rfl | cons p L=>obtain ⟨_,_,e,_⟩:=dO.1 h; cases e
  subst this;exact dO.2 ⟨_,_,rfl,i,dO.2 ⟨_,_,rfl,j,fA.2 rfl⟩⟩
 | L,e::l,h,d=>by
  rw[ZC] at h;match L,h with
  | k::v::L,h =>
   have t:=h;obtain ⟨a,w,c,o,h⟩:=dO.1 h;injection c with c m; subst c; subst m
   obtain ⟨b,y,c,u,h⟩:=dO.1 h;injection c with c m; subst c; subst m
   rw[sZ,bH] at d;obtain ⟨f,d⟩:=d;cases he:qY s q k with
   | none=>rw[he] at f; cases f
   | some r =>
    have n:=bT0 he i o;unfold ui;simp only[pY,n];cases Vs g.key e.key with
    | true=>exact dO.2 ⟨_,_,rfl,i,dO.2 ⟨_,_,rfl,j,t⟩⟩
    | false=>exact dO.2 ⟨_,_,rfl,o,dO.2 ⟨_,_,rfl,u,aQC i j h d⟩⟩
  | [],h=>rw[fA] at h; cases h
  | [p],h=>obtain ⟨_,_,c,_,h⟩:=dO.1 h; rw[fA] at h; simp_all
theorem aQ7 {e:MapEntry} (he:uJ e.key=false):∀ l:List MapEntry,ui e l=l ++ [e]
 | []=>rfl
 | x::l=>by
  have:Vs e.key x.key=false:=by cases hk:e.key<;>first | rfl | grind [uJ]
  unfold ui;rw[this,aV (by decide),aQ7 he l]; rfl
theorem a'W (y:match U with | none=>r = .string | some m=>r = .int m) {e0:MapEntry} (i:DU r e0.key) (n:eU M B x e0.key) (h:au M B L (vW c6)) (o:sZ U L x=true) (e:fv r e0.key c6=some none):JA c6 e0=ui e0 c6:=by
 unfold JA;split
 .rfl
 .rename_i g;cases p:uJ e0.key with
  | false=>grind [aQ7]
  | true =>
   exfalso;apply g;obtain ⟨b,t⟩:=Hf p;have j:r = .string:=by
    rcases i with ⟨h,_⟩|⟨_,h⟩
    .exact h
    simp_all
   subst j;clear g h o n;rw[t] at e ⊢;simp only[bH,Ij,uJ,true_and];induction c6 with
   | nil=>simp
   | cons z c6 u =>
    simp only[fv] at e;cases f:Instr.sameNow .string (.string b) z.key with
    | none=>rw[f] at e; cases e
    | some a=>rw[f] at e; cases a with
     | true=>cases e
     | false =>
      obtain ⟨v,w⟩:=u e;have l:∃ c,z.key = .string c:=by
       cases hk:z.key<;>rw[hk] at f<;>simp[Instr.sameNow] at f
       simp
      obtain ⟨c,g⟩:=l;rw[g,aE8] at f;simp only[H_] at f;refine ⟨by rw[CO,g,v]; rfl,?_⟩;rw[Xo,g,w];show ((b.data.toList==c.data.toList)||false)=false;rw[f]; rfl
theorem bXK {d:TypeDesc} (p:match U with | none=>d = .string | some E=>d = .int E) {y:Value} (g:DU d u) (r:eU M B x u) (H:eU M B D y) (h:au M B L (vW (rV c6))) (t:sZ U L x=true) :
 (Instr.findNow d u c6 0=some none/\∀ b,au M B (kT U L x D) (vW (rV (c6 ++ [{ key:=u,val:=y,born:=b }])))) \/
 ∃ (j:Nat) (e:MapEntry),Instr.findNow d u c6 0=some (some (0+j,e.val))/\c6[j]? = some e/\e.key=u/\au M B (kT U L x D) (vW (rV (c6.modify j fun e => { e with key:=u,val:=y }))):=by
 have e0:=ZB (d:=d) (u:=u) c6 0;have w:=Yi g c6;rcases aPU p r h t with ⟨a,v,c⟩|⟨a,c⟩
 .rw[w] at c;rw[c] at e0;cases f:Instr.findNow d u c6 0 with
  | none=>rw[f] at e0; cases e0
  | some o=>cases o with
   | none=>rw[f] at e0; cases e0
   | some z =>
    obtain ⟨j,m⟩:=z;have l:Instr.findNow d u c6 0=some (some (0+j,m)):=by rw[f,rP]
    obtain ⟨I,e,F,J⟩:=aTS (y:=y) c6 0 j m l;have hv:m=e.val:=by
     have key:∀ (c6:List MapEntry) (i j:Nat) (v:Value) (e:MapEntry),Instr.findNow d u c6 i=some (some (i+j,v))->c6[j]? = some e->v=e.val:=by
      intro c6;induction c6 with
      | nil=>simp
      | cons D c6 A =>
       intro i j v e a c;simp only[Instr.findNow] at a;cases C:Instr.sameNow d u D.key with
       | none=>rw[C] at a; cases a
       | some b=>rw[C] at a; cases b with
        | true =>simp_all
        | false =>
         cases j with
         | zero =>
          exfalso;have n:∀ (c6:List MapEntry) (i k:Nat) (v:Value),Instr.findNow d u c6 i=some (some (k,v))->i<=k:=by
           intro c6;induction c6 with
           | nil=>intro i k v h; cases h
           | cons D c6 A =>grind [Instr.findNow]
          have:=n c6 (i+1) (i+0) v a;omega
         | succ j=>exact A (i+1) j v e (by rw[show i+1+j=i+(j+1) by omega]; exact a) (by grind)
     exact key c6 0 j m e l F
    grind [l9,b1D,kT,aTR]
 .have G:=c;rw[w] at c;rw[c] at e0;cases f:Instr.findNow d u c6 0 with
  | none=>rw[f] at e0; cases e0
  | some o=>cases o with
   | some z=>rw[f] at e0; cases e0
   | none =>refine .inl ⟨rfl,fun b => ?_⟩;rw[lg,a'W (e0 := { key:=u,val:=y,born:=b }) p g r h t G];grind [kT,aQC]
variable {Y:ai}
theorem aTG (z:Inv n M B out σ a.tmps w) {i:Nat} (hv:eU M B (.dZ 0 i) u) (m:σ.h[i]? = some (some L)) (o:Ba L=some (g,Y)) :
 ∃ c p t,B[i]? = some c/\u = .map (some c.1)/\w.heap[c.1]? = some (.map p t)/\au M (WO g B) Y (vW (rV p.toList)):=by
 obtain ⟨c,A,C⟩:=IG.1 hv;obtain ⟨q,rfl⟩:=C.1 rfl;obtain ⟨H,D,E,F,I,x,J⟩:=z.heap.at m A;have r:D=0:=by rw[F.2,q]
 subst r;rw[aTD o] at x;obtain ⟨d,l,y,_⟩:=x 0 (pX g Y) rfl;rcases aW9 E with ⟨p,t,j,rfl⟩|⟨s,G,j,rfl⟩
 rotate_left
 .simp at l; subst l;obtain ⟨f,e,_⟩:=a4N.1 y;unfold JX at e;injection e with e _ _
  injection e with e
  exact absurd e (by decide)
 simp at l; subst l;obtain ⟨f,e,K⟩:=a4N.1 y;grind [Ji]
def aDR {M:Mem} {B:aS}:eU M B (AQ Q C) u↔u = .func (.yield Y0) #[.string Q,.int .i64 C] #[]:=by
 refine Am.trans ⟨?_,?_⟩
 .rintro ⟨f,c,rfl,a,b⟩;rw[fA] at b;obtain ⟨j,l,d,e,a⟩:=dO.1 a;obtain ⟨m,n,rfl,g,a⟩:=dO.1 a;rw[fA] at a; subst a;rw[jS.1 e,fH.1 g] at d;have h:c = #[]:=by rw[<- uA]; exact b
  have i:f = #[.string Q,.int .i64 C]:=by rw[<- uA]; exact d
  rw[h,i]
 .rintro rfl;exact ⟨_,_,rfl,dO.2 ⟨_,_,rfl,jS.2 rfl,dO.2 ⟨_,_,rfl,fH.2 rfl,fA.2 rfl⟩⟩,fA.2 rfl⟩
theorem bPU (t:Inv n M B out σ a.tmps w) {i:Nat} (hv:eU M B (.dZ EZ i) u) (g:σ.h[i]? = some (some L)) (j:Qp L=some (Q,C)) :
 ∃ (c:Nat×Nat×TypeId) (d:Nat),B[i]? = some c/\u = .pointer (some ⟨c.1,0,none⟩)/\w.heap[c.1]? = some (.stringIter Q d)/\C=d:=by
 obtain ⟨c,x,y⟩:=IG.1 hv;obtain ⟨l,rfl⟩:c.2=(1,0)/\u = .pointer (some ⟨c.1,0,none⟩):=y.2 (by decide);obtain ⟨E,z,A,D,F,q,G⟩:=t.heap.at g x;have m:z=0:=by rw[D.2,l]
 subst m;rw[aQU j] at q;obtain ⟨b,r,f,_⟩:=q 0 (AQ Q C) rfl;have f:=aDR.1 f;rcases aW9 A with ⟨H,I,e,rfl⟩|⟨J,d,e,rfl⟩
 .simp at r; subst r;unfold Ji at f;injection f with o _ _
  injection o with o
  exact absurd o (by decide)
 grind [JX]
theorem bXL (d:Inv n M B out σ a.tmps w) {P:Program} (i:uk P e=true) (s:ByteArray) :
 (Instr.range e (.string s)).run P w = .ok (.pointer (some ⟨w.heap.size,0,none⟩)) (w.alloc (.stringIter s 0))/\Pre n out M B σ a.tmps w M (B ++ [(w.heap.size,1,0)]) { σ with h:=σ.h ++ [some [AQ s 0]] } (w.alloc (.stringIter s 0)) (.dZ EZ σ.h.length) (.pointer (some ⟨w.heap.size,0,none⟩)):=by
 have f:P.underlying e=some .string:=by grind [uk]
 refine ⟨run_range_string w e s f,?_⟩;have g:=d.aU1 (.stringIter s 0) #[JX s 0] 0 (aDZ (TK w _)) [AQ s 0] (dG _) (fun j p c=>by
  match j,c with
  | 0,c =>simp at c; subst c;exact ⟨JX s 0,rfl,aDR.2 rfl,gU rfl,rfl,fun b=>ed rfl _ _⟩
  | j+1,c=>simp at c)
 exact Pre.Bg g (IG.2 ⟨(w.heap.size,1,0),by rw[d.heap.1]; simp,fun h=>absurd h (by decide),fun _=>⟨rfl,rfl⟩⟩) rfl
def bTW (o:Inv n M B out σ a.tmps w) {P:Program} {i:Nat} {v:Value} (m:TypeId) (hv:eU M B (.dZ EZ i) v) {p:Int} (f:σ.h[i]? = some (some L)) (g:Qp L=some (Q,p)) :
 (p<(Q.size:Int)->∃ w',(Instr.next v true m).run P w = .ok (.tuple #[.bool true,.int .i64 p,.int .i32 (a2I Q p)]) w'/\Good n out M B σ a.tmps w M B { σ with h:=σ.h.set i (some [AQ Q (Qq Q p)]) } a.tmps w') /\
 (¬ p<(Q.size:Int)->(Instr.next v true m).run P w = .ok (.tuple #[.bool false]) w):=by
 obtain ⟨c,d,q,rfl,e,rfl⟩:=bPU o hv f g;have r:c.1<w.heap.size:=(zf.1 e).1;refine ⟨fun h => ?_,fun h=>Lib.run_next_end_at w c.1 Q d m e (by omega)⟩;refine ⟨_,Lib.run_next_any_at w c.1 Q d m e (by omega),?_⟩;have l:=aQU g;subst l;obtain ⟨k1,k2,k3⟩:=o.setRow (i:=i) (j:=0) (p:=AQ Q (Qq Q (d:Int))) (v:=JX Q (d+(Utf8.decode Q d).2)) f q (aDZ e) (by simp) (aDR.2 rfl) (gU rfl) rfl (fun b=>by rw[ed rfl]; exact o.cnt b) (fun b _=>ed rfl _ _) (w':=w.iterAt c.1 Q (d+(Utf8.decode Q d).2)) (fun b t=>Lib.iterAt_other w c.1 b Q _ t) (by rw[aDZ (Lib.iterAt_heap w c.1 Q d _ e)]; rfl) rfl rfl rfl (Lib.iterAt_size w c.1 Q _);exact ⟨k1,eH.refl _ _,k3,fun b _=>by have:=k2 b; rw[ed rfl] at this; exact this⟩
def bT6 (d:Inv n M B out σ a.tmps w) (t:TypeId) (b:Bool) {P:Program} :
 (Instr.makeMap t none).run P w = .ok (.map (some w.heap.size)) (w.alloc (.map #[] 0))/\Pre n out M B σ a.tmps w M (B ++ [(w.heap.size,1,0)]) { σ with h:=σ.h ++ [some [pX b []]] } (w.alloc (.map #[] 0)) (.dZ 0 σ.h.length) (.map (some w.heap.size)):=by
 refine ⟨by rfl,?_⟩;have e:=d.aU1 (.map #[] 0) #[Ji #[]] 0 (aD' (TK w _)) [pX b []] (dG _) (fun j p c=>by
  match j,c with
  | 0,c =>simp at c; subst c;exact ⟨Ji #[],rfl,a4N.2 ⟨_,rfl,fA.2 rfl⟩,gU (RJ _ _),rfl,fun b=>ed (RJ _ _) _ _⟩
  | j+1,c=>simp at c)
 refine Pre.Bg e (IG.2 ⟨(w.heap.size,1,0),by rw[d.heap.1]; simp,fun _=>⟨rfl,rfl⟩,fun h=>absurd rfl h⟩) rfl
def bSY (Z:Inv n M B out σ a.tmps w) {P:Program} (ht:Di P e=some (U,x)) {i:Nat} (hv:eU M B (.dZ 0 i) u) (H:σ.h[i]? = some (some L)) (I:Ba L=some (g,Y))
 (J:eU M B D A) (hq:zC U D=true) (hg:yB U Y D=some b5) (C:Bool) :
 ∃ f,(Instr.lookup e u A C).run P w = .ok f w/\eU M B (Dc C x b5) f/\(Dc C x b5).own=false:=by
 obtain ⟨k,l,K,i',d,F,N,O,h4,h5,rfl,h6⟩:=aTF ht;obtain ⟨c,S,ck,_,rfl,m,G⟩:=aTG Z hv H I;have G:au M B Y (vW (rV S.toList)):=by
  cases g with
  | true=>exact G.mono (eH.zero _ _)
  | false=>exact G
 have hk:=aRG O hq J;have y:=MapKept.run_checkKey (P:=P) (w:=w) N hk S.isEmpty 9999;obtain ⟨T,oz⟩:=bXW (M:=M) (B:=B) h6;have E:(zeroValue l).run P w = .ok K w:=by simp[zeroValue,typeInfo,h4,h5]
 rcases bO5 O (aRI O hq J) J 0 G hg with ⟨rfl,Q⟩|⟨p,j,V,rfl,Q,X⟩
 .have o:=aF' (P:=P) (w:=w) N Q;cases C with
  | true=>exact ⟨.tuple #[K,.bool false],by simp[Instr.lookup,gJ F,Xq m,y,o,E,Result.andThen],uU.2 ⟨_,rfl,dO.2 ⟨_,_,rfl,T,dO.2 ⟨_,_,rfl,kw.2 rfl,fA.2 rfl⟩⟩⟩,rfl⟩
  | false=>exact ⟨K,by simp[Instr.lookup,gJ F,Xq m,y,o,E,Result.andThen],T,oz⟩
 .have o:=aF' (P:=P) (w:=w) N Q;cases C with
  | true=>exact ⟨.tuple #[V,.bool true],by simp[Instr.lookup,gJ F,Xq m,y,o,Result.andThen],uU.2 ⟨_,rfl,dO.2 ⟨_,_,rfl,qB.2 X,dO.2 ⟨_,_,rfl,kw.2 rfl,fA.2 rfl⟩⟩⟩,rfl⟩
  | false=>exact ⟨V,by simp[Instr.lookup,gJ F,Xq m,y,o,Result.andThen],qB.2 X,rH _⟩
theorem vF (h:MapKept.IsKey r u):Instr.sameBits 10000 u u=true:=by cases r<;>cases u<;>simp_all[MapKept.IsKey,Instr.sameBits,a5X]
theorem aYP (K:Inv n M B out σ a.tmps w) {P:Program} (ht:Di P e=some (U,x)) {i:Nat} {y:Value} (hv:eU M B (.dZ 0 i) u) (r:σ.h[i]? = some (some L)) (C:Ba L=some (g,Y))
 {f:PV} (I:eU M B D A) (hq:zC U D=true) (hy:eU M B f y) (hg:sZ U Y D=true) (N:g=true->f.flat=true) :
 ∃ w',(Instr.mapUpdate e u A y).run P w = .ok () w'/\Good n out M B σ a.tmps w M B { σ with h:=σ.h.set i (some [pX g (kT U Y D f)]) } a.tmps w':=by
 obtain ⟨k,l,zv,i',d,h1,O,Q,h4,h5,rfl,h6⟩:=aTF ht;obtain ⟨c,es,ck,hc,rfl,m,hL⟩:=aTG K hv r C;have hk:=aRG Q hq I;have E:=MapKept.run_checkKey (P:=P) (w:=w) O hk false 9999;have F:=aTD C;subst F;have b1:c.1<w.heap.size:=(zf.1 m).1;have G:∀ (o:Array MapEntry) (H:Nat),au M (WO g B) (kT U Y D f) (vW (rV o.toList))->Good n out M B σ a.tmps w M B { σ with h:=σ.h.set i (some [pX g (kT U Y D f)]) } a.tmps { w with heap:=w.heap.setIfInBounds c.1 (.map o H) }:=fun o H J=>by obtain ⟨g1,g2⟩:=MapKept.heap_set (o' := .map o H) m;have hr:eU M B (pX g (kT U Y D f)) (Ji o):=a4N.2 ⟨_,rfl,by omega⟩;obtain ⟨k1,k2,k3⟩:=K.setRow (i:=i) (j:=0) r hc (aD' m) (by simp) hr (gU (RJ _ _)) rfl (fun g=>by rw[ed (RJ _ _)]; exact K.cnt g) (fun g _=>ed (RJ _ _) _ _) (w' := { w with heap:=w.heap.setIfInBounds c.1 (.map o H) }) (fun g hb=>g2 g hb) (by rw[aD' (w := { w with heap:=w.heap.setIfInBounds c.1 (.map o H) }) g1]; rfl) rfl rfl rfl (by simp);exact ⟨k1,eH.refl _ _,k3,fun g _=>by have:=k2 g; rw[ed (RJ _ _)] at this; exact this⟩
 have S:D.flat=true:=by
  unfold zC at hq;split at hq
  .rfl
  .rfl
  .cases hq
 have T:eU M (WO g B) D A:=by
  cases g with
  | true=>exact I.flat [] S
  | false=>exact I
 have V:eU M (WO g B) f y:=by
  cases g with
  | true=>exact hy.flat [] (N rfl)
  | false=>exact hy
 rcases bXK Q (aRI Q hq I) T V hL hg with ⟨X,J⟩|⟨j,e',X,he,Z,J⟩
 .have p:=aF' (P:=P) (w:=w) O X;exact ⟨_,by simp[Instr.mapUpdate,gJ h1,Xq m,E,p,MapKept.run_setObj_map _ m,Result.andThen]; rfl,G _ _ (by rw[Array.toList_push]; exact J ck)⟩
 .have p:=aF' (P:=P) (w:=w) O X;rw[rP] at p;have a':es[j]? = some e':=by grind
  have b0:(Instr.keyThatStays (((es[j]?).map (·.key)).getD A) A).run P w = .ok A w:=by rw[a',Xt,Option.getD_some,Z];unfold Instr.keyThatStays;rw[ah (vF hk)]; rfl
  exact ⟨_,by simp[Instr.mapUpdate,gJ h1,Xq m,E,p,b0,MapKept.run_setObj_map _ m,Result.andThen]; rfl,G _ _ (by rw[Array.toList_modify]; exact J)⟩
end
section
variable {n:Nat} {out:Nat->Nat} {M:Mem} {B:aS} {σ σ1:ASt} {a:Act} {w:World} {E:AE} {o:Oper} {p:PV}
def aH2 (E:AE) (out:Nat->Nat) (M:Mem) (B:aS) (σ:ASt) (a:Act) (w:World) (o:Oper) (p:PV) (σ1:ASt):Prop :=∃ v b c d,((execOp a.eval o).run E.P w = .ok (.value v) b\/((execOp a.eval o).run E.P w = .ok .skip b/\o.dst=none))/\Pre E.n out M B σ a.tmps w c d σ1 b p v
def wo {a:Operand->Value} {o:Oper} {s:Sem Value} {w b:World} (h:execOp a o=(do pure (.value (<- s)))) (c:s.run f w = .ok u b):(execOp a o).run f w = .ok (.value u) b:=by rw[h]; simp[c]
theorem aXU (c:Inv E.n M B out σ a.tmps w) (h:(pop E.P σ.rd o.op).map (fun p=>(p,σ))=some (p,σ1)):aH2 E out M B σ a w o p σ1:=by
 cases d:pop E.P σ.rd o.op with
 | none=>grind
 | some q =>simp[d] at h;obtain ⟨rfl,rfl⟩:=h;obtain ⟨v,f,g,e⟩:=bX4 (fun x q hq=>c.rd x q hq) d w c.mem;exact ⟨v,w,M,B,.inl f,Pre.plain c g (fun b=>ed e _ _) (gU e)⟩
theorem bZY (F:Inv E.n M B out σ a.tmps w) (f:cO E o σ=some (p,σ1)) (g:kL E o σ):aH2 E out M B σ a w o p σ1:=by
 obtain ⟨V,op,C,Q,G,guard⟩:=o;cases op with
 | move x =>
  simp only[cO] at f;split at f
  .cases H:σ.ev x with
   | none=>simp_all
   | some q =>simp[H] at f; obtain ⟨rfl,rfl⟩:=f;exact ⟨_,w,M,B,.inl rfl,Pre.moved F H⟩
  .cases H:σ.rd x with
   | none=>simp_all
   | some q =>simp[H] at f; obtain ⟨rfl,rfl⟩:=f;obtain ⟨J,K⟩:=F.rd x _ H;exact ⟨_,w,M,B,.inl rfl,Pre.plain F J (fun b=>ed K _ _) (gU K)⟩
 | assign x =>
  simp only[cO] at f;cases H:σ.ev x with
  | none=>simp_all
  | some q =>simp[H] at f; obtain ⟨rfl,rfl⟩:=f;exact ⟨_,w,M,B,.inl rfl,Pre.moved F H⟩
 | alloc t =>
  simp only[cO] at f;split at f
  .cases f
  cases ht:ti E.P t with
  | none=>simp_all
  | some I =>
   simp[ht] at f; obtain ⟨rfl,rfl⟩:=f;obtain ⟨vs,J,K,h3,h4⟩:=a'Z ht w;have hG:=F.aU0 vs t (MJ (dw E.mu V) t σ.h.length I.zero) (by rw[a_Z,h3]; simp) (fun j p hj=>by
    have b7:∀ p,I.zero[j]? = some p->∃ v,vs[j]? = some v/\eU M (B ++ [(w.heap.size,vs.size,t+1)]) p v/\Tl M w p v/\v.oneCell'=true/\∀ b,bY p v b=0:=fun p hj=>by rw[h3,lN] at hj;grind [KF,aEQ,aC5]
    rcases a_Y hj with h | ⟨rfl,rfl,h0,d3,c1⟩|⟨rfl,rfl,h0⟩
    grind
    .obtain ⟨v,hv,hr,ht,ho,_⟩:=b7 _ h0;have d4:vs.size=2:=by rw[h3] at d3; simp_all
     exact ⟨v,hv,IG.2 ⟨(w.heap.size,vs.size,t+1),by rw[F.heap.1]; simp,fun h=>absurd h c1.1,fun _=>a_X c1.2 (by rw[d4]) (.inl (KE.1 hr))⟩,gU rfl,ho,fun b=>ed rfl _ _⟩
    .obtain ⟨v,hv,hr,ht,ho,e3⟩:=b7 _ h0;obtain ⟨rfl,_⟩:=Na hr;exact ⟨_,hv,Oe.2 ⟨none,0,rfl,dG _,fun h=>absurd rfl h⟩,⟨(fun _ _ _ _ _ e=>by cases e),(fun l A n d5 e ev=>by grind),(fun _ _ _ _ _ _ e _=>by cases e)⟩,ho,fun b=>by simp[bY]⟩)
   refine ⟨_,_,_,_,.inl (wo rfl J),Pre.Bg hG (xH.2 ⟨(w.heap.size,vs.size,t+1),⟨by have:=F.heap.1; simp[this],by simp⟩,rfl⟩) rfl⟩
 | box t x =>
  simp only[cO] at f;split at f
  .cases H:σ.rd x with
   | none=>simp_all
   | some q =>
    cases hf:Q8 q with
    | none=>simp_all
    | some e =>
     simp[H,hf] at f; obtain ⟨rfl,rfl⟩:=f;unfold Q8 at hf;cases hn:q.newCells with
     | none=>simp_all
     | some cs =>
      rw[hn] at hf;simp only at hf;split at hf
      .rename_i d6;injection hf with hf
       obtain ⟨r1,r2⟩:=F.rd x _ H;obtain ⟨J,K⟩:=WT hn r1;have b8:=aT' hn r1;obtain ⟨hG,e4⟩:=F.lay (a.eval x).cells t (a.eval x).cells.size (fun v hv=>b8 v (by grind));have hM:∀ (j:Nat) u,(a.eval x).cells.toList[j]? = some u->laid M w.heap.size ((a.eval x).cells.toList.take (a.eval x).cells.size) w.heap.size j=some u:=fun j u hu=>by rw[zF (zG F),ah rfl,nN,ah (by have:=(iY.1 hu).1; omega)]; exact hu
       have hm:=(WC F ((a.eval x).cells.toList.take (a.eval x).cells.size)).none;have c2:Loc (laid M w.heap.size ((a.eval x).cells.toList.take (a.eval x).cells.size)) [] e w.heap.size 0:=by
        have r3:eU M [] q (a.eval x):=r1.flat [] d6;obtain ⟨h3,_⟩:=WT hn r3;cases q with
        | agg ds =>subst hf;refine zI.2 (Gm fun j p hj => ?_);obtain ⟨u,hu,hr⟩:=wB h3 hj;exact ⟨u,by rw[rP]; simp_all,hr.mono hm⟩
        | tuple ds=>simp[PV.newCells,PV.one] at hn
        | _ =>subst hf;refine (DZ rfl).2 ⟨a.eval x,hM 0 _ ?_,r3.mono hm⟩;rw[(FU rfl r1).1]; rfl
       exact ⟨.pointer (some ⟨w.heap.size,0,none⟩),_,_,_,.inl (wo (s:=Instr.box t (a.eval x)) rfl (by rfl)),Pre.Bg hG (Bo.2 ⟨_,_,rfl,c2⟩) rfl⟩
      .cases hf
  .cases H:σ.rd x with
   | none=>simp_all
   | some q =>
    cases hn:q.newCells with
    | none=>simp_all
    | some cs =>simp[H,hn] at f; obtain ⟨rfl,rfl⟩:=f;obtain ⟨r1,r2⟩:=F.rd x _ H;obtain ⟨J,K⟩:=WT hn r1;have b8:=aT' hn r1;have hG:=F.newObj (a.eval x).cells t cs (by have:=ou J; simp_all) (fun j p hj=>by grind [wB,gU,ed]);exact ⟨.pointer (some ⟨w.heap.size,0,none⟩),_,_,_,.inl (wo (s:=Instr.box t (a.eval x)) rfl (by rfl)),Pre.Bg hG (xH.2 ⟨(w.heap.size,(a.eval x).cells.size,t+1),⟨by have:=F.heap.1; simp[this],by simp⟩,rfl⟩) rfl⟩
 | load t x =>
  simp only[cO] at f;split at f
  .rename_i I q b4 hq;split at f
   .split at f
    .obtain ⟨v,J,K⟩:=aBC F b4 hq f;exact ⟨v,w,M,B,.inl (wo rfl J),K⟩
    .cases f
   .obtain ⟨v,J,K⟩:=aBC F b4 hq f;exact ⟨v,w,M,B,.inl (wo rfl J),K⟩
  .cases f
 | store t x y =>
  simp only[cO] at f;split at f
  .cases f
  cases b4:ti E.P t with
  | none=>simp_all
  | some I =>
   cases hq:σ.rd x with
   | none=>simp_all
   | some q =>
    cases hp:σ.ev y with
    | none=>simp_all
    | some p' =>
     cases V with
     | some d=>simp_all
     | none =>
      simp only[b4,hq,hp] at f;cases c3:zQ I q p' (σ.clr y) with
      | none=>simp_all
      | some e5 =>simp[c3] at f; obtain ⟨rfl,rfl⟩:=f;obtain ⟨O,Z,B',J,K⟩:=b'4 F b4 hq hp c3;refine ⟨undef,O,Z,B',.inr ⟨?_,rfl⟩,K⟩;show (execOp a.eval ⟨none,.store t x y,C,Q,G,guard⟩).run E.P w=_;simp[execOp,J]
 | buildSlice t e6 ps =>
  simp only[cO] at f;split at f
  .rename_i I qs U hq;split at f
   .rename_i es he;split at f
    .rename_i hc;obtain ⟨l1,l2,l3⟩:=bSP F U hq he hc.1 hc.2.1 hc.2.2;split at f
     .cases f;obtain ⟨v,O,Z,B',J,K⟩:=l2;exact ⟨v,O,Z,B',.inl (wo rfl J),K⟩
     .split at f
      .split at f
       .rename_i d7;cases f;obtain ⟨v,O,Z,B',J,K⟩:=l3 d7;exact ⟨v,O,Z,B',.inl (wo rfl J),K⟩
       .cases f
      .cases f;obtain ⟨v,O,Z,B',J,K⟩:=l1;exact ⟨v,O,Z,B',.inl (wo rfl J),K⟩
    .cases f
   .cases f
  .cases f
 | makeSlice t l c =>
  simp only[cO] at f;split at f
  .rename_i I k m k' m' U hl hc;split at f
   .rename_i b9;obtain ⟨rfl,h0,J,b5,hb⟩:=b9;obtain ⟨e,i,z,d,hu,jX⟩:=zx U;have el:=fH.1 (F.rd l _ hl).1;have ec:=fH.1 (F.rd c _ hc).1;have c4:=bT8 (w:=w) hu jX k k' h0 J hb;have c5:(execOp a.eval ⟨V,.makeSlice t l c,C,Q,G,guard⟩).run E.P w = .ok (.value (.slice (some ⟨w.heap.size,0,none⟩) m.toNat m.toNat)) (w.alloc (.cells (madeCells z.cells (m.toNat*i.size)) e)):=wo (s:=Instr.makeSlice t (a.eval l) (a.eval c)) rfl (by rw[el,ec]; exact c4);split at f
    .cases f;have hG:=bT7 F jX m.toNat;exact ⟨_,_,_,_,.inl c5,Pre.Bg hG (uT.2 ⟨(w.heap.size,(madeCells z.cells (m.toNat*i.size)).size,e+1),m.toNat,⟨by rw[F.heap.1]; simp,by simp⟩,rfl,dG _,by rw[size_madeCells,jX.size]; simp⟩) rfl⟩
    .split at f
     .rename_i hz;cases f;obtain ⟨Z,c6⟩:=bT9 F jX b5 hz.1 hz.2 m.toNat;exact ⟨_,_,Z,B,.inl c5,c6⟩
     .cases f
   .cases f
  .cases f
 | call c =>
  obtain ⟨d2,args,D⟩:=c;simp only[cO] at f;split at f
  .split at f
   .rename_i x y t u J K;have e1:args = #[x,y]:=by rw[<- uA]; exact J
    have e2:D = #[t,u]:=by rw[<- uA]; exact K
    subst e1; subst e2;split at f
    .rename_i I j d8 m sz q U H hy;split at f
     .rename_i cs m2 d9 S c8;split at f
      .rename_i hc;obtain ⟨rfl,b5,b6⟩:=hc;cases f;obtain ⟨e,i,z,d,hu,jX⟩:=zx U;obtain ⟨O,X,Y⟩:=b2K (u:=u) (ty:=C) F hu jX (F.rd x _ H).1 S b6 (F.rd y _ hy).1 c8 b5;refine ⟨_,O,_,_,.inl ?_,Pre.Bg Y (fH.2 rfl) rfl⟩;show (execOp a.eval ⟨V,.call ⟨.builtin .copy,#[x,y],#[t,u]⟩,C,Q,G,guard⟩).run E.P w=_;simp[execOp,resolve,invoke,builtin,X]
      .cases f
     .cases f
    .cases f
   .cases f
  .split at f
   .rename_i x t J K;have e1:args = #[x]:=by rw[<- uA]; exact J
    have e2:D = #[t]:=by rw[<- uA]; exact K
    subst e1; subst e2;split at f
    .rename_i I j d8 m sz U H;split at f
     .rename_i cs S;split at f
      .rename_i hc;obtain ⟨rfl,b6⟩:=hc;cases f;obtain ⟨e,i,z,d,hu,jX⟩:=zx U;obtain ⟨O,X,Y⟩:=b1M (ty:=C) F hu jX (F.rd x _ H).1 S b6;refine ⟨.tuple #[],O,_,_,.inl ?_,Pre.Bg Y (uU.2 ⟨#[],rfl,fA.2 rfl⟩) rfl⟩;show (execOp a.eval ⟨none,.call ⟨.builtin .clear,#[x],#[t]⟩,C,Q,G,guard⟩).run E.P w=_;simp[execOp,resolve,invoke,builtin,X]
      .cases f
     .cases f
    .rename_i I o' z' U H;cases f;obtain ⟨e,i,z,d,hu,jX⟩:=zx U;obtain ⟨A,d5,hv,_⟩:=jo.1 (F.rd x _ H).1;refine ⟨.tuple #[],w,M,B,.inl ?_,Pre.plain F (uU.2 ⟨#[],rfl,fA.2 rfl⟩) (fun b=>ed rfl _ _) (gU rfl)⟩;show (execOp a.eval ⟨none,.call ⟨.builtin .clear,#[x],#[t]⟩,C,Q,G,guard⟩).run E.P w=_;have d':(Builtin.clear_ #[t] C #[a.eval x]).run E.P w = .ok (.tuple #[]) w:=by rw[hv];cases A<;>simp[Builtin.clear_,gJ hu]
     simp[execOp,resolve,invoke,builtin,d']
    .cases f
   .cases f
  .simp only[kL] at g;split at f
   .rename_i s x t u J K;split at f
    .rename_i I ow sz es o' c9 c' U N H;split at f
     .rename_i hc;obtain ⟨b',rfl,a',b1,b2,b0⟩:=hc;cases f;rw[J] at g;simp only[N,H] at g;have e1:args = #[s,x]:=by rw[<- uA]; exact J
      have e2:D = #[t,t]:=by rw[<- uA]; exact K
      subst e1; subst e2;obtain ⟨v,O,Z,B',X,Y⟩:=a_9 (ty:=C) F U b' N H a' b1 b2 b0 g;refine ⟨v,O,Z,B',.inl ?_,Y⟩;show (execOp a.eval ⟨V,.call ⟨.builtin .append,#[s,x],#[t,t]⟩,C,Q,G,guard⟩).run E.P w=_;simp[execOp,resolve,invoke,builtin,X]
     .cases f
    .rename_i I ow sz es b U N H;split at f
     .rename_i hc;obtain ⟨b',a',b1,b2,b0,c0⟩:=hc;cases f;rw[J] at g;simp only[N,H] at g;have e1:args = #[s,x]:=by rw[<- uA]; exact J
      have e2:D = #[t,u]:=by rw[<- uA]; exact K
      subst e1; subst e2;obtain ⟨v,O,Z,B',X,Y⟩:=a_A (ty:=C) F U a' b1 b' N H b2 b0 c0 g;refine ⟨v,O,Z,B',.inl ?_,Y⟩;show (execOp a.eval ⟨V,.call ⟨.builtin .append,#[s,x],#[t,u]⟩,C,Q,G,guard⟩).run E.P w=_;simp[execOp,resolve,invoke,builtin,X]
     .cases f
    .rename_i I k sz cs o' c9 c' U N H;split at f
     .rename_i hc;obtain ⟨rfl,a',b1,rfl,b0,c0⟩:=hc;cases f;rw[J] at g;simp only[N,H] at g;have e1:args = #[s,x]:=by rw[<- uA]; exact J
      have e2:D = #[t,t]:=by rw[<- uA]; exact K
      subst e1; subst e2;obtain ⟨v,O,Z,B',X,Y⟩:=a_8 (ty:=C) F U N H a' b1 b0 c0 g;refine ⟨v,O,Z,B',.inl ?_,Y⟩;show (execOp a.eval ⟨V,.call ⟨.builtin .append,#[s,x],#[t,t]⟩,C,Q,G,guard⟩).run E.P w=_;simp[execOp,resolve,invoke,builtin,X]
     .cases f
    .rename_i I l b U N H;split at f
     .rename_i hc;obtain ⟨a',b1,b2,b0⟩:=hc;cases f;rw[J] at g;simp only[N,H] at g;have e1:args = #[s,x]:=by rw[<- uA]; exact J
      have e2:D = #[t,u]:=by rw[<- uA]; exact K
      subst e1; subst e2;obtain ⟨v,O,Z,B',X,Y⟩:=a_7 (ty:=C) F U a' b1 N H b2 b0 g;refine ⟨v,O,Z,B',.inl ?_,Y⟩;show (execOp a.eval ⟨V,.call ⟨.builtin .append,#[s,x],#[t,u]⟩,C,Q,G,guard⟩).run E.P w=_;simp[execOp,resolve,invoke,builtin,X]
     .cases f
    .rename_i I l o' c9 c' U N H;split at f
     .rename_i c d1;split at f
      .rename_i hc;obtain ⟨a',rfl,b2,b0,rfl⟩:=hc;cases f;rw[J] at g;simp only[N,H,d1] at g;have e1:args = #[s,x]:=by rw[<- uA]; exact J
       have e2:D = #[t,t]:=by rw[<- uA]; exact K
       subst e1; subst e2;rw[bUH d1] at H;obtain ⟨v,O,Z,B',X,Y⟩:=a_6 (ty:=C) F U a' N H b2 b0 g.1 g.2.1 g.2.2;refine ⟨v,O,Z,B',.inl ?_,Y⟩;show (execOp a.eval ⟨V,.call ⟨.builtin .append,#[s,x],#[t,t]⟩,C,Q,G,guard⟩).run E.P w=_;simp[execOp,resolve,invoke,builtin,X]
      .cases f
     .cases f
    .cases f
   .cases f
  grind [aXU,pop]
 | makeMap t r =>
  simp only[cO] at f;split at f
  .cases f
  split at f
  .cases f;obtain ⟨J,K⟩:=bT6 (P:=E.P) F t (dw E.mu V);exact ⟨_,_,_,_,.inl (wo (s:=Instr.makeMap t none) rfl J),K⟩
  .cases f
 | lookup t m k ok =>
  simp only[cO] at f;split at f
  .rename_i s z i q ht hm hq;split at f
   .rename_i cs S;split at f
    .rename_i b L b3;split at f
     .rename_i r hk hg;cases f;obtain ⟨v,X,Y,g3⟩:=bSY F ht (F.rd m _ hm).1 S b3 (F.rd k _ hq).1 hk hg ok;exact ⟨v,w,M,B,.inl (wo (s:=Instr.lookup t (a.eval m) (a.eval k) ok) rfl X),Pre.plain F Y (fun b=>ed g3 _ _) (gU g3)⟩
     .cases f
    .cases f
   .cases f
  .cases f
 | mapUpdate t m k x =>
  simp only[cO] at f;split at f
  .rename_i s z i q y ht hm hq H;split at f
   .rename_i cs S;split at f
    .rename_i b L b3;split at f
     .rename_i hk;cases f;simp only[bH,EN,Ij] at hk;obtain ⟨O,X,Y⟩:=aYP F ht (F.rd m _ hm).1 S b3 (F.rd k _ hq).1 hk.1 (F.rd x _ H).1 hk.2.1 (fun e=>by simp_all);refine ⟨.tuple #[],O,_,_,.inr ⟨?_,rfl⟩,Pre.Bg Y (uU.2 ⟨#[],rfl,fA.2 rfl⟩) rfl⟩;show (execOp a.eval ⟨none,.mapUpdate t m k x,C,Q,G,guard⟩).run E.P w=_;simp[execOp,X]
     .cases f
    .cases f
   .cases f
  .cases f
 | insert t m k x =>
  simp only[cO] at f;split at f
  .cases f
  split at f
  .rename_i s z i q y ht hm hq H;split at f
   .rename_i cs S;split at f
    .rename_i b L b3;split at f
     .rename_i hk;cases f;simp only[bH,EN,Ij] at hk;obtain ⟨O,X,Y⟩:=aYP F ht (F.rd m _ hm).1 S b3 (F.rd k _ hq).1 hk.1 (F.rd x _ H).1 hk.2.1 (fun e=>by simp_all);refine ⟨.tuple #[],O,_,_,.inr ⟨?_,rfl⟩,Pre.Bg Y (uU.2 ⟨#[],rfl,fA.2 rfl⟩) rfl⟩;show (execOp a.eval ⟨none,.insert t m k x,C,Q,G,guard⟩).run E.P w=_;simp[execOp,X]
     .cases f
    .cases f
   .cases f
  .cases f
 | range t x =>
  simp only[cO] at f;split at f
  .rename_i s ht H;cases f;have hv:=jS.1 (F.rd x _ H).1;obtain ⟨J,K⟩:=bXL (P:=E.P) F ht s;exact ⟨_,_,_,_,.inl (wo (s:=Instr.range t (a.eval x)) rfl (by rw[hv]; exact J)),K⟩
  .cases f
 | next x b =>
  simp only[cO] at f;split at f
  .rename_i T i H;split at f
   .rename_i cs S;split at f
    .rename_i s p b3;split at f
     .rename_i U;rw[bH] at U;have e0:=pI U.1;subst e0;obtain ⟨X,Y⟩:=bTW (P:=E.P) F C (F.rd x _ H).1 S b3;split at f
      .rename_i hp;cases f;obtain ⟨O,g3,g4⟩:=X (TM hp);exact ⟨_,O,_,_,.inl (wo (s:=Instr.next (a.eval x) true C) rfl g3),Pre.Bg g4 (uU.2 ⟨_,rfl,dO.2 ⟨_,_,rfl,kw.2 rfl,dO.2 ⟨_,_,rfl,fH.2 rfl,dO.2 ⟨_,_,rfl,fH.2 rfl,fA.2 rfl⟩⟩⟩⟩) rfl⟩
      .rename_i hp;cases f;exact ⟨_,w,M,B,.inl (wo (s:=Instr.next (a.eval x) true C) rfl (Y (of_decide_eq_false hp))),Pre.plain F (uU.2 ⟨_,rfl,dO.2 ⟨_,_,rfl,kw.2 rfl,fA.2 rfl⟩⟩) (fun b=>ed rfl _ _) (gU rfl)⟩
     .cases f
    .cases f
   .cases f
  .cases f
 | _=>exact aXU F f
end
end Go.Proofs.YtagkcbgkhgccmaaGreatDoor
end

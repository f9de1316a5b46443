/- A part of the proof. -/
import Derived.Lib.ItoaNum
import Derived.WalkKit
import Derived.WalkSpells
import Derived.WalkLawsBesides
import Derived.Lib.Hide
import Derived.Below
import Derived.Laws.BytesString
import Derived.Great.BuildSlice
import Derived.Laws.CopyRow
import Derived.Lib.AppendStr
import Derived.Laws.MakeOwn
import Derived.WideMake
import Derived.Lib.OthersKept
set_option linter.unusedVariables false
set_option linter.defProp false
set_option linter.unusedSimpArgs false
set_option linter.unnecessarySimpa false
set_option linter.unusedSectionVars false
noncomputable section
namespace Go.Proofs.YtmbehibpfkkjbaaGreatDoor
open Go.RowKit
abbrev aX:=@if_neg
abbrev aY:=@List.length_append
abbrev aZ:=@List.length_map
abbrev ay:=@if_pos
abbrev bQ:=@Bool.and_eq_true
abbrev bT:=@List.length_cons
abbrev dO:=@Nat.le_refl
abbrev dZ:=@List.getElem_mem
abbrev gm:=@Go.run_underlying
abbrev jO:=@Nat.le_trans
abbrev jq:=@List.all_eq_true
abbrev jr:=@List.getElem?_eq_some_iff
abbrev jv:=@List.length_nil
abbrev jy:=@List.mem_cons
abbrev kV:=@List.getElem?_eq_getElem
abbrev nC:=@Int.toNat_natCast
abbrev nP:=@List.getElem?_map
abbrev oK:=@List.eq_nil_of_length_eq_zero
abbrev oL:=@Go.Sem.run_bind
abbrev pF:=@List.cons_append
abbrev pq:=@List.map_append
abbrev qH:=@List.length_drop
abbrev qh:=@List.getElem?_take
abbrev qi:=@beq_iff_eq
abbrev rQ:=@Nat.add_mul
abbrev su:=@Bool.not_false
abbrev tC:=@List.mem_of_getElem?
abbrev tH:=@beq_eq_false_iff_ne
abbrev tJ:=@decide_eq_true_eq
abbrev ut:=@Bool.not_true
abbrev uu:=@List.mem_map
abbrev ve:=@List.length_take
abbrev wY:=@Go.wpIn_mono
abbrev xg:=@List.length_singleton
abbrev xh:=@Nat.zero_add
abbrev yP:=@Go.Result.andThen_ok
abbrev zU:=@List.append_assoc
abbrev zV:=@List.map_cons
abbrev zW:=@List.not_mem_nil
abbrev zX:=@or_false
abbrev Ac:=@Array.toList_inj
abbrev Ad:=@List.getElem?_set_ne
abbrev Ae:=@List.takeWhile_cons
abbrev Af:=@Go.World.block_lt_of_cell?
abbrev Ba:=@List.getElem?_append_left
abbrev Bc:=@Nat.eq_of_beq_eq_true
abbrev DW:=@Array.getElem?_eq_some_iff
abbrev DX:=@List.all_cons
abbrev DY:=@List.append_nil
abbrev DZ:=@List.mem_append
abbrev Dc:=@Nat.zero_le
abbrev F6:=@Bool.not_eq_true'
abbrev F7:=@List.drop_eq_getElem_cons
abbrev F8:=@List.mem_singleton
abbrev F9:=@Nat.lt_or_ge
abbrev FB:=@cond_false
abbrev FC:=@if_true
abbrev Hg:=@Nat.le_of_eq
abbrev Jg:=@Bool.or_eq_true
abbrev Jh:=@List.mem_iff_getElem?
abbrev NJ:=@Go.RowKit.Below.heap_alloc
abbrev NK:=@Bool.and_self
abbrev NL:=@Go.ByteArray.toList_eq
abbrev NM:=@List.drop_eq_nil_iff
abbrev NP:=@List.drop_eq_nil_of_le
abbrev NQ:=@List.flatMap_cons
abbrev NR:=@List.take_append_drop
abbrev NT:=@List.take_succ_eq_append_getElem
abbrev NU:=@Nat.beq_eq
abbrev NV:=@Nat.mul_le_mul_right
abbrev NW:=@Option.map_eq_some_iff
abbrev NY:=@Go.Sem.run_pure
abbrev NZ:=@cond_true
abbrev QT:=@Bool.true_and
abbrev QU:=@Int.tmod_eq_emod_of_nonneg
abbrev QV:=@Int.tmod_lt_of_pos
abbrev QW:=@List.drop_drop
abbrev QX:=@List.ext_getElem?
abbrev QY:=@List.getElem?_append_right
abbrev QZ:=@List.getElem?_set_self
abbrev Qa:=@Nat.blt_eq
abbrev Qb:=@Option.bind_some
abbrev Qc:=@of_decide_eq_true
abbrev Qd:=@Go.wpIn_seq
abbrev V8:=@Bool.false_eq_true
abbrev V9:=@Bool.false_ne_true
abbrev VA:=@Int.tmod_nonneg
abbrev VB:=@List.mem_append_left
abbrev VC:=@List.mem_append_right
abbrev VD:=@List.take_of_length_le
abbrev VE:=@Nat.add_zero
abbrev VF:=@Nat.lt_of_lt_of_le
abbrev VG:=@Go.World.cell?_of_block
abbrev VH:=@Go.mem_ready
abbrev VI:=@Go.run_sliceBound
abbrev DU:=@Bool.false_and
abbrev B_:=@List.any_cons
abbrev BL:=@List.getElem_map
abbrev AQ:=@List.map_map
abbrev a04:=@List.map_take
abbrev Aa:=@List.mem_range
abbrev DT:=@Go.MapKept.run_getObj_map
abbrev C_:=@Nat.succ_mul
abbrev A_:=@Option.map_some
abbrev Dz:=@Array.getElem?_append_left
abbrev Ez:=@Bool.and_false
abbrev Ef:=@Bool.eq_iff_iff
abbrev Dx:=@Bool.not_eq_true
abbrev DV:=@List.getElem?_cons_succ
abbrev ED:=@List.mem_of_mem_take
abbrev a9W:=@Go.MapKept.bytes_beq
abbrev Ee:=@Nat.le_of_ble_eq_true
abbrev E_:=@Nat.min_eq_right
abbrev a9Z:=@Go.Oper.upon_value
abbrev E5:=@Option.some.injEq
abbrev D5:=@beq_self_eq_true
abbrev aA1:=@Go.heap_alloc_new
abbrev V6:=@Array.getD_eq_getD_getElem?
abbrev aJJ:=@Array.size_replicate
abbrev aJK:=@Bool.or_eq_false_iff
abbrev aJL:=@Int.toNat_of_nonneg
abbrev aJM:=@List.getD_eq_getElem?_getD
abbrev Oq:=@List.getElem?_drop
abbrev aJO:=@List.getElem_of_mem
abbrev aJP:=@List.range'_succ
abbrev aJQ:=@List.range_eq_range'
abbrev Zw:=@Go.MapKept.run_findKey
abbrev aJS:=@Nat.add_sub_cancel_left
abbrev aJT:=@Nat.ble_eq_true_of_le
abbrev T_:=@Go.World.cell?_alloc_old
abbrev aJV:=@decide_eq_false_iff_not
abbrev b3L:=@Array.getElem?_setIfInBounds_ne
abbrev b3M:=@Array.toList_setIfInBounds
abbrev b3N:=@Go.Lib.run_firstCells_string
abbrev b3O:=@Option.bind_eq_some_iff
end Go.Proofs.YtmbehibpfkkjbaaGreatDoor
namespace Go.Proofs.YtmbehibpfkkjbaaGreatDoor
def aIK (m:Int):List (Nat×List Value) := [(0,[Value.int .i64 m]),(1,Lib.pow10Tab.map (Value.int .u64))]
def Dh (m:Int) (b o:Nat):Option Value:=((aIK m).lookup b).bind (·[o]?)
structure Mem where
 m:Int
 f:Nat->Nat->Option Value
 g:∀ b o v,Dh m b o=some v->f b o=some v
instance:CoeFun Mem (fun _=>Nat->Nat->Option Value):=⟨Mem.f⟩
def Ce (m:Int) (F:Nat->Nat->Option Value):Mem:=⟨m,fun b o=>match Dh m b o with | some v=>some v | none=>F b o,fun b o v h=>by simp only[h]⟩
variable {O:Int} {h b1:Mem} {b j:Nat} {u:Value} {r b9:World} {K:Array Value} {e:TypeId} {b':Nat->Nat} {g:Bool} {f:Program}
def Iy {F:Nat->Nat->Option Value} (h:∀ b o v,Dh O b o=some v->F b o=some v) (b o:Nat):Ce O F b o=F b o:=by
 show (match Dh O b o with | some v=>some v | none=>F b o)=F b o;split
 .rename_i v hv; exact (h b o v hv).symm
 .rfl
def a6E {f:Nat->Option Value} (a:∀ o,h b o=none):∀ d o v,Dh h.m d o=some v->(if d=b then f o else h d o)=some v:=fun d o v e=>by
 have i:d≠b:=fun i=>by subst i; have:=h.g _ _ _ e; rw[a] at this; cases this
 rw[aX i]; exact h.g _ _ _ e
open Go.RowKit
inductive PV where
 | int (k:IntKind) (n:Int)
 | bool (b:Bool)
 | str (s:ByteArray)
 | nilp
 | raw (v:Value)
 | ptr (i off:Nat)
 | eU (T:TypeId) (i:Nat)
 | cst (e:PV)
 | sl (own:Bool) (sz:Nat) (es:List PV)
 | slh (i off n sz:Nat)
 | eF (l:List UInt8)
 | pW (o:Bool) (n sz:Nat) (cs:List PV)
 | mp (l:List PV)
 | func (fn:Fn) (first caps:List PV)
 | agg (cs:List PV)
 | tuple (cs:List PV)
instance:Inhabited PV:=⟨.nilp⟩
abbrev aT:=List (Nat×Nat×TypeId)
abbrev VL:=(Value->Prop)×(Nat->Nat->Prop)
def kF (M:Mem) (f:Value->Prop):VL:=(f,fun b o=>∃ u,M b o=some u/\f u)
def Hu (a:Nat):List VL->Nat->Nat->Prop
 | [],_,_=>True
 | p::c,b,o=>p.2 b o/\Hu a c b (o+a)
def Qg (M:Mem):List VL->Nat->Nat->Prop
 | [],_,_=>True
 | p::a,b,o=>(∃ u,M b o=some u/\p.1 u)/\Qg M a b (o+1)
def qI:List VL->List Value->Prop
 | [],[]=>True
 | p::a,v::b=>p.1 v/\qI a b
 | _,_=>False
def PV.size:PV->Nat | .agg a=>a.length | _=>1
def PV.isAgg:PV->Bool | .agg _=>true | _=>false
def PV.own:PV->Bool | .sl o _ _=>o | .eF _=>true | .pW o _ _ _=>o | _=>false
def PV.lit:PV->Bool | .int _ _=>true | .bool _=>true | .str _=>true | _=>false
def noM:Mem:=⟨0,Dh 0,fun _ _ _ h=>h⟩
def pJ (l:List UInt8):List PV:=l.map fun x => .int .u8 x.toNat
def PV.un:PV->PV | .sl _ a b => .sl false a b | .eF l => .sl false 1 (pJ l) | .pW _ n a _ => .pW false n a [] | p=>p
def aN:Nat:=1073741824
def Vd:Nat:=1000001
def a1E (T:Nat) (c:Nat×Nat×Nat) (v:Value):Prop:=match Nat.beq T Vd with
 | true=>c.2=(1,0)/\v = .pointer (some ⟨c.1,0,none⟩)
 | false=>c.2=(2,T+1)/\(v = .pointer none\/v = .pointer (some ⟨c.1,0,none⟩))
def a1D (T:Nat) (c:Nat×Nat×Nat) (v:Value):Prop:=(T=0->c.2=(1,0)/\v = .map (some c.1))/\(T≠0->a1E T c v)
theorem b6W {c:Nat×Nat×Nat} (a:Nat.beq b Vd=false) (h:c.2=(2,b+1)) (hv:u = .pointer none\/u = .pointer (some ⟨c.1,0,none⟩)):a1E b c u:=by grind [a1E]
def Jp:Nat:=4242
mutual
def bG (M:Mem) (B:aT):PV->VL
 | .int k n=>kF M fun v=>v = .int k n
 | .bool b=>kF M fun v=>v = .bool b
 | .str s=>kF M fun v=>v = .string s
 | .nilp=>kF M fun v=>v = .pointer none
 | .raw u=>kF M fun v=>v=u/\u.oneCell'=true
 | .ptr i a=>kF M fun v=>∃ c,(B[i]? = some c/\c.2.2≠0)/\v = .pointer (some ⟨c.1,a,none⟩)
 | .eU T i=>kF M fun v=>∃ c,B[i]? = some c/\a1D T c v
 | .cst e=>kF M fun v=>∃ b a,v = .pointer (some ⟨b,a,none⟩)/\(bG M [] e).2 b a
 | .sl _ h g=>kF M fun v=>∃ A d,v = .slice A g.length d/\g.length<=d/\(∀ e,e∈g->e.size=h)/\(h=0->g = []/\A=none/\d=0)/\(g ≠ []->∃ b a,A=some ⟨b,a,none⟩/\Hu h (jB M [] g) b a)
 | .eF l=>kF M fun v=>∃ A d,v = .slice A l.length d/\l.length<=d/\(l ≠ []->∃ b a,A=some ⟨b,a,none⟩/\∀ (j:Nat) x,l[j]? = some x->M b (a+j)=some (.int .u8 (x.toNat:Int)))
 | .pW _ n _ _=>kF M fun v=>∃ A d,v = .slice A n d/\n<=d
 | .mp l=>kF M fun v=>∃ f,v = .func (.yield Jp) f #[]/\qI (jB M [] l) f.toList
 | .slh i a n h=>kF M fun v=>∃ c d,(B[i]? = some c/\c.2.2≠0)/\v = .slice (some ⟨c.1,a,none⟩) n d/\n<=d/\a+d*h<=c.2.1
 | .func r first m=>kF M fun v=>∃ f c,v = .func r f c/\qI (jB M B first) f.toList/\qI (jB M B m) c.toList
 | .agg q=>(fun v=>∃ p,v = .agg p/\qI (jB M B q) p.toList,fun b o=>Qg M (jB M B q) b o)
 | .tuple q=>(fun v=>∃ p,v = .tuple p/\qI (jB M B q) p.toList,fun _ _=>False)
def jB (M:Mem) (B:aT):List PV->List VL
 | [] => []
 | p::a=>bG M B p::jB M B a
end
def dC (M:Mem) (B:aT) (p:PV) (v:Value):Prop:=(bG M B p).1 v
def Loc (M:Mem) (B:aT) (p:PV) (b o:Nat):Prop:=(bG M B p).2 b o
def bI (M:Mem) (B:aT) (a:List PV) (b:List Value):Prop:=qI (jB M B a) b
def lQ (M:Mem) (B:aT) (a:List PV) (b o:Nat):Prop:=Qg M (jB M B a) b o
def nz (M:Mem) (B:aT) (a:Nat) (c:List PV) (b o:Nat):Prop:=Hu a (jB M B c) b o
section
variable {M:Mem} {B:aT}
theorem iK {k:IntKind}:dC M B (.int k O) u↔u = .int k O:=by rfl
def oh:dC M B (.bool g) u↔u = .bool g:=by rfl
def kz {s:ByteArray}:dC M B (.str s) u↔u = .string s:=by rfl
def MI:dC M B .nilp u↔u = .pointer none:=by rfl
def Ej {v:Value}:dC M B (.raw u) v↔v=u/\u.oneCell'=true:=by rfl
def yH:dC M B (.ptr b j) u↔∃ c,(B[b]? = some c/\c.2.2≠0)/\u = .pointer (some ⟨c.1,j,none⟩):=by rfl
def Pi:dC M B (.eU e b) u↔∃ c,B[b]? = some c/\a1D e c u:=by rfl
variable {x:PV} {l:List PV} {U:Nat} {d1:List UInt8} {H:List Value}
def D9:dC M B (.cst x) u↔∃ b a,u = .pointer (some ⟨b,a,none⟩)/\Loc M [] x b a:=by rfl
def lM:dC M B (.sl g b l) u↔∃ A c,u = .slice A l.length c/\l.length<=c/\(∀ e,e∈l->e.size=b)/\(b=0->l = []/\A=none/\c=0)/\(l ≠ []->∃ a d,A=some ⟨a,d,none⟩/\nz M [] b l a d):=by rfl
def BP {d:Nat}:dC M B (.slh b j U d) u↔∃ c a,(B[b]? = some c/\c.2.2≠0)/\u = .slice (some ⟨c.1,j,none⟩) U a/\U<=a/\j+a*d<=c.2.1:=by rfl
def aHN:dC M B (.pW g b j l) u↔∃ A a,u = .slice A b a/\b<=a:=by rfl
def a8Q:dC M B (.eF d1) u↔∃ A a,u = .slice A d1.length a/\d1.length<=a/\(d1 ≠ []->∃ b c,A=some ⟨b,c,none⟩/\∀ (j:Nat) x,d1[j]? = some x->M b (c+j)=some (.int .u8 (x.toNat:Int))):=by rfl
def a_8:dC M B (.mp l) u↔∃ f,u = .func (.yield Jp) f #[]/\bI M [] l f.toList:=by rfl
def DC {a:Fn} {first:List PV}:dC M B (.func a first l) u↔∃ f c,u = .func a f c/\bI M B first f.toList/\bI M B l c.toList:=by rfl
def rF:dC M B (.agg l) u↔∃ a,u = .agg a/\bI M B l a.toList:=by rfl
def xO:dC M B (.tuple l) u↔∃ a,u = .tuple a/\bI M B l a.toList:=by rfl
def gZ:bI M B [] H↔H = []:=by cases H<;>simp[bI,jB,qI]
def eP:bI M B (x::l) H↔∃ u a,H=u::a/\dC M B x u/\bI M B l a:=by
 cases H with
 | nil=>simp[bI,jB,qI]
 | cons u a=>exact ⟨fun h=>⟨u,a,rfl,h.1,h.2⟩,fun ⟨_,_,e,b,c⟩=>by cases e; exact ⟨b,c⟩⟩
def b85:lQ M B [] b j:=by simp[lQ,jB,Qg]
def aB1:lQ M B (x::l) b j↔(∃ u,M b j=some u/\dC M B x u)/\lQ M B l b (j+1):=by rfl
def QQ:nz M B b [] j U:=by simp[nz,jB,Hu]
def YT:nz M B b (x::l) j U↔Loc M B x j U/\nz M B b l j (U+b):=by rfl
def CZ:Loc M B (.agg l) b j↔lQ M B l b j:=by rfl
def BF (h:x.isAgg=false) (a:∀ c,x ≠ .tuple c):Loc M B x b j↔∃ u,M b j=some u/\dC M B x u:=by cases x<;>first | exact absurd rfl (a _) | (simp[PV.isAgg] at h; done) | simp[Loc,dC,bG,kF]
def aET:Loc M B (.tuple l) b j↔False:=by rfl
theorem Yz:dC M B (.sl false 1 (pJ d1)) u↔dC M B (.eF d1) u:=by
 rw[lM,a8Q];have d:(pJ d1).length=d1.length:=by simp[pJ]
 have f:pJ d1 ≠ []↔d1 ≠ []:=by grind
 have g:∀ e,e∈pJ d1->e.size=1:=fun e he=>by obtain ⟨x,_,rfl⟩:=uu.1 he; rfl
 have i:∀ b c,nz M [] 1 (pJ d1) b c↔∀ (j:Nat) x,d1[j]? = some x->M b (c+j)=some (.int .u8 (x.toNat:Int)):=by
  intro b c;have one:∀ (x:UInt8) (b o:Nat),Loc M [] (.int .u8 (x.toNat:Int)) b o↔M b o=some (.int .u8 (x.toNat:Int)):=fun x b o=>by simp[Loc,bG,kF]
  unfold pJ;clear d f g;induction d1 generalizing c with
  | nil=>simp[nz,jB,Hu]
  | cons a d1 m =>
   refine Iff.trans (by rfl) (Iff.trans (and_congr (one a b c) (m (c+1))) ?_);constructor;grind
   .intro h;exact ⟨h 0 a rfl,fun j x n=>by have:=h (j+1) x (by grind); rwa [show c+(j+1)=c+1+j by omega] at this⟩
 simp_all
def uh:dC M B x.un u↔dC M B x u:=by
 cases x with
 | eF l=>exact Yz
 | pW o n a b=>rfl
 | _=>simp[PV.un,lM]
theorem aEU:Loc M B x.un b j↔Loc M B x b j:=by
 cases x with
 | eF l =>rw[BF rfl (fun a h=>by cases h),BF rfl (fun a h=>by cases h)];simp only[uh]
 | pW j n c a =>rfl
 | _=>simp[PV.un,Loc,bG]
def aJ8 (p:PV):p.un.size=p.size:=by cases p<;>rfl
theorem uG (p:PV):p.un.own=false:=by cases p<;>rfl
theorem cA0 (p:PV):p.un.un=p.un:=by cases p<;>rfl
theorem sS:∀ {b:List PV} {a:List Value},bI M B b a->b.length=a.length
 | [],a,h=>by rw[gZ] at h; simp[h]
 | p::b,a,h=>by obtain ⟨u,d,rfl,_,c⟩:=eP.1 h;simp[sS c]
theorem yI:∀ {a:List PV} {b:List Value},bI M B a b->∀ {j:Nat} {p:PV},a[j]? = some p->∃ u,b[j]? = some u/\dC M B p u
 | [],_,_,j,p,h=>by simp at h
 | q::a,b,c,j,p,h=>by
  obtain ⟨u,l,rfl,d,e⟩:=eP.1 c;cases j with
  | zero=>simp at h; subst h; exact ⟨u,by simp,d⟩
  | succ j=>obtain ⟨f,g,i⟩:=yI e h; exact ⟨f,by simpa using g,i⟩
theorem Pm:∀ {a:List PV} {c:List Value},a.length=c.length->(∀ (j:Nat) p u,a[j]? = some p->c[j]? = some u->dC M B p u)->bI M B a c
 | [],[],_,_=>gZ.2 rfl
 | p::a,u::d,b,h=>eP.2 ⟨u,d,rfl,h 0 p u rfl rfl,Pm (by grind) fun j q v hq hv=>h (j+1) q v (by grind) (by grind)⟩
 | [],_::_,b,_=>by simp at b
 | _::_,[],b,_=>by simp at b
theorem WL:∀ {a:List PV} {b o:Nat},lQ M B a b o->∀ {j:Nat} {p:PV},a[j]? = some p->∃ u,M b (o+j)=some u/\dC M B p u
 | [],_,_,_,j,p,h=>by simp at h
 | q::a,b,o,c,j,p,h=>by
  obtain ⟨d,e⟩:=aB1.1 c;cases j with
  | zero=>simp at h; subst h; simpa using d
  | succ j=>obtain ⟨u,f,g⟩:=WL e h; exact ⟨u,by rw[<- f]; congr 1; omega,g⟩
theorem OH:∀ {a:List PV} {b o:Nat},(∀ (j:Nat) p,a[j]? = some p->∃ u,M b (o+j)=some u/\dC M B p u)->lQ M B a b o
 | [],_,_,_=>b85
 | p::a,b,o,h=>aB1.2 ⟨by simpa using h 0 p rfl,OH fun j q hq=>by obtain ⟨u,c,d⟩:=h (j+1) q (by grind); grind⟩
theorem Gh:∀ {c:List PV} {a b o:Nat},nz M B a c b o->∀ {j:Nat} {p:PV},c[j]? = some p->Loc M B p b (o+j*a)
 | [],_,_,_,_,j,p,h=>by simp at h
 | q::c,a,b,o,d,j,p,h=>by
  obtain ⟨e,f⟩:=YT.1 d;cases j with
  | zero=>simp at h; subst h; simpa using e
  | succ j=>have:=Gh f h; rwa [show o+(j+1)*a=o+a+j*a by rw[C_]; omega]
theorem Cb:∀ {c:List PV} {a b o:Nat},(∀ (j:Nat) p,c[j]? = some p->Loc M B p b (o+j*a))->nz M B a c b o
 | [],_,_,_,_=>QQ
 | p::c,a,b,o,h=>YT.2 ⟨by simpa using h 0 p rfl,Cb fun j q hq=>by have:=h (j+1) q (by grind); rwa [show o+(j+1)*a=o+a+j*a by rw[C_]; omega] at this⟩
theorem aY4 {c:List PV} (f:nz M B b l j U) (d:nz M B b c j (U+l.length*b)):nz M B b (l ++ c) j U :=
 Cb fun a p e=>by
  rcases F9 a l.length with h | h
  grind [Gh]
  .have:=Gh d (by rwa [QY h] at e);rwa [show U+l.length*b+(a-l.length)*b=U+a*b by rw[Nat.add_assoc,<- rQ]; grind] at this
end
structure gQ (M M':Mem) (B B':aT):Prop where
 mem:∀ (b o:Nat) (v:Value),M b o=some v->M' b o=some v
 blk:∀ (i:Nat) (c:Nat×Nat×TypeId),B[i]? = some c->B'[i]? = some c
def gQ.refl (M:Mem) (B:aT):gQ M M B B:=⟨fun _ _ _ h=>h,fun _ _ h=>h⟩
def gQ.none {M a:Mem} {B b:aT} (h:gQ M a B b):gQ M a [] []:=⟨h.mem,fun _ _ e=>e⟩
def gQ.zero (M:Mem) (B:aT):gQ M M [] B:=⟨fun _ _ _ e=>e,fun i c e=>by simp at e⟩
variable {G c7 c9:aT} {x:PV} {l:List PV}
def gQ.trans {M':Mem} (a:gQ h M' G c7) (k:gQ M' b1 c7 c9):gQ h b1 G c9:=⟨fun b o v e=>k.mem b o v (a.mem b o v e),fun i c e=>k.blk i c (a.blk i c e)⟩
section
variable {M M':Mem} {B B':aT}
mutual
theorem Ut {B B':aT} (h:gQ M M' B B'):∀ p:PV,(∀ v,(bG M B p).1 v->(bG M' B' p).1 v)/\(∀ b o,(bG M B p).2 b o->(bG M' B' p).2 b o)
 | .int k n=>by simp only[bG,kF]; exact ⟨fun _ h=>h,fun b o ⟨u,m,e⟩=>⟨u,h.mem _ _ _ m,e⟩⟩
 | .bool _=>by simp only[bG,kF]; exact ⟨fun _ h=>h,fun b o ⟨u,m,e⟩=>⟨u,h.mem _ _ _ m,e⟩⟩
 | .str _=>by simp only[bG,kF]; exact ⟨fun _ h=>h,fun b o ⟨u,m,e⟩=>⟨u,h.mem _ _ _ m,e⟩⟩
 | .nilp=>by simp only[bG,kF]; exact ⟨fun _ h=>h,fun b o ⟨u,m,e⟩=>⟨u,h.mem _ _ _ m,e⟩⟩
 | .raw _=>by simp only[bG,kF]; exact ⟨fun _ h=>h,fun b o ⟨u,m,e⟩=>⟨u,h.mem _ _ _ m,e⟩⟩
 | .ptr i a=>by
  have g:∀ v,(∃ c,(B[i]? = some c/\c.2.2≠0)/\v=Value.pointer (some ⟨c.1,a,none⟩))->∃ c,(B'[i]? = some c/\c.2.2≠0)/\v=Value.pointer (some ⟨c.1,a,none⟩):=fun v ⟨c,q,e⟩=>⟨c,⟨h.blk _ _ q.1,q.2⟩,e⟩
  simp only[bG,kF]; exact ⟨g,fun b o ⟨u,m,e⟩=>⟨u,h.mem _ _ _ m,g u e⟩⟩
 | .eU T i=>by
  have g:∀ v,(∃ c,B[i]? = some c/\a1D T c v)->∃ c,B'[i]? = some c/\a1D T c v:=fun v ⟨c,q,e⟩=>⟨c,h.blk _ _ q,e⟩
  simp only[bG,kF]; exact ⟨g,fun b o ⟨u,m,e⟩=>⟨u,h.mem _ _ _ m,g u e⟩⟩
 | .cst e=>by
  have y:=(Ut h.none e).2;have g:∀ v,(∃ b a,v=Value.pointer (some ⟨b,a,none⟩)/\(bG M [] e).2 b a)->(∃ b a,v=Value.pointer (some ⟨b,a,none⟩)/\(bG M' [] e).2 b a):=fun v ⟨b,a,e,D⟩=>⟨b,a,e,y _ _ D⟩
  simp only[bG,kF]; exact ⟨g,fun b o ⟨u,m,e⟩=>⟨u,h.mem _ _ _ m,g u e⟩⟩
 | .sl _ w r=>by
  have y:=(H6 h.none r).2.1;have g:∀ v,(∃ A d,v=Value.slice A r.length d/\r.length<=d/\(∀ e,e∈r->e.size=w)/\(w=0->r = []/\A=none/\d=0)/\(r ≠ []->∃ b a,A=some ⟨b,a,none⟩/\Hu w (jB M [] r) b a)) ->
   (∃ A d,v=Value.slice A r.length d/\r.length<=d/\(∀ e,e∈r->e.size=w)/\(w=0->r = []/\A=none/\d=0)/\(r ≠ []->∃ b a,A=some ⟨b,a,none⟩/\Hu w (jB M' [] r) b a)):=fun v ⟨A,d,e,C,E,K,L⟩=>⟨A,d,e,C,E,K,fun q=>by obtain ⟨b,a,G,D⟩:=L q;exact ⟨b,a,G,y w b a D⟩⟩
  simp only[bG,kF]; exact ⟨g,fun b o ⟨u,m,e⟩=>⟨u,h.mem _ _ _ m,g u e⟩⟩
 | .slh i a n w=>by
  have g:∀ v,(∃ c d,(B[i]? = some c/\c.2.2≠0)/\v=Value.slice (some ⟨c.1,a,none⟩) n d/\n<=d/\a+d*w<=c.2.1)->(∃ c d,(B'[i]? = some c/\c.2.2≠0)/\v=Value.slice (some ⟨c.1,a,none⟩) n d/\n<=d/\a+d*w<=c.2.1):=fun v ⟨c,d,q,e⟩=>⟨c,d,⟨h.blk _ _ q.1,q.2⟩,e⟩
  simp only[bG,kF]; exact ⟨g,fun b o ⟨u,m,e⟩=>⟨u,h.mem _ _ _ m,g u e⟩⟩
 | .pW o n z F=>by simp only[bG,kF]; exact ⟨fun _ h=>h,fun b o ⟨u,m,e⟩=>⟨u,h.mem _ _ _ m,e⟩⟩
 | .mp l=>by
  have H:=(H6 h.none l).1;have g:∀ v,(∃ f,v=Value.func (.yield Jp) f #[]/\qI (jB M [] l) f.toList)->(∃ f,v=Value.func (.yield Jp) f #[]/\qI (jB M' [] l) f.toList):=fun v ⟨f,e,C⟩=>⟨f,e,H _ C⟩
  simp only[bG,kF]; exact ⟨g,fun b o ⟨u,m,e⟩=>⟨u,h.mem _ _ _ m,g u e⟩⟩
 | .eF l=>by
  have g:∀ v,(∃ A d,v=Value.slice A l.length d/\l.length<=d/\(l ≠ []->∃ b a,A=some ⟨b,a,none⟩/\∀ (j:Nat) x,l[j]? = some x->M b (a+j)=some (.int .u8 (x.toNat:Int)))) ->
   (∃ A d,v=Value.slice A l.length d/\l.length<=d/\(l ≠ []->∃ b a,A=some ⟨b,a,none⟩/\∀ (j:Nat) x,l[j]? = some x->M' b (a+j)=some (.int .u8 (x.toNat:Int)))):=fun v ⟨A,d,e,C,E⟩=>⟨A,d,e,C,fun q=>by obtain ⟨b,a,G,D⟩:=E q;exact ⟨b,a,G,fun j x N=>h.mem _ _ _ (D j x N)⟩⟩
  simp only[bG,kF]; exact ⟨g,fun b o ⟨u,m,e⟩=>⟨u,h.mem _ _ _ m,g u e⟩⟩
 | .func J first t=>by
  have H:=(H6 h first).1;have O:=(H6 h t).1;have g:∀ v,(∃ f c,v=Value.func J f c/\qI (jB M B first) f.toList/\qI (jB M B t) c.toList)->(∃ f c,v=Value.func J f c/\qI (jB M' B' first) f.toList/\qI (jB M' B' t) c.toList):=fun v ⟨f,c,e,C,E⟩=>⟨f,c,e,H _ C,O _ E⟩
  simp only[bG,kF]; exact ⟨g,fun b o ⟨u,m,e⟩=>⟨u,h.mem _ _ _ m,g u e⟩⟩
 | .agg F=>by have y:=H6 h F;simp only[bG]; exact ⟨fun v ⟨I,e,hv⟩=>⟨I,e,y.1 _ hv⟩,fun b o q=>y.2.2 b o q⟩
 | .tuple F=>by have y:=H6 h F;simp only[bG]; exact ⟨fun v ⟨I,e,hv⟩=>⟨I,e,y.1 _ hv⟩,fun b o q=>q⟩
theorem H6 {B B':aT} (h:gQ M M' B B'):∀ a:List PV,(∀ c,qI (jB M B a) c->qI (jB M' B' a) c)/\(∀ d b o,Hu d (jB M B a) b o->Hu d (jB M' B' a) b o)/\(∀ b o,Qg M (jB M B a) b o->Qg M' (jB M' B' a) b o)
 | []=>by simp only[jB]; exact ⟨fun c h=>by cases c<;>simpa[qI] using h,fun _ _ _ _=>trivial,fun _ _ _=>trivial⟩
 | p::a=>by
  have e:=Ut h p;have f:=H6 h a;simp only[jB];exact ⟨fun c hv=>by
   cases c with
   | nil=>simp[qI] at hv
   | cons v c=>exact ⟨e.1 _ hv.1,f.1 _ hv.2⟩,fun d b o g=>⟨e.2 _ _ g.1,f.2.1 _ _ _ g.2⟩,fun b o ⟨⟨u,i,j⟩,l⟩=>⟨⟨u,h.mem _ _ _ i,e.1 _ j⟩,f.2.2 _ _ l⟩⟩
end
def dC.mono (h:gQ M M' B B') (a:dC M B x u):dC M' B' x u:=(Ut h x).1 u a
def Loc.mono (h:gQ M M' B B') (a:Loc M B x b j):Loc M' B' x b j:=(Ut h x).2 b j a
def bI.mono (h:gQ M M' B B') {a:List Value} (b:bI M B l a):bI M' B' l a:=(H6 h l).1 a b
def nz.mono (h:gQ M M' B B') {o:Nat} (a:nz M B b l j o):nz M' B' b l j o:=(H6 h l).2.1 b j o a
def lQ.mono (h:gQ M M' B B') (a:lQ M B l b j):lQ M' B' l b j:=(H6 h l).2.2 b j a
end
mutual
def PV.flat:PV->Bool
 | .ptr _ _=>false
 | .eU _ _=>false
 | .slh _ _ _ _=>false
 | .func _ f c=>PV.flats f&&PV.flats c
 | .agg a=>PV.flats a
 | .tuple a=>PV.flats a
 | _=>true
def PV.flats:List PV->Bool
 | []=>true
 | p::a=>p.flat&&PV.flats a
end
section
variable {M:Mem} {B:aT}
mutual
theorem b0B (a:aT):∀ p:PV,p.flat=true->bG M B p=bG M a p
 | .int _ _,_=>by simp only[bG]
 | .bool _,_=>by simp only[bG]
 | .str _,_=>by simp only[bG]
 | .nilp,_=>by simp only[bG]
 | .raw _,_=>by simp only[bG]
 | .ptr _ _,h=>by simp[PV.flat] at h
 | .eU _ _,h=>by simp[PV.flat] at h
 | .slh _ _ _ _,h=>by simp[PV.flat] at h
 | .eF _,_=>by simp only[bG]
 | .pW _ _ _ _,_=>by simp only[bG]
 | .mp _,_=>by simp only[bG]
 | .cst e,_=>by simp only[bG]
 | .sl _ _ d,_=>by simp only[bG]
 | .func _ f c,h=>by simp only[PV.flat,bQ] at h;simp only[bG,Ub a f h.1,Ub a c h.2]
 | .agg b,h=>by simp only[bG,Ub a b (by simpa[PV.flat] using h)]
 | .tuple b,h=>by simp only[bG,Ub a b (by simpa[PV.flat] using h)]
theorem Ub (b:aT):∀ a:List PV,PV.flats a=true->jB M B a=jB M b a
 | [],_=>by simp only[jB]
 | p::a,h=>by simp only[PV.flats,bQ] at h;simp only[jB,b0B b p h.1,Ub b a h.2]
end
theorem dC.flat (a:aT) (b:x.flat=true) (h:dC M B x u):dC M a x u:=by grind [dC,b0B]
theorem bI.flat (b:aT) {a:List Value} (c:PV.flats l=true) (h:bI M B l a):bI M b l a:=by grind [bI,Ub]
end
abbrev gp:=List (Nat×PV)
abbrev aH:=List (Option (List PV))
def dF (k:Nat):gp->Option PV
 | []=>none
 | (j,p)::l=>if j=k then some p else dF k l
def kG (k:Nat) (p:PV):gp->gp
 | [] => [(k,p)]
 | (j,q)::l=>if j=k then (k,p)::l else if k<j then (k,p)::(j,q)::l else (j,q)::kG k p l
structure ASt where
 s:gp
 h:aH
def cu (p:PV) (v:Value) (b:Nat):Nat:=if p.own then (match v with | .slice (some a) _ _=>if a.block=b then 1 else 0 | _=>0) else 0
def jZ:gp->Array Value->Nat->Nat
 | [],_,_=>0
 | (k,p)::l,t,b=>cu p (t.getD k undef) b+jZ l t b
def iP:List PV->List Value->Nat->Nat
 | p::a,v::c,b=>cu p v b+iP a c b
 | _,_,_=>0
def wz (a:List MapEntry):List Value:=a.flatMap fun e => [e.key,e.val]
def Fb:List UInt8->List UInt8->Bool
 | [],[]=>false
 | [],_::_=>true
 | _::_,[]=>false
 | a::c,b::bs=>Nat.blt a.toNat b.toNat||(Nat.beq a.toNat b.toNat&&Fb c bs)
def YD:Value->Value->Bool
 | .string a,.string b=>Fb a.data.toList b.data.toList
 | _,_=>false
def vO:Value->Bool | .string _=>true | _=>false
def JP:Value->Value->Bool
 | .string a,.string b=>a.data.toList==b.data.toList
 | _,_=>false
def wE (e:MapEntry):List MapEntry->List MapEntry
 | [] => [e]
 | x::l=>if YD e.key x.key then e::x::l else x::wE e l
def KE (l:List MapEntry) (e:MapEntry):List MapEntry :=if (vO e.key&&l.all fun x=>vO x.key) && !(l.any fun x=>JP e.key x.key) then wE e l else l ++ [e]
def tq (a:List MapEntry):List MapEntry:=a.foldl KE []
def P9 (a:Array MapEntry):Value := .func (.yield Jp) (wz (tq a.toList)).toArray #[]
def ITN:Nat:=4243
def aDH (s:ByteArray) (a:Nat):Value := .func (.yield ITN) #[.string s,.int .i64 a] #[]
def rowAt (w:World) (b:Nat):Option (Array Value×Nat):=match w.heap[b]? with
 | some (.cells c d (0,0))=>some (c,d+1)
 | some (.map e _)=>some (#[P9 e],0)
 | some (.stringIter s a)=>some (#[aDH s a],0)
 | _=>none
def Px (h:b9.heap[b]? = r.heap[b]?):rowAt b9 b=rowAt r b:=by unfold rowAt; rw[h]
theorem JJ (h:r.heap[b]? = some (.cells K e (0,0))):rowAt r b=some (K,e+1):=by grind [rowAt]
def aHV {w:World} {a:Array MapEntry} (h:w.heap[b]? = some (.map a j)):rowAt w b=some (#[P9 a],0):=by unfold rowAt; rw[h]
theorem MK (h:rowAt r b=some (K,j)) (c:j≠0):∃ a,j=a+1/\r.heap[b]? = some (.cells K a (0,0)):=by grind [rowAt]
theorem c4Y (h:rowAt r b=some (K,0)):(∃ c d,r.heap[b]? = some (.map c d)/\K = #[P9 c])\/∃ s a,r.heap[b]? = some (.stringIter s a)/\K = #[aDH s a]:=by grind [rowAt]
def jk (w:World) (b:Nat):List Value:=match rowAt w b with | some (c,_)=>c.toList | none => []
def aW (w:World):aH->aT->Nat->Nat
 | some a::h,c::B,b=>(if c.1=b then 1 else 0)+iP a (jk w c.1) b+aW w h B b
 | none::h,_::B,b=>aW w h B b
 | _,_,_=>0
def TlS (M:Mem) (w:World) (p:PV) (v:Value):Prop :=∀ c d A n b,p = .sl true c d->v = .slice A n b->(A=none->b=0)/\(c=0->A=none)/\∀ a,A=some a->∃ e f,w.heap[a.block]? = some (.cells e f (0,0))/\a.off+b*c<=e.size/\(∀ o,a.off+d.length*c<=o->M a.block o=none)/\a.spot=none/\a.off=0
def OG:TypeId:=5
def TlT (M:Mem) (w:World) (p:PV) (v:Value):Prop :=∀ l A n b,p = .eF l->v = .slice A n b->(A=none->b=0)/\∀ a,A=some a->∃ c,w.heap[a.block]? = some (.cells c OG (0,0))/\c.size=b/\b<=maxLen/\(∀ o,l.length<=o->M a.block o=none)/\a.spot=none/\a.off=0
def TlP (M:Mem) (w:World) (p:PV) (v:Value):Prop :=∀ n c d A m b,p = .pW true n c d->v = .slice A m b->(d.length=n*c/\0<c)/\(A=none->b=0)/\∀ a,A=some a->∃ e f,w.heap[a.block]? = some (.cells e f (0,0))/\b*c<=e.size/\(∀ (j:Nat) p,d[j]? = some p->p.lit=true/\∃ u,e[j]? = some u/\dC noM [] p u/\u.oneCell'=true)/\(∀ o,M a.block o=none)/\a.spot=none/\a.off=0
structure Tl (M:Mem) (w:World) (p:PV) (v:Value):Prop where
 s:TlS M w p v
 t:TlT M w p v
 p:TlP M w p v
def Ul (c:∀ l,x ≠ .eF l) (a:TlS h r x u) (hq:∀ n z b,x ≠ .pW true n z b:=by intro _ _ _ a; cases a):Tl h r x u:=⟨a,fun l _ _ _ e _=>absurd e (c l),fun n z b _ _ _ e _=>absurd e (hq n z b)⟩
def aAE (M:Mem) (B:aT) (w:World) (b:List PV) (c:Nat×Nat×TypeId):Prop :=∃ a d,rowAt w c.1=some (a,d)/\(a.size=c.2.1/\d=c.2.2)/\b.length<=a.size/\(∀ (j:Nat) p,b[j]? = some p->∃ v,a[j]? = some v/\dC M B p v/\Tl M w p v/\v.oneCell'=true)/\∀ o,M c.1 o=none
def tK (M:Mem) (B:aT) (w:World) (h:aH):Prop:=h.length=B.length/\∀ (i:Nat) a,h[i]? = some (some a)->∃ c,B[i]? = some c/\aAE M B w a c
def fp (B:aT) (a:ASt) (t:Array Value) (w:World) (b:Nat):Nat:=jZ a.s t b+aW w a.h B b
def kD (s:gp):Prop:=s.Pairwise fun a b=>a.1<b.1
structure Inv (n:Nat) (M:Mem) (B:aT) (out:Nat->Nat) (σ:ASt) (t:Array Value) (w:World):Prop where
 size:t.size=n
 mem:∀ (b o:Nat) (v:Value),M b o=some v->w.cell? ⟨b,o,none⟩=some v/\v.oneCell'=true
 jo:kD σ.s
 slots:∀ k p,dF k σ.s=some p->k<n/\dC M B p (t.getD k undef)/\Tl M w p (t.getD k undef)
 heap:tK M B w σ.h
 cnt:∀ b,fp B σ t w b+out b<=1
 new:∀ b,w.heap.size<=b->fp B σ t w b+out b=0
structure Fr (f:Nat->Nat) (M:Mem) (w:World) (M':Mem) (w':World):Prop where
 os:w'.os=w.os
 tape:w'.tape=w.tape
 output:w'.output=w.output
 size:w.heap.size<=w'.heap.size
 blk:∀ b,b<w.heap.size->f b=0->w'.heap[b]? = w.heap[b]? /\ ∀ o,M' b o=M b o
def Fr.refl (f:Nat->Nat) (M:Mem) (w:World):Fr f M w M w:=⟨rfl,rfl,rfl,dO _,fun _ _ _=>⟨rfl,fun _=>rfl⟩⟩
theorem Fr.trans {f g:Nat->Nat} {M':Mem} {w':World} (a:Fr f h r M' w') (k:Fr g M' w' b1 b9) (e:∀ b,b<r.heap.size->f b=0->g b=0):Fr f h r b1 b9 :=⟨k.os.trans a.os,k.tape.trans a.tape,k.output.trans a.output,jO a.size k.size,fun b c d=>by obtain ⟨i,j⟩:=a.blk b c d;obtain ⟨k1,k2⟩:=k.blk b (VF c a.size) (e b c d);simp_all⟩
def Fr.mono {g:Nat->Nat} (a:Fr b' h r b1 b9) (d:∀ b,b<r.heap.size->g b=0->b' b=0):Fr g h r b1 b9 :=⟨a.os,a.tape,a.output,a.size,fun b c e=>a.blk b c (d b c e)⟩
structure Good (n:Nat) (out:Nat->Nat) (M:Mem) (B:aT) (σ:ASt) (t:Array Value) (w:World) (M':Mem) (B':aT) (σ':ASt) (t':Array Value) (w':World):Prop where
 inv:Inv n M' B' out σ' t' w'
 le:gQ M M' B B'
 fr:Fr (fp B σ t w) M w M' w'
 own:∀ b,b<w.heap.size->fp B' σ' t' w' b<=fp B σ t w b
variable {c':ASt}
def Good.refl (a:Inv b h G b' c' K r):Good b b' h G c' K r h G c' K r :=⟨a,gQ.refl _ _,Fr.refl _ _ _,fun _ _=>dO _⟩
def Good.trans {g:Mem} {d e:ASt} {i j:Array Value} {w1 w2:World}
 (a:Good b b' h G c' K r b1 c7 d i w1) (k:Good b b' b1 c7 d i w1 g c9 e j w2):Good b b' h G c' K r g c9 e j w2 :=
 ⟨k.inv,a.le.trans k.le,a.fr.trans k.fr (fun c f l=>by have:=a.own c f; omega),fun c f=>jO (k.own c (VF f a.fr.size)) (a.own c f)⟩
theorem TM (h:b≠j):(K.setIfInBounds b u).getD j undef=K.getD j undef:=by simp[h]
theorem Xv (h:b<K.size):(K.setIfInBounds b u).getD b undef=u:=by simp[h]
def Ep {b:Nat×PV} {l:gp}:kD (b::l)↔(∀ a,a∈l->b.1<a.1)/\kD l:=by simp[kD]
theorem b1C {k:Nat} {p:PV}:∀ {s:gp} {a:Nat×PV},a∈kG k p s->a=(k,p)\/a∈s
 | [],a,h=>by simpa[kG] using h
 | (j,q)::l,a,h=>by
  rw[kG] at h;split at h
  grind
  .split at h
   simp_all
   .rcases jy.1 h with h | h
    .exact .inr (by simp[h])
    .rcases b1C h with h | h
     .exact .inl h
     .exact .inr (by simp[h])
theorem JO {k:Nat} {p:PV}:∀ {s:gp},kD s->kD (kG k p s)
 | [],_=>by simp[kG,kD]
 | (j,q)::l,h=>by
  obtain ⟨d,f⟩:=Ep.1 h;rw[kG];split
  .rename_i e; subst e; exact Ep.2 ⟨d,f⟩
  .split
   .rename_i c; exact Ep.2 ⟨fun a b=>by
     rcases jy.1 b with rfl | b
     .exact c
     .exact Nat.lt_trans c (d a b),h⟩
   .exact Ep.2 ⟨fun a b=>by
     rcases b1C b with rfl | b
     .omega
     .exact d a b,JO f⟩
def Uc {k:Nat}:∀ {s:gp},(∀ a,a∈s->k<a.1)->dF k s=none
 | [],_=>rfl
 | (j,q)::l,h=>by have:=h (j,q) (by simp);rw[dF,aX (by omega)];exact Uc fun a b=>h a (by simp[b])
theorem JM {k:Nat} {p:PV} (j:Nat):∀ {s:gp},kD s->dF j (kG k p s)=if k=j then some p else dF j s
 | [],_=>by rfl
 | (i,q)::l,h=>by
  obtain ⟨c,b⟩:=Ep.1 h;rw[kG];split
  .rename_i e; subst e; simp only[dF]; split<;>rfl
  .split
   .simp only[dF]
   .rw[dF,JM j b,dF];by_cases a:i=j
    .subst a; rw[ay rfl,ay rfl,aX (by omega)]
    .rw[aX a,aX a]
def a8Z {k:Nat} {p:PV}:∀ {s:gp},dF k s=some p->(k,p)∈s
 | [],h=>by simp[dF] at h
 | (j,q)::l,h=>by
  rw[dF] at h;split at h
  .rename_i e; subst e; injection h with h; subst h; simp
  .exact List.mem_cons_of_mem _ (a8Z h)
def aFP {k:Nat} {v:Value} {t:Array Value} {b:Nat}:∀ {l:gp},(∀ a,a∈l->a.1≠k)->jZ l (t.setIfInBounds k v) b=jZ l t b
 | [],_=>rfl
 | (j,q)::l,h=>by rw[jZ,jZ,TM (Ne.symm (h (j,q) (by simp))),aFP fun a c=>h a (by simp[c])]
def uD (s:gp) (t:Array Value) (k b:Nat):Nat:=match dF k s with | some q=>cu q (t.getD k undef) b | none=>0
def Yk {k:Nat} {p:PV} {v:Value} {t:Array Value} {b:Nat} (hk:k<t.size):∀ {s:gp},kD s->jZ (kG k p s) (t.setIfInBounds k v) b+uD s t k b=jZ s t b+cu p v b
 | [],_=>by simp[kG,jZ,uD,dF,hk]
 | (j,q)::l,h=>by
  obtain ⟨f,m⟩:=Ep.1 h;rw[kG];split
  .rename_i e; subst e;have g:∀ a,a∈l->a.1≠j:=fun a c=>by have:=f a c; omega
   simp only[jZ,Xv hk,aFP g,uD,dF,FC];omega
  .split
   .rename_i d i;have g:∀ a,a∈(j,q)::l->a.1≠k:=fun a c=>by
     rcases jy.1 c with rfl | c
     .exact d
     .have:=f a c; omega
    have n:dF k ((j,q)::l)=none:=Uc fun a c=>by
     rcases jy.1 c with rfl | c
     .exact i
     .have:=f a c; omega
    rw[jZ,Xv hk,aFP g,uD,n];show _+0=_;omega
   .rename_i d o;have r:=Yk (p:=p) (v:=v) (b:=b) hk m;have u:uD ((j,q)::l) t k b=uD l t k b:=by simp only[uD,dF,aX d]
    rw[jZ,jZ,TM (Ne.symm d)];omega
theorem UM (p:PV) (v:Value) (b:Nat):cu p.un v b=0:=by simp[cu,uG]
theorem gY (h:x.own=false) (v:Value) (b:Nat):cu x v b=0:=by simp[cu,h]
theorem J9 {s:gp} {t:Array Value} {k b:Nat}:uD s t k b<=jZ s t b:=by
 induction s with
 | nil=>simp[uD,dF]
 | cons a l c =>grind [uD,dF,jZ]
theorem ig (a:x.own=false):Tl h r x u:=⟨fun c d A n b e _=>by grind [PV.own],fun l A n b e _=>by grind [PV.own],fun n z f A m b e _=>by grind [PV.own]⟩
section
variable {n:Nat} {M:Mem} {B:aT} {out:Nat->Nat} {σ:ASt} {t:Array Value} {w:World}
theorem Tl.kept {c:Mem} {d:World} {v:Value} (h:Tl M w x v) (r:∀ b,cu x v b=1->d.heap[b]? = w.heap[b]? /\ ∀ o,c b o=M b o):Tl c d x v:=by
 refine ⟨fun i j A n a e ev => ?_,fun l A n a e ev => ?_,fun n z q A m a e ev => ?_⟩
 .obtain ⟨f,u,g⟩:=h.s i j A n a e ev;grind [cu,PV.own]
 .obtain ⟨f,g⟩:=h.t l A n a e ev;grind [cu,PV.own]
 .obtain ⟨y,f,g⟩:=h.p n z q A m a e ev;grind [cu,PV.own]
theorem Inv.put (a:Inv n M B out σ t w) {k:Nat} (hk:k<n) {p:PV} {v:Value} (l:dC M B p v) (g:p.own=false) :
 Good n out M B σ t w M B { σ with s:=kG k p σ.s } (t.setIfInBounds k v) w:=by
 have c:∀ b,fp B { σ with s:=kG k p σ.s } (t.setIfInBounds k v) w b<=fp B σ t w b:=fun b=>by have:=Yk (p:=p) (v:=v) (b:=b) (by rw[a.size]; exact hk:k<t.size) a.jo;rw[gY g] at this;show jZ (kG k p σ.s) (t.setIfInBounds k v) b+aW w σ.h B b<=jZ σ.s t b+aW w σ.h B b;omega
 refine ⟨⟨by simp[a.size],a.mem,JO a.jo,fun j q d => ?_,a.heap,fun b=>by have:=a.cnt b; have:=c b; omega,fun b i=>by have:=a.new b i; have:=c b; omega⟩,gQ.refl _ _,Fr.refl _ _ _,fun b _=>c b⟩;rw[JM j a.jo] at d;split at d
 .rename_i e; subst e; rw[Xv (by rw[a.size]; exact hk)];grind [ig]
 .rename_i f;rw[TM f];exact a.slots j q d
theorem Inv.clr (a:Inv n M B out σ t w) {k:Nat} {p:PV} (g:dF k σ.s=some p):Inv n M B out { σ with s:=kG k p.un σ.s } t w/\∀ b,fp B { σ with s:=kG k p.un σ.s } t w b+cu p (t.getD k undef) b=fp B σ t w b:=by
 have hk:=(a.slots k p g).1;have f:k<t.size:=by rw[a.size]; exact hk
 have l:t.setIfInBounds k (t.getD k undef)=t:=by apply Array.ext (by simp);intro i o r;by_cases h:k=i;simp_all;simp_all
 have d:∀ b,jZ (kG k p.un σ.s) t b+cu p (t.getD k undef) b=jZ σ.s t b:=fun b=>by have:=Yk (p:=p.un) (v:=t.getD k undef) (b:=b) f a.jo;rw[UM] at this;grind [uD]
 refine ⟨⟨a.size,a.mem,JO a.jo,fun j q c => ?_,a.heap,fun b=>by have:=a.cnt b; grind [fp],fun b m=>by have:=a.new b m; grind [fp]⟩,fun b=>by have:=d b; simp only[fp]; omega⟩;rw[JM j a.jo] at c;split at c
 .rename_i e; subst e; injection c with c; subst c
  exact ⟨hk,uh.2 (a.slots _ _ g).2.1,ig (uG _)⟩
 .exact a.slots j q c
theorem Inv.c3O (a:Inv n M B out σ t w) {k:Nat} (hk:k<n) {p:PV} {v:Value} (l:dC M B p v) (m:Tl M w p v) (h:∀ b,fp B σ t w b+cu p v b+out b<=1) (i:∀ b,w.heap.size<=b->cu p v b=0) :
 Inv n M B out { σ with s:=kG k p σ.s } (t.setIfInBounds k v) w/\∀ b,fp B { σ with s:=kG k p σ.s } (t.setIfInBounds k v) w b<=fp B σ t w b+cu p v b:=by
 have c:∀ b,fp B { σ with s:=kG k p σ.s } (t.setIfInBounds k v) w b<=fp B σ t w b+cu p v b:=fun b=>by have:=Yk (p:=p) (v:=v) (b:=b) (by rw[a.size]; exact hk:k<t.size) a.jo;simp only[fp]; omega
 refine ⟨⟨by simp[a.size],a.mem,JO a.jo,fun j q d => ?_,a.heap,fun b=>by have:=h b; have:=c b; omega,fun b g=>by have:=a.new b g; have:=c b; have:=i b g; omega⟩,c⟩;rw[JM j a.jo] at d;split at d
 .rename_i e; subst e; rw[Xv (by rw[a.size]; exact hk)];simp_all
 .rename_i f;rw[TM f];exact a.slots j q d
end
section
variable {n:Nat} {M M':Mem} {B B':aT} {out:Nat->Nat} {σ:ASt} {t:Array Value} {w w':World}
theorem BN:∀ {cs:List PV} {vs:List Value} {j:Nat} {p:PV} {v:Value} (b:Nat),cs[j]? = some p->vs[j]? = some v->cu p v b<=iP cs vs b
 | [],_,_,_,_,_,h,_=>by simp at h
 | _::_,[],_,_,_,_,_,h=>by simp at h
 | q::cs,u::vs,0,p,v,b,a,c=>by grind [iP]
 | q::cs,u::vs,j+1,p,v,b,a,c=>by have:=BN b (by simpa using a) (by simpa using c); rw[iP]; omega
theorem nY:∀ {h:aH} {B:aT} {i:Nat} {a:List PV} {c:Nat×Nat×TypeId} (b:Nat),h[i]? = some (some a)->B[i]? = some c->(if c.1=b then 1 else 0)+iP a (jk w c.1) b<=aW w h B b
 | [],_,_,_,_,_,h,_=>by simp at h
 | _::_,[],_,_,_,_,_,h=>by simp at h
 | some g::h,d::B,0,a,c,b,e,f=>by grind [aW]
 | none::h,d::B,0,a,c,b,e,f=>by simp at e
 | some g::h,d::B,i+1,a,c,b,e,f=>by have:=nY b (by simpa using e) (by simpa using f); rw[aW]; omega
 | none::h,d::B,i+1,a,c,b,e,f=>by have:=nY b (by simpa using e) (by simpa using f); rw[aW]; omega
theorem J8:∀ {h:aH} {B:aT} (b:Nat),(∀ (i:Nat) a c,h[i]? = some (some a)->B[i]? = some c->jk w' c.1=jk w c.1)->aW w' h B b=aW w h B b
 | [],_,_,_=>by simp[aW]
 | some _::_,[],_,_=>by simp[aW]
 | none::_,[],_,_=>by simp[aW]
 | some e::h,d::B,b,H=>by rw[aW,aW,J8 b (fun i a c f g=>H (i+1) a c (by grind) (by grind)),H 0 e d rfl rfl]
 | none::h,d::B,b,H=>by rw[aW,aW,J8 b (fun i a c f g=>H (i+1) a c (by grind) (by grind))]
def a81 {x:List PV} {c:Nat×Nat×TypeId}:∀ {h:aH} {B:aT} (b:Nat),h.length=B.length->aW w (h ++ [some x]) (B ++ [c]) b=aW w h B b+((if c.1=b then 1 else 0)+iP x (jk w c.1) b)
 | [],[],b,_=>by simp[aW]
 | some a::h,d::B,b,H=>by simp only[pF,aW]; rw[a81 b (by simpa using H)]; omega
 | none::h,d::B,b,H=>by simp only[pF,aW]; rw[a81 b (by simpa using H)]
 | [],_::_,_,H=>by simp at H
 | _::_,[],_,H=>by simp at H
theorem Ri {b:Nat} (h:w'.heap[b]? = w.heap[b]?):jk w' b=jk w b:=by unfold jk; rw[Px h]
theorem ww {b:Nat} {a:Array Value} {c:Nat} (h:rowAt w b=some (a,c)):jk w b=a.toList:=by unfold jk; rw[h]
theorem tK.at (h:tK M B w σ.h) {i:Nat} (a:σ.h[i]? = some (some l)) {c:Nat×Nat×TypeId} (d:B[i]? = some c):aAE M B w l c:=by obtain ⟨e,b,f⟩:=h.2 i l a;simp_all
def UL {b:Nat} (a:Inv n M B out σ t w) (h:1<=fp B σ t w b+out b):b<w.heap.size:=by
 rcases F9 b w.heap.size with h' | h'
 .exact h'
 .have:=a.new b h'; omega
theorem Inv.ext (a:Inv n M B out σ t w) (f:gQ M M' B B) (g:∀ (b o:Nat) (v:Value),M' b o=some v->w'.cell? ⟨b,o,none⟩=some v/\v.oneCell'=true)
 (u:∀ b,1<=fp B σ t w b->w'.heap[b]? = w.heap[b]? /\ ∀ o,M' b o=M b o) (x:w.heap.size<=w'.heap.size) :
 Inv n M' B out σ t w'/\∀ b,fp B σ t w' b=fp B σ t w b:=by
 have D:∀ (i:Nat) l c,σ.h[i]? = some (some l)->B[i]? = some c->1<=fp B σ t w c.1:=fun i l c e m=>by have:=nY (w:=w) c.1 e m;grind [fp]
 have d:∀ b,fp B σ t w' b=fp B σ t w b:=fun b=>by grind [fp,J8,Ri]
 refine ⟨⟨a.size,g,a.jo,fun k p E => ?_,⟨a.heap.1,fun i l y => ?_⟩,fun b=>by rw[d]; exact a.cnt b,fun b h=>by rw[d]; exact a.new b (jO x h)⟩,d⟩
 .obtain ⟨e,m,z⟩:=a.slots k p E;refine ⟨e,m.mono f,z.kept fun b F=>u b ?_⟩;have:=J9 (s:=σ.s) (t:=t) (k:=k) (b:=b);grind [uD,fp]
 .obtain ⟨c,A,G,H,e,m,z,I,J⟩:=a.heap.2 i l y;have q:=u c.1 (D i l c y A);refine ⟨c,A,G,H,by rw[Px q.1,e],m,z,fun j p C => ?_,fun o=>by rw[q.2]; exact J o⟩;obtain ⟨v,hv,K,L,r⟩:=I j p C;refine ⟨v,hv,K.mono f,L.kept fun b F=>u b ?_,r⟩;have N:=nY (w:=w) b y A;have O:=BN b C (by rw[ww e]; grind:(jk w c.1)[j]? = some v);simp only[fp]; omega
def Inv.drew (a:Inv n M B out σ t w):Inv n M B out σ t w.drew/\Good n out M B σ t w M B σ t w.drew:=by have:=a.ext (w':=w.drew) (gQ.refl _ _) (fun b o v h=>a.mem b o v h) (fun b _=>⟨rfl,fun _=>rfl⟩) (dO _);exact ⟨this.1,this.1,gQ.refl _ _,⟨rfl,rfl,rfl,dO _,fun _ _ _=>⟨rfl,fun _=>rfl⟩⟩,fun b _=>by rw[this.2]; omega⟩
def laid (M:Mem) (b:Nat) (c:List Value):Mem:=Ce M.m fun a o=>if a=b then c[o]? else M a o
theorem GY (a:Inv n M B out σ t w) (o:Nat):M w.heap.size o=none:=by
 cases b:M w.heap.size o with
 | none=>rfl
 | some v=>have:=Af _ _ (a.mem _ o v b).1; simp at this
theorem GX {M:Mem} {c:Nat} (h:∀ o,M c o=none) (a:List Value) (b o:Nat):laid M c a b o=if b=c then a[o]? else M b o:=Iy (a6E h) b o
theorem KH (c:Inv n M B out σ t w) (a:List Value):gQ M (laid M w.heap.size a) B B :=⟨fun b o v h=>by grind [GX,GY],fun _ _ h=>h⟩
theorem Inv.lay (c:Inv n M B out σ t w) (a:Array Value) (g:TypeId) (k:Nat) (i:∀ v,v∈a->v.oneCell'=true) :
 Good n out M B σ t w (laid M w.heap.size (a.toList.take k)) B σ t (w.alloc (.cells a g))/\∀ b,fp B σ t (w.alloc (.cells a g)) b=fp B σ t w b:=by
 have d:=KH c (a.toList.take k);have f:∀ b,1<=fp B σ t w b->(w.alloc (.cells a g)).heap[b]? = w.heap[b]? /\ ∀ o,laid M w.heap.size (a.toList.take k) b o=M b o:=fun b f=>by have:=UL c (by omega:1<=fp B σ t w b+out b);grind [Below.heap_alloc,GX,GY]
 have:=c.ext d (fun b o v h=>by
  by_cases e:b=w.heap.size;grind [GX,GY,World.cell?_alloc_new]
  .rw[GX (GY c),aX e] at h;rw[T_ _ _ _ e]; exact c.mem b o v h) f (by simp)
 refine ⟨⟨this.1,d,⟨rfl,rfl,rfl,by simp,fun b f _=>⟨NJ _ _ _ f,fun o=>by rw[GX (GY c),aX (by omega)]⟩⟩,fun b _=>by rw[this.2]; omega⟩,this.2⟩
theorem Inv.aZ9 (f:Inv n M B out σ t w) (d:Array Value) (l:TypeId) (g:List PV) (L:g.length<=d.size)
 (N:∀ (j:Nat) p,g[j]? = some p->∃ v,d[j]? = some v/\dC M (B ++ [(w.heap.size,d.size,l+1)]) p v/\Tl M w p v/\v.oneCell'=true/\∀ b,cu p v b=0) :
 Good n out M B σ t w M (B ++ [(w.heap.size,d.size,l+1)]) { σ with h:=σ.h ++ [some g] } t (w.alloc (.cells d l)):=by
 have m:gQ M M B (B ++ [(w.heap.size,d.size,l+1)]):=⟨fun _ _ _ h=>h,fun i c h=>by rw[Ba (jr.1 h).1]; exact h⟩;obtain ⟨A,O⟩:=(f.ext (w':=w.alloc (.cells d l)) (gQ.refl _ _) (fun b o v h=>by have:=Af _ _ (f.mem b o v h).1;simp only at this;rw[T_ _ _ _ (by simp; omega)]; exact f.mem b o v h) (fun b r=>⟨NJ _ _ _ (UL f (by omega)),fun _=>rfl⟩) (by simp));have hC:∀ b,iP g d.toList b=0:=fun b=>by
  have Q:∀ (g:List PV) (z:List Value),(∀ (j:Nat) p,g[j]? = some p->∃ v,z[j]? = some v/\∀ b,cu p v b=0)->iP g z b=0:=by
   intro g;induction g with
   | nil=>grind [iP]
   | cons p ps S =>
    intro z h;obtain ⟨v,hv,K⟩:=h 0 p rfl;cases z with
    | nil=>simp at hv
    | cons u z =>simp at hv; subst hv;rw[iP,K,S z fun j q hq=>by obtain ⟨v,hv,K⟩:=h (j+1) q (by grind); simp_all]
  grind
 have C:jk (w.alloc (.cells d l)) w.heap.size=d.toList:=ww (JJ (aA1 w _));have x:∀ b,fp (B ++ [(w.heap.size,d.size,l+1)]) { σ with h:=σ.h ++ [some g] } t (w.alloc (.cells d l)) b=fp B σ t w b+if w.heap.size=b then 1 else 0:=fun b=>by have:=O b;simp only[fp] at this ⊢;rw[a81 b f.heap.1,C];grind
 have y:∀ (i:Nat) (a:List PV),(σ.h ++ [some g])[i]? = some (some a)->(i<σ.h.length/\σ.h[i]? = some (some a))\/(i=σ.h.length/\a=g):=fun i a h=>by grind
 refine ⟨⟨f.size,A.mem,f.jo,fun k p T => ?_,⟨by simp[f.heap.1],fun i a U => ?_⟩,fun b => ?_,fun b r => ?_⟩,m,⟨rfl,rfl,rfl,by simp,fun b r _=>⟨NJ _ _ _ r,fun _=>rfl⟩⟩,fun b r=>by rw[x,aX (by omega)]; omega⟩
 .obtain ⟨D,E,F⟩:=A.slots k p T;exact ⟨D,E.mono m,F⟩
 .rcases y i a U with ⟨V,G⟩|⟨rfl,rfl⟩
  .obtain ⟨c,X,H,I,D,E,F,Y,Z⟩:=A.heap.2 i a G;exact ⟨c,m.blk _ _ X,H,I,D,E,F,fun j p J=>by obtain ⟨v,a1,a2,a3,a4⟩:=Y j p J; exact ⟨v,a1,a2.mono m,a3,a4⟩,Z⟩
  .refine ⟨(w.heap.size,d.size,l+1),by rw[f.heap.1]; simp,d,l+1,JJ (aA1 w _),⟨rfl,rfl⟩,L,fun j p J => ?_,fun o => ?_⟩
   .obtain ⟨v,a1,a2,a3,a4,a5⟩:=N j p J;refine ⟨v,a1,a2,?_,a4⟩;exact a3.kept fun b r=>by rw[a5] at r; omega
   .cases hm:M w.heap.size o with
    | none=>rfl
    | some v=>have:=Af _ _ (f.mem _ o v hm).1; simp at this
 .rw[x];have:=f.cnt b;split
  .rename_i e; subst e; have:=f.new _ (dO _); omega
  .omega
 .rw[x];simp at r;have:=f.new b (by omega);rw[aX (by omega)]; omega
theorem Inv.b'Z (d:Inv n M B out σ t w) (A:Obj) (g:Array Value) (T:Nat) (m:rowAt (w.alloc A) w.heap.size=some (g,T)) (f:List PV) (N:f.length<=g.size)
 (O:∀ (j:Nat) p,f[j]? = some p->∃ v,g[j]? = some v/\dC M (B ++ [(w.heap.size,g.size,T)]) p v/\Tl M w p v/\v.oneCell'=true/\∀ b,cu p v b=0) :
 Good n out M B σ t w M (B ++ [(w.heap.size,g.size,T)]) { σ with h:=σ.h ++ [some f] } t (w.alloc A):=by
 have l:gQ M M B (B ++ [(w.heap.size,g.size,T)]):=⟨fun _ _ _ h=>h,fun i c h=>by rw[Ba (jr.1 h).1]; exact h⟩;obtain ⟨C,Q⟩:=(d.ext (w':=w.alloc A) (gQ.refl _ _) (fun b o v h=>by have:=Af _ _ (d.mem b o v h).1;simp only at this;rw[T_ _ _ _ (by simp; omega)]; exact d.mem b o v h) (fun b r=>⟨NJ _ _ _ (UL d (by omega)),fun _=>rfl⟩) (by simp));have hC:∀ b,iP f g.toList b=0:=fun b=>by
  have S:∀ (f:List PV) (z:List Value),(∀ (j:Nat) p,f[j]? = some p->∃ v,z[j]? = some v/\∀ b,cu p v b=0)->iP f z b=0:=by
   intro f;induction f with
   | nil=>grind [iP]
   | cons p ps U =>
    intro z h;obtain ⟨v,hv,L⟩:=h 0 p rfl;cases z with
    | nil=>simp at hv
    | cons u z =>simp at hv; subst hv;rw[iP,L,U z fun j q hq=>by obtain ⟨v,hv,L⟩:=h (j+1) q (by grind); simp_all]
  grind
 have D:jk (w.alloc A) w.heap.size=g.toList:=ww (m);have x:∀ b,fp (B ++ [(w.heap.size,g.size,T)]) { σ with h:=σ.h ++ [some f] } t (w.alloc A) b=fp B σ t w b+if w.heap.size=b then 1 else 0:=fun b=>by have:=Q b;simp only[fp] at this ⊢;rw[a81 b d.heap.1,D];grind
 have y:∀ (i:Nat) (a:List PV),(σ.h ++ [some f])[i]? = some (some a)->(i<σ.h.length/\σ.h[i]? = some (some a))\/(i=σ.h.length/\a=f):=fun i a h=>by grind
 refine ⟨⟨d.size,C.mem,d.jo,fun k p V => ?_,⟨by simp[d.heap.1],fun i a X => ?_⟩,fun b => ?_,fun b r => ?_⟩,l,⟨rfl,rfl,rfl,by simp,fun b r _=>⟨NJ _ _ _ r,fun _=>rfl⟩⟩,fun b r=>by rw[x,aX (by omega)]; omega⟩
 .obtain ⟨E,F,G⟩:=C.slots k p V;exact ⟨E,F.mono l,G⟩
 .rcases y i a X with ⟨Y,H⟩|⟨rfl,rfl⟩
  .obtain ⟨c,Z,I,J,E,F,G,h4,h5⟩:=C.heap.2 i a H;exact ⟨c,l.blk _ _ Z,I,J,E,F,G,fun j p K=>by obtain ⟨v,a1,a2,a3,a4⟩:=h4 j p K; exact ⟨v,a1,a2.mono l,a3,a4⟩,h5⟩
  .refine ⟨(w.heap.size,g.size,T),by rw[d.heap.1]; simp,g,T,m,⟨rfl,rfl⟩,N,fun j p K => ?_,fun o => ?_⟩
   .obtain ⟨v,a1,a2,a3,a4,a5⟩:=O j p K;refine ⟨v,a1,a2,?_,a4⟩;exact a3.kept fun b r=>by rw[a5] at r; omega
   .cases hm:M w.heap.size o with
    | none=>rfl
    | some v=>have:=Af _ _ (d.mem _ o v hm).1; simp at this
 .rw[x];have:=d.cnt b;split
  .rename_i e; subst e; have:=d.new _ (dO _); omega
  .omega
 .rw[x];simp at r;have:=d.new b (by omega);rw[aX (by omega)]; omega
def Inv.newObj (f:Inv n M B out σ t w) (a:Array Value) (e:TypeId) (d:List PV) (g:d.length<=a.size)
 (l:∀ (j:Nat) p,d[j]? = some p->∃ v,a[j]? = some v/\dC M B p v/\Tl M w p v/\v.oneCell'=true/\∀ b,cu p v b=0) :
 Good n out M B σ t w M (B ++ [(w.heap.size,a.size,e+1)]) { σ with h:=σ.h ++ [some d] } t (w.alloc (.cells a e)) :=
 f.aZ9 a e d g fun j p m=>by obtain ⟨v,a1,a2,a3⟩:=l j p m;exact ⟨v,a1,a2.mono ⟨fun _ _ _ h=>h,fun i c h=>by rw[Ba (jr.1 h).1]; exact h⟩,a3⟩
theorem Inv.setCell (E:Inv n M B out σ t w) {i j:Nat} {c:Nat×Nat×TypeId} (I:σ.h[i]? = some (some l)) (J:B[i]? = some c) (hm:c.2.2≠0) (hj:j<l.length) {p:PV} {v:Value}
 (hr:dC M B p v) (hT:Tl M w p v) (z:v.oneCell'=true) (V:∀ b,fp B σ t w b+cu p v b+out b<=1) (X:∀ b,w.heap.size<=b->cu p v b=0) :
 Inv n M B out { σ with h:=σ.h.set i (some (l.set j p)) } t (w.setCell ⟨c.1,j,none⟩ v)/\(∀ b,fp B { σ with h:=σ.h.set i (some (l.set j p)) } t (w.setCell ⟨c.1,j,none⟩ v) b<=fp B σ t w b+cu p v b) /\
 Fr (fp B σ t w) M w M (w.setCell ⟨c.1,j,none⟩ v)/\w.frozen? ⟨c.1,j,none⟩=false/\(w.cell? ⟨c.1,j,none⟩).isSome=true:=by
 obtain ⟨S,ty,r1,o2,o3,o4,o5⟩:=E.heap.at I J;obtain ⟨ty,rfl,o1⟩:=MK r1 (by rw[o2.2]; exact hm);have Y:w.setCell ⟨c.1,j,none⟩ v=w.setRow c.1 (S.setIfInBounds j v):=setCell_eq_setRow w c.1 j S ty (0,0) v o1;have b9:1<=fp B σ t w c.1:=by have:=nY (w:=w) c.1 I J;grind [fp]
 have m:∀ b,b≠c.1->(w.setCell ⟨c.1,j,none⟩ v).heap[b]? = w.heap[b]? := fun b D=>Below.heap_setCell _ _ _ _ D
 have F:(w.setCell ⟨c.1,j,none⟩ v).heap[c.1]? = some (.cells (S.setIfInBounds j v) ty (0,0)):=by rw[Y]; grind [setRow_heap]
 have Z:j<S.size:=by omega
 have a':∀ (a:Nat) f g,a≠i->σ.h[a]? = some (some f)->B[a]? = some g->g.1≠c.1:=by
  have H:∀ (h:aH) (B:aT) (i a:Nat) l f c g,a<i->h[i]? = some (some l)->B[i]? = some c->h[a]? = some (some f)->B[a]? = some g->c.1=g.1->2<=aW w h B c.1:=by
   intro h;induction h with
   | nil=>simp
   | cons x h K =>
    intro B i a l f c g b0 z y A G he;cases B with
    | nil=>simp at y
    | cons d B =>
     cases i with
     | zero=>omega
     | succ i =>
      simp at z y;cases a with
      | zero =>simp at A G; subst A; subst G;have:=nY (w:=w) c.1 z y;grind [aW]
      | succ a =>simp at A G;have:=K B i a l f c g (by omega) z y A G he;cases x<;>rw[aW]<;>omega
  grind [fp]
 have L:∀ (a:Nat) f g,σ.h[a]? = some (some f)->B[a]? = some g->a≠i->jk (w.setCell ⟨c.1,j,none⟩ v) g.1=jk w g.1:=fun a f g z y C=>Ri (m _ (a' a f g C z y))
 have N:∀ b,fp B { σ with h:=σ.h.set i (some (l.set j p)) } t (w.setCell ⟨c.1,j,none⟩ v) b<=fp B σ t w b+cu p v b:=fun b=>by
  have H:∀ (l:List PV) (T:List Value) (j:Nat),iP (l.set j p) (T.set j v) b<=iP l T b+cu p v b:=by
   intro l;induction l with
   | nil=>grind [iP]
   | cons q qs K =>
    intro T j;cases T with
    | nil=>simp[iP]
    | cons u T =>
     cases j with
     | zero=>grind [iP]
     | succ j=>have:=K T j; grind [iP]
  have YB:∀ (h:aH) (B:aT) (i:Nat),h[i]? = some (some l)->B[i]? = some c->(∀ (a:Nat) f g,h[a]? = some (some f)->B[a]? = some g->a≠i->jk (w.setCell ⟨c.1,j,none⟩ v) g.1=jk w g.1) ->
   aW (w.setCell ⟨c.1,j,none⟩ v) (h.set i (some (l.set j p))) B b<=aW w h B b+cu p v b:=by
   intro h;induction h with
   | nil=>simp
   | cons x h K =>
    intro B i z y A;cases B with
    | nil=>simp at y
    | cons d B =>
     cases i with
     | zero =>simp at z y; subst z; subst y;have e1:=J8 (w':=w.setCell ⟨d.1,j,none⟩ v) (w:=w) (h:=h) (B:=B) b (fun a f g a1 a2=>A (a+1) f g (by grind) (by grind) (by omega));simp only[List.set_cons_zero,aW];rw[e1,ww (JJ F),ww r1,b3M];have:=H l S.toList j;omega
     | succ i =>
      simp at z y;have:=K B i z y (fun a f g a1 a2 a3=>A (a+1) f g (by grind) (by grind) (by omega));cases x with
      | none=>grind [aW]
      | some ds =>have e:=A 0 ds d rfl rfl (by omega);grind [aW]
  have:=YB σ.h B i I J L;simp only[fp]; omega
 have b5:∀ b,cu p v b=1->b≠c.1:=fun b D e=>by grind
 refine ⟨⟨E.size,fun b o u h => ?_,E.jo,fun k q hq => ?_,⟨by simp[E.heap.1],fun a f r => ?_⟩,fun b=>by have:=N b; have:=V b; omega,fun b D => ?_⟩,N,⟨rfl,rfl,rfl,by simp_all,fun b D h0=>⟨m b fun e=>by grind,fun _=>rfl⟩⟩,by simp[World.frozen?,o1],by simp[World.cell?,o1,Z]⟩
 .have hm:=E.mem b o u h;have b':b≠c.1:=fun e=>by simp_all
  grind [World.cell?_of_block]
 .obtain ⟨s1,s2,s3⟩:=E.slots k q hq;refine ⟨s1,s2,s3.kept fun b D=>⟨m b fun e => ?_,fun _=>rfl⟩⟩;subst e;have e1:=J9 (s:=σ.s) (t:=t) (k:=k) (b:=c.1);simp only[uD,hq] at e1;have e2:=E.cnt c.1;have e3:=nY (w:=w) c.1 I J;grind [fp]
 .by_cases C:a=i
  .subst C;rw[QZ (jr.1 I).1] at r;injection r with r; injection r with r; subst r
   refine ⟨c,J,S.setIfInBounds j v,ty+1,JJ F,by grind,by grind,fun U q hq => ?_,o5⟩;by_cases O:j=U
   .subst O;rw[QZ hj] at hq; injection hq with hq; subst hq
    exact ⟨v,by simp[Z],hr,hT.kept fun b D=>⟨m b (b5 b D),fun _=>rfl⟩,z⟩
   .rw[Ad O] at hq;obtain ⟨u,a1,a2,a3,a4⟩:=o4 U q hq;refine ⟨u,by rw[b3L O]; exact a1,a2,a3.kept fun b D=>⟨m b fun e => ?_,fun _=>rfl⟩,a4⟩;subst e;have e2:=E.cnt c.1;have e3:=nY (w:=w) c.1 I J;have e4:=BN c.1 hq (by rw[ww r1]; grind:(jk w c.1)[U]? = some u);grind [fp]
  .rw[Ad (Ne.symm C)] at r;obtain ⟨g,Q,b6,b7,a1,a2,a3,a4,a5⟩:=E.heap.2 a f r;have b8:=a' a f g C r Q;refine ⟨g,Q,b6,b7,by rw[Px (m _ b8)]; exact a1,a2,a3,fun U q hq => ?_,a5⟩;obtain ⟨u,b1,b2,b3,b4⟩:=a4 U q hq;refine ⟨u,b1,b2,b3.kept fun b D=>⟨m b fun e => ?_,fun _=>rfl⟩,b4⟩;subst e;have H:∀ (h:aH) (B:aT) (i a:Nat),i≠a->h[i]? = some (some l)->B[i]? = some c->h[a]? = some (some f)->B[a]? = some g->2<=aW w h B c.1:=by
    intro h;induction h with
    | nil=>simp
    | cons x h K =>
     intro B i a b0 z y A G;have e4:=BN c.1 hq (by rw[ww a1]; grind:(jk w g.1)[U]? = some u);cases B with
     | nil=>simp at y
     | cons d B =>
      cases i with
      | zero =>
       cases a with
       | zero=>omega
       | succ a =>simp at z y A G; subst z; subst y;have:=nY (w:=w) d.1 A G;rw[aW,ay rfl]; omega
      | succ i =>
       simp at z y;cases a with
       | zero =>simp at A G; subst A; subst G;have:=nY (w:=w) c.1 z y;grind [aW]
       | succ a =>simp at A G;have:=K B i a (by omega) z y A G;cases x<;>rw[aW]<;>omega
   have e2:=E.cnt c.1;have:=H σ.h B i a (Ne.symm C) I J r Q;grind [fp]
 .have:=N b;simp[World.setCell] at D;have e1:=E.new b D;have e2:=X b D;omega
theorem Inv.setRow (E:Inv n M B out σ t w) {i j:Nat} {c:Nat×Nat×TypeId} (I:σ.h[i]? = some (some l)) (J:B[i]? = some c) {vs:Array Value} {T:Nat} (r1:rowAt w c.1=some (vs,T)) (hj:j<l.length) {v:Value}
 (hr:dC M B x v) (hT:Tl M w x v) (A:v.oneCell'=true) (Y:∀ b,fp B σ t w b+cu x v b+out b<=1) (Z:∀ b,w.heap.size<=b->cu x v b=0)
 {w':World} (r:∀ b,b≠c.1->w'.heap[b]? = w.heap[b]?) (K:rowAt w' c.1=some (vs.setIfInBounds j v,T)) (b6:w'.os=w.os) (b7:w'.tape=w.tape) (b8:w'.output=w.output) (a':w'.heap.size=w.heap.size) :
 Inv n M B out { σ with h:=σ.h.set i (some (l.set j x)) } t w'/\(∀ b,fp B { σ with h:=σ.h.set i (some (l.set j x)) } t w' b<=fp B σ t w b+cu x v b) /\
 Fr (fp B σ t w) M w M w':=by
 obtain ⟨b0,ty,H,o2,o3,o4,o5⟩:=E.heap.at I J;rw[r1] at H;injection H with H; injection H with e1 e2; subst e1; subst e2
 have c3:1<=fp B σ t w c.1:=by have:=nY (w:=w) c.1 I J;grind [fp]
 have b9:j<vs.size:=by omega
 have b5:∀ (f:Nat) g m,f≠i->σ.h[f]? = some (some g)->B[f]? = some m->m.1≠c.1:=by
  have L:∀ (h:aH) (B:aT) (i f:Nat) l g c m,f<i->h[i]? = some (some l)->B[i]? = some c->h[f]? = some (some g)->B[f]? = some m->c.1=m.1->2<=aW w h B c.1:=by
   intro h;induction h with
   | nil=>simp
   | cons a h N =>
    intro B i f l g c m b' A z C F he;cases B with
    | nil=>simp at z
    | cons d B =>
     cases i with
     | zero=>omega
     | succ i =>
      simp at A z;cases f with
      | zero =>simp at C F; subst C; subst F;have:=nY (w:=w) c.1 A z;grind [aW]
      | succ f =>simp at C F;have:=N B i f l g c m (by omega) A z C F he;cases a<;>rw[aW]<;>omega
  grind [fp]
 have O:∀ (f:Nat) g m,σ.h[f]? = some (some g)->B[f]? = some m->f≠i->jk w' m.1=jk w m.1:=fun f g m A z D=>Ri (r _ (b5 f g m D A z))
 have Q:∀ b,fp B { σ with h:=σ.h.set i (some (l.set j x)) } t w' b<=fp B σ t w b+cu x v b:=fun b=>by
  have L:∀ (l:List PV) (V:List Value) (j:Nat),iP (l.set j x) (V.set j v) b<=iP l V b+cu x v b:=by
   intro l;induction l with
   | nil=>grind [iP]
   | cons q qs N =>
    intro V j;cases V with
    | nil=>simp[iP]
    | cons u V =>
     cases j with
     | zero=>grind [iP]
     | succ j=>have:=N V j; grind [iP]
  have YB:∀ (h:aH) (B:aT) (i:Nat),h[i]? = some (some l)->B[i]? = some c->(∀ (f:Nat) g m,h[f]? = some (some g)->B[f]? = some m->f≠i->jk w' m.1=jk w m.1) ->
   aW w' (h.set i (some (l.set j x))) B b<=aW w h B b+cu x v b:=by
   intro h;induction h with
   | nil=>simp
   | cons a h N =>
    intro B i A z C;cases B with
    | nil=>simp at z
    | cons d B =>
     cases i with
     | zero =>simp at A z; subst A; subst z;have e1:=J8 (w':=w') (w:=w) (h:=h) (B:=B) b (fun f g m a1 a2=>C (f+1) g m (by grind) (by grind) (by omega));grind [aW,ww,Array.toList_setIfInBounds]
     | succ i =>
      simp at A z;have:=N B i A z (fun f g m a1 a2 a3=>C (f+1) g m (by grind) (by grind) (by omega));cases a with
      | none=>grind [aW]
      | some ds =>have e:=C 0 ds d rfl rfl (by omega);grind [aW]
  have:=YB σ.h B i I J O;simp only[fp]; omega
 have c0:∀ b,cu x v b=1->b≠c.1:=fun b G e=>by grind
 refine ⟨⟨E.size,fun b o u h => ?_,E.jo,fun k q hq => ?_,⟨by simp[E.heap.1],fun f g y => ?_⟩,fun b=>by have:=Q b; have:=Y b; omega,fun b G => ?_⟩,Q,⟨b6,b7,b8,Hg a'.symm,fun b G h0=>⟨r b fun e=>by grind,fun _=>rfl⟩⟩⟩
 .have hm:=E.mem b o u h;have c4:b≠c.1:=fun e=>by simp_all
  grind [World.cell?_of_block]
 .obtain ⟨s1,s2,s3⟩:=E.slots k q hq;refine ⟨s1,s2,s3.kept fun b G=>⟨r b fun e => ?_,fun _=>rfl⟩⟩;subst e;have e1:=J9 (s:=σ.s) (t:=t) (k:=k) (b:=c.1);simp only[uD,hq] at e1;have e2:=E.cnt c.1;have e3:=nY (w:=w) c.1 I J;grind [fp]
 .by_cases D:f=i
  .subst D;rw[QZ (jr.1 I).1] at y;injection y with y; injection y with y; subst y
   refine ⟨c,J,vs.setIfInBounds j v,T,K,by grind,by grind,fun X q hq => ?_,o5⟩;by_cases S:j=X
   .subst S;rw[QZ hj] at hq; injection hq with hq; subst hq
    exact ⟨v,by simp[b9],hr,hT.kept fun b G=>⟨r b (c0 b G),fun _=>rfl⟩,A⟩
   .rw[Ad S] at hq;obtain ⟨u,a1,a2,a3,a4⟩:=o4 X q hq;refine ⟨u,by rw[b3L S]; exact a1,a2,a3.kept fun b G=>⟨r b fun e => ?_,fun _=>rfl⟩,a4⟩;subst e;have e2:=E.cnt c.1;have e3:=nY (w:=w) c.1 I J;have e4:=BN c.1 hq (by rw[ww r1]; grind:(jk w c.1)[X]? = some u);grind [fp]
  .rw[Ad (Ne.symm D)] at y;obtain ⟨m,U,b0,c1,a1,a2,a3,a4,a5⟩:=E.heap.2 f g y;have c2:=b5 f g m D y U;refine ⟨m,U,b0,c1,by rw[Px (r _ c2)]; exact a1,a2,a3,fun X q hq => ?_,a5⟩;obtain ⟨u,b1,b2,b3,b4⟩:=a4 X q hq;refine ⟨u,b1,b2,b3.kept fun b G=>⟨r b fun e => ?_,fun _=>rfl⟩,b4⟩;subst e;have L:∀ (h:aH) (B:aT) (i f:Nat),i≠f->h[i]? = some (some l)->B[i]? = some c->h[f]? = some (some g)->B[f]? = some m->2<=aW w h B c.1:=by
    intro h;induction h with
    | nil=>simp
    | cons a h N =>
     intro B i f b' A z C F;have e4:=BN c.1 hq (by rw[ww a1]; grind:(jk w m.1)[X]? = some u);cases B with
     | nil=>simp at z
     | cons d B =>
      cases i with
      | zero =>
       cases f with
       | zero=>omega
       | succ f =>simp at A z C F; subst A; subst z;have:=nY (w:=w) d.1 C F;rw[aW,ay rfl]; omega
      | succ i =>
       simp at A z;cases f with
       | zero =>simp at C F; subst C; subst F;have:=nY (w:=w) c.1 A z;grind [aW]
       | succ f =>simp at C F;have:=N B i f (by omega) A z C F;cases a<;>rw[aW]<;>omega
   have e2:=E.cnt c.1;have:=L σ.h B i f (Ne.symm D) I J y U;grind [fp]
 .have:=Q b;rw[a'] at G;have e1:=E.new b G;have e2:=Z b G;omega
end
structure TI where
 size:Nat
 bytes:Nat
 agg:Bool
 zero:List PV
def pg:Value->PV
 | .int k n => .int k n
 | .bool b => .bool b
 | .string s => .str s
 | .pointer none => .nilp
 | .slice none n c=>if n=0/\c=0 then .sl true 0 [] else .raw (.slice none n c)
 | .func a f c=>if f.isEmpty/\c.isEmpty then .func a [] [] else .raw (.func a f c)
 | v => .raw v
def J5 (z:Nat) (o:Bool) (a:List PV):PV:=match Nat.blt 1000000 z with
 | true => .pW o 0 (z-1000000) []
 | false => .sl o z a
def PV.Gx (z:Nat):PV->PV
 | .sl o s a=>if s=0 then J5 z o a else .sl o s a
 | p=>p
theorem aZB {d:Bool} (a:dC h G (.sl d 0 l) u):dC h G (J5 b g l) u:=by
 obtain ⟨A,c,rfl,e,m,f,n⟩:=lM.1 a;obtain ⟨i,h6,j⟩:=f rfl; subst i;unfold J5;split
 .exact aHN.2 ⟨A,c,rfl,Dc _⟩
 .exact lM.2 ⟨A,c,rfl,e,by simp,fun _=>⟨rfl,h6,j⟩,by simp⟩
def b_2:(J5 b g l).own=g:=by unfold J5; split<;>rfl
theorem aZC:Tl h r (J5 b g l) (.slice none l.length 0):=by
 unfold J5;split
 .refine ⟨(fun _ _ _ _ _ e _=>by cases e),(fun _ _ _ _ e _=>by cases e),fun n f j A m d e ev => ?_⟩;grind [Nat.blt_eq]
 .refine Ul (fun a c=>by cases c) ?_;intro f i A n d e ev;grind
def Rh (P:Program):Nat->TypeId->List Nat
 | 0,_ => []
 | k+1,t=>match P.underlying t with
  | some (.slice e) => [match P.info? e with | some i=>i.size | none=>0]
  | some (.struct a)=>a.toList.flatMap fun f=>Rh P k f.type
  | some (.array n e)=>(List.replicate n (Rh P k e)).flatten
  | _ => [0]
def a7Z (v:Value):Option PV:=if v.oneCell' then some (pg v) else none
def aVN:TypeDesc->Bool
 | .struct _=>true
 | .array _ _=>true
 | _=>false
def ti (P:Program) (t:TypeId):Option TI :=
 match P.info? t with
 | none=>none
 | some i=>match i.zero,P.underlying t with
  | some z,some d=>if z.cells.toList.all (·.oneCell')&&z.cells.size==i.size then some ⟨i.size,i.bytes,aVN d,z.cells.toList.map pg⟩ else none
  | _,_=>none
def fieldsOf (P:Program) (t:TypeId):Option (List (Nat×Nat×Bool)) :=
 match P.underlying t with
 | some (.struct a)=>a.toList.mapM fun f=>(ti P f.type).map fun i=>(f.offset,i.size,i.agg)
 | _=>none
def yf (P:Program) (t:TypeId):Option TypeId:=match P.underlying t with | some (.slice e)=>some e | _=>none
def nV (P:Program) (t:TypeId):Option TI:=(yf P t).bind (ti P)
def IA (P:Program) (t:TypeId):Option (Nat×TI):=match P.underlying t with | some (.array n e)=>(ti P e).map fun i=>(n,i) | _=>none
theorem Z4 (d:u.oneCell'=true):dC h G (pg u) u:=by
 cases u with
 | int k n=>rfl
 | bool b=>rfl
 | string s=>rfl
 | pointer a=>cases a with
  | none=>rfl
  | some a=>exact Ej.2 ⟨rfl,d⟩
 | slice a n c=>cases a with
  | none =>
   simp only[pg];split
   .rename_i e; obtain ⟨rfl,rfl⟩:=e;exact lM.2 ⟨none,0,rfl,dO _,by simp,fun _=>⟨rfl,rfl,rfl⟩,by simp⟩
   .exact Ej.2 ⟨rfl,d⟩
  | some a=>exact Ej.2 ⟨rfl,d⟩
 | func j f c =>
  simp only[pg];split
  .have g:f = #[]:=by grind
   have i:c = #[]:=by grind
   subst g; subst i;exact DC.2 ⟨#[],#[],rfl,gZ.2 rfl,gZ.2 rfl⟩
  .exact Ej.2 ⟨rfl,d⟩
 | _=>exact Ej.2 ⟨rfl,d⟩
theorem b3J (v:Value):(pg v).own=true->v = .slice none 0 0:=by
 intro h;cases v with
 | slice a n c=>cases a with
  | none =>grind [pg,PV.own]
  | some a=>simp[pg,PV.own] at h
 | pointer a=>cases a<;>simp[pg,PV.own] at h
 | func b f c =>grind [pg,PV.own]
 | _=>simp[pg,PV.own] at h
theorem a'E (v:Value) (b:Nat):cu (pg v) v b=0:=by unfold cu;grind [b3J]
theorem cB9 (v:Value) (l:List UInt8):pg v ≠ .eF l:=by unfold pg; split<;>first | (cases h) | grind
theorem cBA (v:Value) (n z:Nat) (a:List PV):pg v ≠ .pW true n z a:=by unfold pg; split<;>first | (cases h) | grind
theorem b2B (v:Value):Tl h r (pg v) v:=by refine Ul (cB9 v) ?_ (cBA v);intro b c A n a e ev;have:=b3J v (by rw[e]; rfl);rw[ev] at this;simp_all
theorem a_A (z:Nat) (a:dC h G x u):dC h G (x.Gx z) u:=by
 cases x with
 | sl o s b =>rw[PV.Gx];grind [aZB]
 | _=>exact a
def c4M (z:Nat) (p:PV):(p.Gx z).own=p.own:=by
 cases p with
 | sl o s a =>
  rw[PV.Gx];split
  .exact b_2
  .rfl
 | _=>rfl
theorem PI (a:dC h G (.sl g 0 l) u):u = .slice none 0 0/\l = []:=by obtain ⟨A,c,rfl,b,d,e,f⟩:=lM.1 a;simp_all
def c8G (z:Nat) (b:dC h G x u) (a:Tl h r x u):Tl h r (x.Gx z) u:=by
 cases x with
 | sl o s c =>
  rw[PV.Gx];split
  .rename_i e; subst e;obtain ⟨rfl,rfl⟩:=PI b;exact aZC
  .exact a
 | _=>exact a
def Z5:List Nat->List PV->List PV
 | z::b,p::a=>p.Gx z::Z5 b a
 | _,a=>a
def PV.BQ (a:List Nat):PV->PV
 | .agg b => .agg (Z5 a b)
 | p=>p.Gx (a.headD 0)
def a_F {M:Mem} {B:aT}:∀ {c:List Nat} {a:List PV} {b:List Value},bI M B a b->bI M B (Z5 c a) b
 | [],a,b,h=>by cases a<;>exact h
 | z::c,[],b,h=>h
 | z::c,p::a,b,h=>by obtain ⟨u,d,rfl,e,f⟩:=eP.1 h;exact eP.2 ⟨u,d,rfl,a_A z e,a_F f⟩
theorem Yy (b:List Nat) (a:dC h G x u):dC h G (x.BQ b) u:=by
 cases x with
 | agg e=>obtain ⟨c,rfl,d⟩:=rF.1 a; exact rF.2 ⟨c,rfl,a_F d⟩
 | _=>exact a_A (b.headD 0) a
theorem a_G (a:List Nat) (p:PV):(p.BQ a).own=p.own:=by
 cases p with
 | agg c=>rfl
 | sl o s b=>exact c4M (a.headD 0) (.sl o s b)
 | _=>rfl
theorem a'D (a:List Nat) (p:PV) (v:Value) (b:Nat):cu (p.BQ a) v b=cu p v b:=by unfold cu; rw[a_G]
theorem b2A (b:List Nat) (c:dC h G x u) (a:Tl h r x u):Tl h r (x.BQ b) u:=by
 cases x with
 | agg d=>exact ig rfl
 | _=>exact c8G (b.headD 0) c a
def PV.Ll (z:Nat):PV->PV
 | .sl o s a=>if s=0 then J5 z true a else .sl o s a
 | p=>p
def AB:List Nat->List PV->List PV
 | z::b,p::a=>p.Ll z::AB b a
 | _,a=>a
theorem c44 (z:Nat) (a:dC h G x u):dC h G (x.Ll z) u:=by
 cases x with
 | sl o s b =>rw[PV.Ll];grind [aZB]
 | _=>exact a
theorem c8F (z:Nat) (b:dC h G x u) (a:Tl h r x u):Tl h r (x.Ll z) u:=by
 cases x with
 | sl o s c =>
  rw[PV.Ll];split
  .rename_i e; subst e;obtain ⟨rfl,rfl⟩:=PI b;exact aZC
  .exact a
 | _=>exact a
theorem c02 {M:Mem} {B:aT} (z:Nat) (a:dC M B x u) (b:Nat):cu (x.Ll z) u b=cu x u b:=by
 cases x with
 | sl o s c =>rw[PV.Ll];grind [PI,cu]
 | _=>rfl
theorem aZT {M:Mem} {B:aT} (h:a7Z u=some x):dC M B x u/\(∀ b,cu x u b=0)/\∀ w,Tl M w x u:=by grind [a7Z,Z4,a'E,b2B]
structure xq (P:Program) (t:TypeId) (I:TI) (i:TypeInfo) (z:Value) (d:TypeDesc):Prop where
 info:P.info? t=some i
 zero:i.zero=some z
 und:P.underlying t=some d
 one:∀ v,v∈z.cells->v.oneCell'=true
 a9P:z.cells.size=i.size
 size:I.size=i.size
 bytes:I.bytes=i.bytes
 agg:I.agg=aVN d
 aDJ:I.zero=z.cells.toList.map pg
variable {m:TI}
theorem JR (h:ti f e=some m):∃ i z d,xq f e m i z d:=by
 unfold ti at h;split at h
 .cases h
 .rename_i i b;split at h
  .rename_i z d c g;split at h
   .rename_i a;cases h;simp only[bQ,jq,qi] at a;exact ⟨i,z,d,b,c,g,fun v hv=>a.1 v (by grind),a.2,rfl,rfl,rfl,rfl⟩
   .cases h
  .cases h
section
variable {P:Program} {t:TypeId} {I:TI} {i:TypeInfo} {z:Value} {d:TypeDesc}
def xq.run_sizeOf (h:xq P t I i z d) (w:World):(sizeOf t).run P w = .ok I.size w:=by simp[sizeOf,typeInfo,h.info,h.size]
def xq.aHW (h:xq P t I i z d) (w:World):(isAgg t).run P w = .ok I.agg w:=by unfold isAgg;rw[oL,gm h.und w,h.agg];cases d<;>rfl
def xq.c5B (h:xq P t I i z d) (w:World):(zeroValue t).run P w = .ok z w:=by simp[zeroValue,typeInfo,h.info,h.zero]
end
theorem aYM {d c:Type} (f:d->Option c):∀ {l:List d} {r:List c},l.mapM f=some r->∀ {j:Nat} {y:c},r[j]? = some y->∃ x,l[j]? = some x/\f x=some y
 | [],r,h,j,y,e=>by simp_all
 | a::l,r,h,j,y,e=>by
  cases i:f a with
  | none=>grind
  | some b =>
   cases g:l.mapM f with
   | none=>simp_all
   | some bs =>
    simp[i,g] at h;subst h;cases j with
    | zero=>simp_all
    | succ j=>obtain ⟨x,m,n⟩:=aYM f g (by simpa using e); simp_all
theorem aNM {c:List (Nat×Nat×Bool)} (h:fieldsOf f e=some c) {z:Nat} (m:c[b]? = some (j,z,g)) :
 ∃ l a I i n d,f.underlying e=some (.struct l)/\l[b]? = some a/\a.offset=j/\xq f a.type I i n d/\I.size=z/\I.agg=g:=by
 unfold fieldsOf at h;split at h
 .obtain ⟨a,p,q⟩:=aYM _ h m;grind [ti,JR]
 .cases h
theorem Fg (h:nV f e=some m):∃ a i z d,f.underlying e=some (.slice a)/\xq f a m i z d:=by grind [nV,yf,JR]
theorem L_ (h:IA f e=some (b,m)):∃ a i z d,f.underlying e=some (.array b a)/\xq f a m i z d:=by
 unfold IA at h;split at h
 grind [ti,JR]
 .cases h
def PV.one:PV->Bool
 | .agg _=>false
 | .tuple _=>false
 | _=>true
def zG (a:List PV) (o z:Nat) (g:Bool):Option PV :=if g then (if o+z<=a.length then some (.agg ((a.drop o).take z)) else none) else (a[o]?).bind fun p=>if p.one then some p.un else none
def ZM (q:PV) (o z:Nat) (g:Bool):Option PV :=
 match q with
 | .ptr i a=>some (.ptr i (a+o))
 | .cst (.agg b)=>(zG b o z g).map .cst
 | _=>none
def TW (c:BinOp) (k:IntKind) (a b:Int):Option PV :=
 match c with
 | .add=>some (.int k (k.wrap (a+b)))
 | .sub=>some (.int k (k.wrap (a-b)))
 | .mul=>some (.int k (k.wrap (a*b)))
 | .quo=>if b=0 then none else some (.int k (k.wrap (a.tdiv b)))
 | .rem=>if b=0 then none else some (.int k (a.tmod b))
 | .and=>some (.int k (k.wrap (BitVec.ofInt k.bits a &&& BitVec.ofInt k.bits b).toNat))
 | .or=>some (.int k (k.wrap (BitVec.ofInt k.bits a ||| BitVec.ofInt k.bits b).toNat))
 | .eql=>some (.bool (a==b))
 | .neq=>some (.bool (a != b))
 | .lss=>some (.bool (decide (a<b)))
 | .leq=>some (.bool (decide (a<=b)))
 | .gtr=>some (.bool (decide (b<a)))
 | .geq=>some (.bool (decide (b<=a)))
 | _=>none
def Ue (c:BinOp) (k:IntKind) (a b:Int):Option PV :=
 if b<0 then none else match c with
 | .shl=>some (.int k (k.wrap (a*2 ^ min b.toNat k.bits)))
 | .shr=>some (.int k (a.fdiv (2 ^ min b.toNat k.bits)))
 | _=>none
def ZL (c:BinOp) (a b:ByteArray):Option PV :=
 match c with
 | .add=>if a.size+b.size<=aN then some (.str (a ++ b)) else none
 | .eql=>some (.bool (a.toList==b.toList))
 | .neq=>some (.bool (!(a.toList==b.toList)))
 | _=>none
def aLR (c:BinOp) (a b:Bool):Option PV :=
 match c with
 | .eql=>some (.bool (a==b))
 | .neq=>some (.bool (!(a==b)))
 | _=>none
def J4 (b:BinOp) (a:Bool):Option PV :=
 match b with
 | .eql=>some (.bool a)
 | .neq=>some (.bool (!a))
 | _=>none
def aDC (P:Program) (t:TypeId):Bool:=P.underlying t matches some .bool
def Y6 (P:Program) (t:TypeId):Bool:=P.underlying t matches some (.pointer _)
def Tc (P:Program) (t:TypeId):Bool:=P.underlying t matches some (.func _ _ _)
def yj (P:Program) (t:TypeId):Bool:=P.underlying t matches some .string
def aVI (P:Program) (t:TypeId):Option IntKind:=match P.underlying t with | some (.int k)=>some k | _=>none
def WS (P:Program) (E:TypeId->PV->PV->Option Bool) (a c:List PV):List Field->Option Bool
 | []=>some true
 | f::d=>if f.name = "_" then none else match ti P f.type with
  | some I=>(match zG a f.offset I.size I.agg,zG c f.offset I.size I.agg with
   | some p,some q=>(match E f.type p q,WS P E a c d with
    | some b,some r=>some (b&&r)
    | _,_=>none)
   | _,_=>none)
  | none=>none
def WT (P:Program):Nat->TypeId->PV->PV->Option Bool
 | 0,_,_,_=>none
 | k+1,t,x,y=>match P.underlying t,x,y with
  | some (.int _),.int q a,.int c b=>if q=c then some (a==b) else none
  | some .bool,.bool a,.bool b=>some (a==b)
  | some .string,.str a,.str b=>some (a.toList==b.toList)
  | some (.struct d),.agg e,.agg f=>if P.stoodInHeld t=true then none else WS P (WT P k) e f d.toList
  | _,_,_=>none
def Fa (P:Program) (c:BinOp) (t:TypeId) (x y:PV):Option PV :=
 match x,y with
 | .int k a,.int d b =>
  (match c with
  | .shl | .shr=>Ue c k a b
  | _=>if k=d then TW c k a b else none)
 | .str a,.str b=>ZL c a b
 | .bool a,.bool b=>if aDC P t then aLR c a b else none
 | .ptr _ _,.nilp=>if Y6 P t then J4 c false else none
 | .cst _,.nilp=>if Y6 P t then J4 c false else none
 | .nilp,.nilp=>if Y6 P t then J4 c true else none
 | .func _ _ _,.raw .nilFunc=>if Tc P t then J4 c false else none
 | .raw .nilFunc,.raw .nilFunc=>if Tc P t then J4 c true else none
 | .agg e,.agg f=>if P.eqGuardType P.depth t=true then none else (WT P 12 t (.agg e) (.agg f)).bind (J4 c)
 | _,_=>none
def a9L (a:UnOp) (x:PV):Option PV :=
 match a,x with
 | .neg,.int k n=>some (.int k (k.wrap (0-n)))
 | .not,.bool b=>some (.bool (!b))
 | _,_=>none
def a2C (x:PV) (i:Nat):Option PV:=match x with | .tuple a=>(a[i]?).map PV.un | _=>none
def a7L (P:Program) (t:TypeId) (x:PV):Option PV :=
 match x with
 | .str s=>if yj P t then some (.int .i64 s.size) else none
 | .sl _ _ a=>(yf P t).map fun _ => .int .i64 a.length
 | .slh _ _ n _=>(yf P t).map fun _ => .int .i64 n
 | .pW _ n _ _=>(yf P t).map fun _ => .int .i64 n
 | _=>none
def mf:PV->Bool
 | .int k _=>k == .u8
 | _=>false
def a1I:PV->Int
 | .int _ n=>n
 | _=>0
def vF (a:List PV):Bool:=a.all mf
def strOf (a:List PV):ByteArray:=(a.map a1I).foldl (fun r n=>r.push (UInt8.ofNat n.toNat)) ByteArray.empty
def TZ (P:Program) (s:TypeId):Bool:=match P.underlying s with
 | some (.slice e)=>(match P.underlying e with | some (.int k)=>k == .u8 | _=>false)
 | _=>false
def WO (P:Program) (s d:TypeId) (x:PV):Option PV :=
 match x with
 | .sl _ _ b=>if TZ P s=true/\yj P d=true/\vF b=true then some (.str (strOf b)) else none
 | .int _ n=>match aVI P d with | some k=>(match P.underlying s with | some _=>some (.int k (k.wrap n)) | none=>none) | none=>none
 | .str a=>match P.underlying s,P.underlying d with | some .string,some .string=>some (.str a) | _,_=>none
 | _=>none
def a7T:List PV->Option PV
 | [.int k a,.int c b]=>if k=c then some (.int k (if b<a then b else a)) else none
 | _=>none
def a7S:List PV->Option PV
 | [.int k a,.int e b]=>if k=e then some (.int k (if b>a then b else a)) else none
 | [.int k a,.int k1 b,.int k2 c,.int k3 d]=>if k=k1/\k=k2/\k=k3 then some (.int k (if d>(if c>(if b>a then b else a) then c else (if b>a then b else a)) then d else (if c>(if b>a then b else a) then c else (if b>a then b else a)))) else none
 | _=>none
def yJ (P:Program) (t:TypeId) (x:PV) (c e:Option PV):Option PV :=
 let a (d:Nat):Option PV->Option Int
  | none=>some d
  | some (.int _ n)=>some n
  | _=>none
 match x with
 | .str s=>match a 0 c,a s.size e with
  | some l,some h=>if yj P t/\0<=l/\l<=h/\h<=s.size then some (.str (s.extract l.toNat h.toNat)) else none
  | _,_=>none
 | .sl _ b f=>match a 0 c,a f.length e with
  | some l,some h=>if (nV P t).map TI.size=some b/\0<=l/\l<=h/\h<=f.length then some (.sl false b ((f.take h.toNat).drop l.toNat)) else none
  | _,_=>none
 | .slh i g n b=>match a 0 c,a n e with
  | some l,some h=>if (nV P t).map TI.size=some b/\0<=l/\l<=h/\h<=n/\0<b then (if l<n then some (.slh i (g+l.toNat*b) (h.toNat-l.toNat) b) else some (.sl false b [])) else none
  | _,_=>none
 | _=>none
def Zp (P:Program) (t:TypeId) (x a b c:PV):Option PV :=
 match x,a,b,c with
 | .sl _ d e,.int _ l,.int _ h,.int _ m=>if (nV P t).map TI.size=some d/\0<=l/\l<=h/\h<=m/\m<=e.length then some (.sl false d ((e.take h.toNat).drop l.toNat)) else none
 | _,_,_,_=>none
def lG:List (Option PV)->Option (List PV)
 | []=>some []
 | none::_=>none
 | some p::l=>(lG l).map (p :: ·)
def PV.newCells (p:PV):Option (List PV):=match p with | .agg a=>if a.all PV.one then some (a.map PV.un) else none | q=>if q.one then some [q.un] else none
def IK (a:Nat->Option (Nat×Nat)):List PV->List (Nat×PV)->Option (List PV)
 | cs,[]=>some cs
 | cs,(i,p)::b=>match a i,p.newCells with
  | some (o,z),some new=>if new.length=z/\o+z<=cs.length then IK a (cs.take o ++ new ++ cs.drop (o+z)) b else none
  | _,_=>none
def wO (rd:Operand->Option PV):List (Nat×Operand)->Option (List (Nat×PV))
 | []=>some []
 | (i,x)::l=>match rd x,wO rd l with
  | some p,some a=>some ((i,p)::a)
  | _,_=>none
def JC (P:Program) (rd:Operand->Option PV) (c:Call):Option PV :=
 match c.callee with
 | .builtin .len=>(match c.args.toList,c.argTypes.toList with
  | [x],[t]=>(rd x).bind (a7L P t)
  | _,_=>none)
 | .builtin .min=>(lG (c.args.toList.map rd)).bind a7T
 | .builtin .max=>(lG (c.args.toList.map rd)).bind a7S
 | _=>none
def pop (P:Program) (rd:Operand->Option PV):Op->Option PV
 | .move x=>rd x
 | .assign x=>rd x
 | .pick c a b=>match rd c with
  | some (.bool c)=>if c then rd a else rd b
  | _=>none
 | .fieldAddr s x f=>match fieldsOf P s,rd x with
  | some p,some q=>(p[f]?).bind fun (o,z,g)=>if z=0 then none else ZM q o z g
  | _,_=>none
 | .field s x f=>match fieldsOf P s,rd x with
  | some p,some (.agg r)=>(p[f]?).bind fun (o,z,g)=>zG r o z g
  | _,_=>none
 | .indexAddr t x i=>match rd x,rd i with
  | some (.sl _ v B),some (.int _ n)=>if (nV P t).map TI.size=some v/\0<=n then (B[n.toNat]?).map .cst else none
  | some (.slh i j m v),some (.int _ n)=>if (nV P t).map TI.size=some v/\0<=n/\n<m then some (.ptr i (j+n.toNat*v)) else none
  | some (.ptr i j),some (.int _ n)=>match IA P t with
   | some (m,I)=>if 0<=n/\n<m then some (.ptr i (j+n.toNat*I.size)) else none
   | none=>none
  | some (.cst (.agg r)),some (.int _ n)=>match IA P t with
   | some (m,I)=>if 0<=n/\n<m then (zG r (n.toNat*I.size) I.size I.agg).map .cst else none
   | none=>none
  | _,_=>none
 | .index t x i=>match rd x,rd i with
  | some (.str s),some (.int _ n)=>if yj P t/\0<=n then (s[n.toNat]?).map fun b => .int .u8 b.toNat else none
  | some (.agg r),some (.int _ n)=>match IA P t with
   | some (m,I)=>if 0<=n/\n<m then zG r (n.toNat*I.size) I.size I.agg else none
   | none=>none
  | _,_=>none
 | .slice t x C D none=>match rd x with
  | some q=>match C,D with
   | none,none=>yJ P t q none none
   | some l,none=>(rd l).bind fun a=>yJ P t q (some a) none
   | none,some h=>(rd h).bind fun b=>yJ P t q none (some b)
   | some l,some h=>(rd l).bind fun a=>(rd h).bind fun b=>yJ P t q (some a) (some b)
  | none=>none
 | .slice t x (some l) (some h) (some m)=>match rd x,rd l,rd h,rd m with
  | some q,some a,some b,some c=>Zp P t q a b c
  | _,_,_,_=>none
 | .binOp w t x y _=>match rd x,rd y with
  | some a,some b=>Fa P w t a b
  | _,_=>none
 | .unOp w _ x=>(rd x).bind (a9L w)
 | .convert s d x=>(rd x).bind (WO P s d)
 | .makeFunc E first u=>match lG (first.toList.map rd),lG (u.toList.map rd) with
  | some f,some c=>some (.func E f c)
  | _,_=>none
 | .extract x i=>(rd x).bind (a2C · i)
 | .nilCheck x=>match rd x with
  | some (.ptr i o)=>some (.ptr i o)
  | some (.cst e)=>some (.cst e)
  | some (.func (.func f) a b)=>some (.func (.func f) a b)
  | _=>none
 | .build t F=>match ti P t,wO rd F.toList with
  | some I,some A=>match fieldsOf P t,IA P t with
   | some p,none=>(IK (fun i=>(p[i]?).map fun f=>(f.1,f.2.1)) (I.zero.map PV.un) A).map .agg
   | none,some (_,J)=>(IK (fun i=>some (i*J.size,J.size)) (I.zero.map PV.un) A).map .agg
   | _,_=>none
  | _,_=>none
 | .call c=>JC P rd c
 | _=>none
section
abbrev ai:=List PV
abbrev d_:=List UInt8
abbrev af (n:Int):PV:=.int .i64 n
variable {P:Program} {M:Mem} {B:aT} {L:ai} {U:Nat} {C:PV} {a':BinOp} {b2:IntKind} {b4:Int} {A:Value} {J:TypeId} {b5 d3:Array TypeId}
theorem aHQ {a:List Value} (h:bI M B L a) (o z:Nat):bI M B ((L.drop o).take z) ((a.drop o).take z):=by have b:=sS h;grind [Pm,yI]
theorem extract_toList (a:Array Value) (o z:Nat):(a.extract o (o+z)).toList=(a.toList.drop o).take z:=by simp_all
theorem c9X (p:PV):p.un.one=p.one:=by cases p<;>rfl
theorem a9B (h:bI M B L K.toList) {i:TypeInfo} {d:TypeDesc} (j:xq P e m i u d) (c:zG L b m.size m.agg=some x) (w:World) :
 ∃ v,(part e K b).run P w = .ok v w/\dC M B x v/\x.own=false:=by
 unfold zG at c;unfold part;rw[oL,j.aHW w];split at c
 .rename_i n;split at c
  .cases c;simp only[n,FC,yP,oL,j.run_sizeOf w];exact ⟨_,rfl,rF.2 ⟨_,rfl,by rw[extract_toList]; exact aHQ h _ _⟩,rfl⟩
  .cases c
 .cases l:L[b]? with
  | none=>simp_all
  | some q =>
   simp only[l,Qb] at c;split at c
   .cases c;obtain ⟨a,y,r⟩:=yI h l;have f:K[b]? = some a:=by grind
    have g:m.agg=false:=by grind
    simp only[g,f];exact ⟨a,rfl,uh.2 r,uG q⟩
   .cases c
theorem LU (a:x.one=true):Loc M B x b j↔∃ u,M b j=some u/\dC M B x u :=BF (by cases x<;>first | rfl | (simp[PV.one] at a)) (fun c e=>by grind [PV.one])
theorem b1T (h:lQ M B L b j) {z:Nat} (c:zG L U z g=some x):Loc M B x b (j+U):=by
 unfold zG at c;split at c
 .split at c
  .cases c;refine CZ.2 (OH fun a q hq => ?_);grind [WL]
  .cases c
 grind [aEU,LU,WL]
theorem h_ (b o k:Nat):(⟨b,o,none⟩:Addr).add k=⟨b,o+k,none⟩:=by grind [Addr.add]
theorem c7Z (hq:dC M B x u) {t:List (Nat×Nat×Bool)} (y:fieldsOf P e=some t) (A:t[b]? = some (j,U,g)) (D:U≠0) (m:ZM x j U g=some C) (w:World) :
 ∃ a,(Instr.fieldAt e u b).run P w = .ok a w/\dC M B C a/\C.own=false:=by
 obtain ⟨Q,F,I,i,S,d,E,G,H,J,n,K⟩:=aNM y A;subst H; subst n; subst K;have run:∀ h l,(Instr.fieldAt e (.pointer (some ⟨h,l,none⟩)) b).run P w = .ok (.pointer (some ⟨h,l+F.offset,none⟩)) w:=fun h l=>by simp[Instr.fieldAt,gm E,G,Instr.sureAddr,fieldPlace,J.run_sizeOf w,D,h_]
 unfold ZM at m;split at m
 .cases m;obtain ⟨c,L,rfl⟩:=yH.1 hq;exact ⟨_,run _ _,yH.2 ⟨c,L,rfl⟩,rfl⟩
 .rename_i N;cases hv:zG N F.offset I.size I.agg with
  | none=>simp_all
  | some r =>simp[hv] at m; subst m;obtain ⟨h,l,rfl,O⟩:=D9.1 hq;exact ⟨_,run _ _,D9.2 ⟨h,_,rfl,b1T (CZ.1 O) hv⟩,rfl⟩
 .cases m
def bWQ (h:TW a' b2 O b4=some x) (c:a' ≠ .shl/\a' ≠ .shr) (t:TypeId) (w:World) :
 ∃ v,(binOp a' t (.int b2 O) (.int b2 b4)).run P w = .ok v w/\dC M B x v/\x.own=false:=by
 cases a'<;>simp only[TW,reduceCtorEq] at h<;>first
  | (cases h; exact ⟨_,by simp[binOp,Op.intBits]; first | rfl | done,by first | exact iK.2 rfl | exact oh.2 rfl,rfl⟩)
  | (split at h; exact absurd h (by simp); rename_i d; cases h; exact ⟨_,by simp[binOp,Op.intDiv,d]; first | rfl | done,by rfl,rfl⟩)
  | (exact absurd rfl c.1)
  | (exact absurd rfl c.2)
def b0L {d:IntKind} (h:Ue a' b2 O b4=some x) (t:TypeId) (w:World) :
 ∃ v,(binOp a' t (.int b2 O) (.int d b4)).run P w = .ok v w/\dC M B x v/\x.own=false:=by
 unfold Ue at h;split at h
 .cases h
 .rename_i c;cases a'<;>simp only[reduceCtorEq] at h
  .cases h; exact ⟨_,by simp[binOp,Op.shift,c],iK.2 rfl,rfl⟩
  .cases h; exact ⟨_,by simp[binOp,Op.shift,c],iK.2 rfl,rfl⟩
theorem c7T {a b:ByteArray} (h:ZL a' a b=some x) (t:TypeId) (w:World) :
 ∃ v,(binOp a' t (.string a) (.string b)).run P w = .ok v w/\dC M B x v/\x.own=false:=by
 cases a'<;>simp only[ZL,reduceCtorEq] at h
 .split at h
  .cases h;have h':¬ (((a.size+b.size:Nat):Int)>IntKind.i64.max):=by
    have:IntKind.i64.max=9223372036854775807:=by decide
    grind [aN]
   refine ⟨_,?_,kz.2 rfl,rfl⟩;simp only[binOp,Op.stringOp,aX h'];rfl
  .cases h
 .cases h; exact ⟨_,rfl,oh.2 rfl,rfl⟩
 .cases h; exact ⟨_,rfl,oh.2 rfl,rfl⟩
theorem Fj {x y:Operand} (d:u ≠ .nilIface/\∀ c,u ≠ .agg c) (w:World):(eqGuard a' e x y u A).run P w = .ok () w:=by
 cases u with
 | nilIface=>simp_all
 | agg c=>simp_all
 | _=>cases a'<;>simp[eqGuard]
def b9X (h:P.underlying e=some .bool) (d:Nat) (a b:Bool) (w:World):(Op.equalIn (d+1) e (.bool a) (.bool b)).run P w = .ok (a==b) w:=by rw[Op.equalIn,oL,gm h w]; rfl
def aMX (h:P.underlying e=some (.pointer J)) (d:Nat) (a:Addr) (w:World):(Op.equalIn (d+1) e (.pointer (some a)) (.pointer none)).run P w = .ok false w:=by rw[Op.equalIn,oL,gm h w]; rfl
def b9' (h:P.underlying e=some (.pointer J)) (d:Nat) (w:World):(Op.equalIn (d+1) e (.pointer none) (.pointer none)).run P w = .ok true w:=by rw[Op.equalIn,oL,gm h w]; rfl
def b9Z (h:P.underlying e=some (.func b5 d3 g)) (d:Nat) (f:Fn) (a b:Array Value) (w:World):(Op.equalIn (d+1) e (.func f a b) .nilFunc).run P w = .ok false w:=by rw[Op.equalIn,oL,gm h w]; rfl
def b9Y (h:P.underlying e=some (.func b5 d3 g)) (d:Nat) (w:World):(Op.equalIn (d+1) e .nilFunc .nilFunc).run P w = .ok true w:=by rw[Op.equalIn,oL,gm h w]; rfl
def OM (h:∀ d,(Op.equalIn (d+1) e u A).run P r = .ok g r):(Op.equal e u A).run P r = .ok g r:=h 9999
theorem bWR (h:aDC P e=true):P.underlying e=some .bool:=by grind [aDC]
theorem Y7 (h:yj P e=true):P.underlying e=some .string:=by grind [yj]
theorem aDE (h:Y6 P e=true):∃ a,P.underlying e=some (.pointer a):=by grind [Y6]
theorem aVO (h:Tc P e=true):∃ a b c,P.underlying e=some (.func a b c):=by grind [Tc]
def PH (h:J4 a' g=some x) (he:(Op.equal e u A).run P r = .ok g r)
 (c:∀ a',a' = .eql\/a' = .neq->binOp a' e u A=(if a' = .eql then do pure (.bool (<- Op.equal e u A)) else do pure (.bool (!(<- Op.equal e u A))))) :
 ∃ v,(binOp a' e u A).run P r = .ok v r/\dC M B x v/\x.own=false:=by
 cases a'<;>simp only[J4,reduceCtorEq] at h
 .cases h; rw[c _ (.inl rfl)]; exact ⟨.bool g,by simp[he],oh.2 rfl,rfl⟩
 .cases h; rw[c _ (.inr rfl)]; exact ⟨.bool (!g),by simp[he],oh.2 rfl,rfl⟩
theorem aMW {d:Nat} {E:TypeId->PV->PV->Option Bool} (e:∀ t x y r,E t x y=some r->∀ a b,dC M B x a->dC M B y b->∀ w,(Op.equalIn d t a b).run P w = .ok r w) {g j:ai} {l m:Array Value} (n:bI M B g l.toList) (o:bI M B j m.toList) (w:World) :
 ∀ (c:List Field) (r:Bool),WS P E g j c=some r->(Op.eqFields d l m c).run P w = .ok r w
 | [],r,h=>by simp[WS] at h; subst h; rfl
 | f::c,r,h=>by
  rw[WS] at h;split at h
  .cases h
  .rename_i C;split at h
   .rename_i I D;split at h
    .rename_i p q F hq;split at h
     .rename_i b G H J;injection h with h; subst h
      obtain ⟨i,z,S,A⟩:=JR D;obtain ⟨u,K,L,_⟩:=a9B n A F w;obtain ⟨v,N,O,_⟩:=a9B o A hq w;have Q:=e _ _ _ _ H u v L O w;have T:=aMW e n o w c G J;rw[Op.eqFields,ay C];simp only[oL,K,N,Q,yP];cases b
      .rfl
      simp_all
     .cases h
    .cases h
   .cases h
theorem aMY:∀ (k d:Nat) (t:TypeId) (x y:PV) (r:Bool),WT P k t x y=some r->∀ a b,dC M B x a->dC M B y b->∀ w,(Op.equalIn (d+k) t a b).run P w = .ok r w
 | 0,d,t,x,y,r,h,a,b,c,e,w=>by cases h
 | k+1,d,t,x,y,r,h,a,b,c,e,w=>by
  unfold WT at h;split at h
  .split at h
   .rw[iK.1 c,iK.1 e];grind [run_equalIn_int]
   .cases h
  .rw[oh.1 c,oh.1 e];grind [run_equalIn_bool]
  .rw[kz.1 c,kz.1 e];grind [run_equalIn_string]
  .rename_i g p q i;by_cases f:P.stoodInHeld t=true;simp_all
   .rw[aX f] at h;obtain ⟨l,rfl,m⟩:=rF.1 c;obtain ⟨n,rfl,o⟩:=rF.1 e;have j:P.fieldsOf t=g:=by simp[Program.fieldsOf,i]
    rw[show d+(k+1)=(d+k)+1 from rfl,run_equalIn_struct w (d+k) t l n (by rw[j]; exact i) (by simpa using f),j];exact aMW (fun t x y r h a b c e w=>aMY k d t x y r h a b c e w) m o w g.toList r h
  .cases h
theorem b6V {p:PV} (h:Fa P a' e x C=some p) (m:dC M B x u) (n:dC M B C A) (w:World) :
 (∀ X Y:Operand,(eqGuard a' e X Y u A).run P w = .ok () w)/\∃ v,(binOp a' e u A).run P w = .ok v w/\dC M B p v/\p.own=false:=by
 unfold Fa at h;split at h
 .rw[iK.1 m,iK.1 n];refine ⟨fun _ _=>Fj ⟨by simp,by simp⟩ w,?_⟩;split at h
  .exact b0L h e w
  .exact b0L h e w
  .rename_i E F;split at h
   .rename_i g; subst g; exact bWQ h ⟨fun g=>E g,fun g=>F g⟩ e w
   .cases h
 .rw[kz.1 m,kz.1 n]; exact ⟨fun _ _=>Fj ⟨by simp,by simp⟩ w,c7T h e w⟩
 .rename_i q o;rw[oh.1 m,oh.1 n];refine ⟨fun _ _=>Fj ⟨by simp,by simp⟩ w,?_⟩;split at h
  .rename_i j;have l:=bWR j;have he:(Op.equal e (.bool q) (.bool o)).run P w = .ok (q==o) w:=OM fun d=>b9X l d q o w
   refine PH ?_ he (fun a' i=>by rcases i with rfl|rfl<;>rfl);exact h
  .cases h
 .obtain ⟨c,L,rfl⟩:=yH.1 m;rw[MI.1 n];refine ⟨fun _ _=>Fj ⟨by simp,by simp⟩ w,?_⟩;split at h
  .rename_i j;obtain ⟨g,l⟩:=aDE j;refine PH h (OM fun d=>aMX l d _ w) (fun a' i=>by rcases i with rfl|rfl<;>rfl)
  .cases h
 .obtain ⟨o,G,rfl,_⟩:=D9.1 m;rw[MI.1 n];refine ⟨fun _ _=>Fj ⟨by simp,by simp⟩ w,?_⟩;split at h
  .rename_i j;obtain ⟨g,l⟩:=aDE j;refine PH h (OM fun d=>aMX l d _ w) (fun a' i=>by rcases i with rfl|rfl<;>rfl)
  .cases h
 .rw[MI.1 m,MI.1 n];refine ⟨fun _ _=>Fj ⟨by simp,by simp⟩ w,?_⟩;split at h
  .rename_i j;obtain ⟨g,l⟩:=aDE j;refine PH h (OM fun d=>b9' l d w) (fun a' i=>by rcases i with rfl|rfl<;>rfl)
  .cases h
 .obtain ⟨f,c,rfl,_,_⟩:=DC.1 m;rw[(Ej.1 n).1];refine ⟨fun _ _=>Fj ⟨by simp,by simp⟩ w,?_⟩;split at h
  .rename_i j;obtain ⟨z,D,H,l⟩:=aVO j;refine PH h (OM fun d=>b9Z l d _ _ _ w) (fun a' i=>by rcases i with rfl|rfl<;>rfl)
  .cases h
 .rw[(Ej.1 m).1,(Ej.1 n).1];refine ⟨fun _ _=>Fj ⟨by simp,by simp⟩ w,?_⟩;split at h
  .rename_i j;obtain ⟨z,D,H,l⟩:=aVO j;refine PH h (OM fun d=>b9Y l d w) (fun a' i=>by rcases i with rfl|rfl<;>rfl)
  .cases h
 .rename_i I J;obtain ⟨N,z,_⟩:=rF.1 m;obtain ⟨O,D,_⟩:=rF.1 n;split at h
  .cases h
  .cases he:WT P 12 e (.agg I) (.agg J) with
   | none=>rw[he] at h; cases h
   | some r =>rw[he] at h;have K:(Op.equal e u A).run P w = .ok r w:=aMY 12 9988 e _ _ r he u A m n w;refine ⟨fun X Y=>by grind [run_eqGuard_agg],PH h K (fun a' i=>by rw[z]; rcases i with rfl|rfl<;>rfl)⟩
 .cases h
end
section
variable {P:Program} {M:Mem} {B:aT}
def bAM {a:Operand->Value} {o:Oper} {s:Sem Value} (h:execOp a o=(do pure (.value (<- s)))) (b:s.run P r = .ok u r):(execOp a o).run P r = .ok (.value u) r:=by rw[h]; simp[b]
variable {C:PV} {L:ai} {b5:Array TypeId} {b6:Option PV} {c4 d5:Option Value} {b4:Int}
def bZG {ty:TypeId} (h:a7L P e x=some C) (g:dC M B x u) (w:World) :
 ∃ v,(Builtin.len_ #[e] ty #[u]).run P w = .ok v w/\dC M B C v/\C.own=false:=by
 have d:∀ {n:Nat} {A:Option Addr} {c:Nat},(yf P e).map (fun _=>PV.int .i64 n)=some C->∃ v,(Builtin.len_ #[e] ty #[.slice A n c]).run P w = .ok v w/\dC M B C v/\C.own=false:=by
  intro n A c h;unfold yf at h;split at h
  .rename_i b i;simp at h; subst h;exact ⟨_,by simp[Builtin.len_,gm i]; rfl,iK.2 rfl,rfl⟩
  .simp at h
 unfold a7L at h;split at h
 .split at h
  .rename_i j; cases h;rw[kz.1 g];exact ⟨_,by simp[Builtin.len_,gm (Y7 j)]; rfl,iK.2 rfl,rfl⟩
  .cases h
 .obtain ⟨A,f,rfl,_⟩:=lM.1 g; exact d h
 .obtain ⟨c,f,_,rfl,_⟩:=BP.1 g; exact d h
 .obtain ⟨A,f,rfl,_⟩:=aHN.1 g; exact d h
 .cases h
theorem bWS (h:TZ P e=true):∃ a,P.underlying e=some (.slice a)/\P.underlying a=some (.int .u8):=by grind [TZ]
theorem b76 (c:∀ (b o:Nat) (v:Value),M b o=some v->r.cell? ⟨b,o,none⟩=some v/\v.oneCell'=true) (g:vF L=true) (h:nz M [] 1 L b j) :
 ∀ (a:Nat) v,((L.map a1I).map (Value.int .u8))[a]? = some v->r.cell? ⟨b,j+a,none⟩=some v:=by
 intro a v hv;simp only[nP,Option.map_map] at hv;obtain ⟨q,hq,rfl⟩:=NW.1 hv;have d:=Gh h hq;have f:mf q=true:=jq.1 g q (tC hq);cases q<;>simp[mf] at f
 subst f;obtain ⟨u,i,l⟩:=(BF rfl (fun n e=>by cases e)).1 d;have m:u = .int .u8 _:=iK.1 l;subst m;have:=(c _ _ _ i).1;rwa [Nat.mul_one] at this
theorem b92 {d:TypeId} (h:WO P e d x=some C) (m:dC M B x u) (w:World) (D:∀ (b o:Nat) (v:Value),M b o=some v->w.cell? ⟨b,o,none⟩=some v/\v.oneCell'=true) :
 ∃ v,(convert e d u).run P w = .ok v w/\dC M B C v/\C.own=false:=by
 unfold WO at h;split at h
 .rename_i K E f;split at h
  .rename_i r;cases h;obtain ⟨c,g,he⟩:=bWS r.1;obtain ⟨A,i,rfl,_,t,_,F⟩:=lM.1 m;refine ⟨.string (strOf f),?_,kz.2 rfl,rfl⟩;rw[run_convert_bytes_string w e d c A f.length i g he (Y7 r.2.1)];by_cases y:f = []
   .subst y;cases A with
    | none=>rfl
    | some A=>rfl
   .obtain ⟨b,l,rfl,L⟩:=F y;have N:E=1:=by
     obtain ⟨q,O,rfl⟩:=List.exists_cons_of_ne_nil y;have hq:=t q (by simp);have z:mf q=true:=jq.1 r.2.2 q (by simp);cases q<;>simp[mf] at z
     exact hq.symm
    have:=run_loadCells_list (P:=P) w ⟨b,l,none⟩ ((f.map a1I).map (Value.int .u8)) (fun j v Q=>by rw[h_]; grind [b76]);simp only[aZ] at this;exact run_bytesToString w ⟨b,l,none⟩ f.length i (f.map a1I) this
  .cases h
 .rename_i k0 n;rw[iK.1 m];unfold aVI at h;split at h
  .rename_i k hk;split at hk
   .rename_i S G;cases hk;split at h
    .rename_i H g;cases h;refine ⟨.int k (k.wrap n),?_,iK.2 rfl,rfl⟩;unfold convert;rw[oL,gm g w,yP,oL,gm G w];cases H<;>rfl
    .cases h
   .cases hk
  .cases h
 .rename_i I;rw[kz.1 m];split at h
  .rename_i g J;cases h;refine ⟨.string I,?_,kz.2 rfl,rfl⟩;unfold convert;rw[oL,gm g w,yP,oL,gm J w];rfl
  .cases h
 .cases h
theorem QO:∀ {l:List (Option PV)} {a:ai},lG l=some a->l=a.map some
 | [],a,h=>by grind [lG]
 | none::_,_,h=>by simp[lG] at h
 | some p::l,a,h=>by
  rw[lG] at h;cases b:lG l with
  | none=>grind
  | some c=>simp[b] at h; subst h; simp[QO b]
def Pj {rd:Operand->Option PV} {f:Operand->Value} (c:∀ x q,rd x=some q->dC M B q (f x)/\q.own=false):∀ {e:List Operand} {b:ai},lG (e.map rd)=some b->bI M B b (e.map f)/\∀ p,p∈b->p.own=false
 | [],b,h=>by simp[lG] at h; subst h; exact ⟨gZ.2 rfl,by simp⟩
 | x::e,b,h=>by
  have h':=QO h;cases b with
  | nil=>simp at h'
  | cons p b =>
   simp only[zV,List.cons.injEq] at h';obtain ⟨g,i⟩:=h';have d:=Pj c (by
    rw[i];have:∀ b:ai,lG (b.map some)=some b:=by
     intro b; induction b with
     | nil=>rfl
     | cons a l d=>simp[lG,d]
    exact this b)
   exact ⟨eP.2 ⟨_,_,rfl,(c _ _ g).1,d.1⟩,fun q hq=>by
    rcases jy.1 hq with rfl | hq
    .exact (c _ _ g).2
    .exact d.2 q hq⟩
theorem aHR {c:List Value} (h:bI M B [x,C] c):∃ a b,c = [a,b]/\dC M B x a/\dC M B C b:=by obtain ⟨a,f,rfl,g,d⟩:=eP.1 h;obtain ⟨b,i,rfl,j,e⟩:=eP.1 d;rw[gZ] at e; grind
def b'M (h:a7T L=some x) {vs:Array Value} (hv:bI M B L vs.toList) (w:World) :
 ∃ v,(Builtin.min_ b5 e vs).run P w = .ok v w/\dC M B x v/\x.own=false:=by
 unfold a7T at h;split at h
 .split at h
  .cases h;obtain ⟨a,b,c,d,f⟩:=aHR hv;rw[iK.1 d,iK.1 f] at c;refine ⟨_,?_,iK.2 rfl,rfl⟩;unfold Builtin.min_; rw[c];rfl
  .cases h
 .cases h
def b'C (h:a7S L=some x) {vs:Array Value} (hv:bI M B L vs.toList) (w:World) :
 ∃ v,(Builtin.max_ b5 e vs).run P w = .ok v w/\dC M B x v/\x.own=false:=by
 unfold a7S at h;split at h
 .split at h
  .cases h;obtain ⟨a,b,f,g,i⟩:=aHR hv;rw[iK.1 g,iK.1 i] at f;refine ⟨_,?_,iK.2 rfl,rfl⟩;unfold Builtin.max_; rw[f];rfl
  .cases h
 .split at h
  .cases h;obtain ⟨a,n,f,g,j⟩:=eP.1 hv;obtain ⟨b,o,rfl,i,j⟩:=eP.1 j;obtain ⟨c,d,rfl,l,m⟩:=aHR j;rw[iK.1 g,iK.1 i,iK.1 l,iK.1 m] at f;refine ⟨_,?_,iK.2 rfl,rfl⟩;unfold Builtin.max_; rw[f];rfl
  .cases h
 .cases h
def c9Z {b:UnOp} (h:a9L b x=some C) (c:dC M B x u) (w:World):∃ v,(Op.unary b u).run P w = .ok v w/\dC M B C v/\C.own=false:=by
 unfold a9L at h;split at h
 .cases h; rw[iK.1 c]; exact ⟨_,rfl,iK.2 rfl,rfl⟩
 .cases h; rw[oh.1 c]; exact ⟨_,rfl,oh.2 rfl,rfl⟩
 .cases h
theorem bAO (h:a2C x b=some C) (f:dC M B x u) (w:World):∃ v,(Instr.extract u b).run P w = .ok v w/\dC M B C v/\C.own=false:=by
 unfold a2C at h;split at h
 .rename_i g;obtain ⟨j,rfl,l⟩:=xO.1 f;cases e:g[b]? with
  | none=>grind
  | some q =>
   simp[e] at h; subst h;obtain ⟨c,m,hq⟩:=yI l e;have d:j[b]? = some c:=by grind
   exact ⟨c,by simp[Instr.extract,d],uh.2 hq,uG q⟩
 .cases h
def aFC (d:Nat):Option PV->Option Int
 | none=>some d
 | some (.int _ n)=>some n
 | _=>none
theorem UJ (h:aFC b b6=some O) (a:(b6=none/\c4=none)\/∃ p v,b6=some p/\c4=some v/\dC M B p v) :
 (b6=none/\c4=none/\O=b)\/∃ k,c4=some (.int k O):=by
 rcases a with ⟨rfl,rfl⟩|⟨p,v,rfl,rfl,c⟩
 grind [aFC]
 .cases p<;>simp[aFC] at h
  subst h; rw[iK.1 c]; simp
def aAX (c:(c4=none/\O=0)\/∃ k,c4=some (.int k O)) (d:(d5=none/\b4=b)\/∃ k,d5=some (.int k b4))
 (e:0<=O) (f:O<=b4) (i:b4<=b) (m:b<=j) (w:World):(Instr.sliceBounds g b j c4 d5 none).run P w = .ok (O.toNat,b4.toNat,j) w:=by
 rcases c with ⟨rfl,rfl⟩|⟨k,rfl⟩<;>rcases d with ⟨rfl,rfl⟩|⟨a,rfl⟩
 rfl
 .simp[Instr.sliceBounds,VI w a b4 j _ (by omega) (by omega)]
 .simp[Instr.sliceBounds,VI w k O b _ (by omega) (by omega)]
 .simp[Instr.sliceBounds,VI w a b4 j _ (by omega) (by omega),VI w k O b4.toNat _ (by omega) (by omega)]
def b6' {k1 k2 k3:IntKind} {m:Int} (a:0<=O) (c:O<=b4) (d:b4<=m) (e:m<=b) (f:b<=j) (w:World) :
 (Instr.sliceBounds true b j (some (.int k1 O)) (some (.int k2 b4)) (some (.int k3 m))).run P w = .ok (O.toNat,b4.toNat,m.toNat) w:=by
 simp[Instr.sliceBounds,VI w k3 m j _ (by omega) (by omega),VI w k2 b4 m.toNat _ (by omega) (by omega),VI w k1 O b4.toNat _ (by omega) (by omega)]
theorem c6U {Q S pc:PV} (q:Zp P e x Q S pc=some C) {l h m:Value} (T:dC M B x u) (U:dC M B Q l) (V:dC M B S h) (X:dC M B pc m) (w:World) :
 ∃ v,(Instr.sliceAt e u (some l) (some h) (some m)).run P w = .ok v w/\dC M B C v/\C.own=false:=by
 unfold Zp at q;split at q
 .rename_i o r H k1 g k2 h' k3 J;obtain ⟨A,y,rfl,K,L,hz,Y⟩:=lM.1 T;obtain rfl:=iK.1 U;obtain rfl:=iK.1 V;obtain rfl:=iK.1 X;split at q
  .rename_i Z;obtain ⟨ht,b1,b2,b3,b4⟩:=Z;cases q;obtain ⟨I,hI,N⟩:=NW.1 ht;obtain ⟨c,i,z,d,hu,hT⟩:=Fg hI;have D:P.underlying e=some (.slice (P.elem e)):=by simp[Program.elem,hu]
   have Ot:P.elem e=c:=by simp_all
   have E:(Instr.sliceAt e (.slice A H.length y) (some (.int k1 g)) (some (.int k2 h')) (some (.int k3 J))).run P w = .ok (.slice (if J.toNat=g.toNat then A else A.map (·.add (g.toNat*r))) (h'.toNat-g.toNat) (J.toNat-g.toNat)) w:=by rw[run_sliceAt_slice w e _ _ _ _ D,run_slice_any w e A H.length y D,b6' b1 b2 b3 b4 K w,yP,Ot,hT.run_sizeOf w];simp[sliced,N]
   refine ⟨_,E,lM.2 ⟨_,_,by simp only[qH,ve]; rw[Nat.min_eq_left (by omega)],?_,fun c he=>L c (ED (List.mem_of_mem_drop he)),fun h0=>by grind,?_⟩,rfl⟩;grind
   .intro O;have f:((H.take h'.toNat).drop g.toNat).length≠0:=fun c=>O (oK c)
    simp only[qH,ve] at f;obtain ⟨b,n,rfl,F⟩:=Y (fun c=>by rw[c] at f; simp at f);rw[aX (by omega)];refine ⟨b,n+g.toNat*r,by rw[A_,h_],Cb fun j C G => ?_⟩;rw[Oq,qh] at G;split at G
    .have:=Gh F G;rwa [show n+g.toNat*r+j*r=n+(g.toNat+j)*r by rw[rQ]; omega]
    .cases G
  .cases q
 .cases q
theorem a96 {hi:Option PV} (q:yJ P e x b6 hi=some C) (ha:dC M B x u) 
 (hl:(b6=none/\c4=none)\/∃ C v,b6=some C/\c4=some v/\dC M B C v) (hh:(hi=none/\d5=none)\/∃ C v,hi=some C/\d5=some v/\dC M B C v) (w:World) :
 ∃ v,(Instr.sliceAt e u c4 d5 none).run P w = .ok v w/\dC M B C v/\C.own=false:=by
 unfold yJ at q;simp only at q;split at q
 .rename_i s;rw[kz.1 ha];split at q
  .rename_i m h' O Q;split at q
   .rename_i S;obtain ⟨T,U,V,b3⟩:=S;cases q;have N:=Y7 T;have E:(c4=none/\m=0)\/∃ k,c4=some (.int k m):=by
     rcases UJ O hl with ⟨_,X,Y⟩ | r
     simp_all;simp_all
    have F:(d5=none/\h'=s.size)\/∃ k,d5=some (.int k h'):=by
     rcases UJ Q hh with ⟨_,X,Y⟩ | r
     simp_all;simp_all
    refine ⟨_,?_,kz.2 rfl,rfl⟩;rw[run_sliceAt_string w e _ _ _ _ N];simp[Instr.slice,gm N,aAX E F U V (by omega) (dO _) w]
   .cases q
  .cases q
 .rename_i o J es;obtain ⟨A,g,rfl,K,a',hz,hA⟩:=lM.1 ha;split at q
  .rename_i m h' O Q;split at q
   .rename_i S;obtain ⟨T,U,V,b3⟩:=S;cases q;obtain ⟨I,hI,L⟩:=NW.1 T;obtain ⟨f,i,z,d,N,hT⟩:=Fg hI;have G:P.underlying e=some (.slice (P.elem e)):=by simp[Program.elem,N]
    have Ot:P.elem e=f:=by simp_all
    have E:(c4=none/\m=0)\/∃ k,c4=some (.int k m):=by
     rcases UJ O hl with ⟨_,X,Y⟩ | r
     simp_all;simp_all
    have F:(d5=none/\h'=es.length)\/∃ k,d5=some (.int k h'):=by
     rcases UJ Q hh with ⟨_,X,Y⟩ | r
     simp_all;simp_all
    have y:(Instr.sliceAt e (.slice A es.length g) c4 d5 none).run P w = .ok (.slice (if g=m.toNat then A else A.map (·.add (m.toNat*J))) (h'.toNat-m.toNat) (g-m.toNat)) w:=by rw[run_sliceAt_slice w e _ _ _ _ G,run_slice_any w e A es.length g G,aAX E F U V b3 K w,yP,Ot,hT.run_sizeOf w];simp[sliced,L]
    refine ⟨_,y,lM.2 ⟨_,_,by simp only[qH,ve]; rw[Nat.min_eq_left (by omega)],?_,fun f he=>a' f (ED (List.mem_of_mem_drop he)),fun h0=>by simp_all,?_⟩,rfl⟩;grind
    .intro b0;have H:((es.take h'.toNat).drop m.toNat).length≠0:=fun f=>b0 (oK f)
     simp only[qH,ve] at H;obtain ⟨b,D,rfl,Z⟩:=hA (fun f=>by rw[f] at H; simp at H);rw[aX (by omega)];refine ⟨b,D+m.toNat*J,by rw[A_,h_],Cb fun j C hj => ?_⟩;rw[Oq,qh] at hj;split at hj
     .have:=Gh Z hj;rwa [show D+m.toNat*J+j*J=D+(m.toNat+j)*J by rw[rQ]; omega]
     .cases hj
   .cases q
  .cases q
 .rename_i i D n J;obtain ⟨c,g,b5,rfl,K,b7⟩:=BP.1 ha;split at q
  .rename_i m h' O Q;split at q
   .rename_i S;obtain ⟨T,U,V,b3,b4⟩:=S;obtain ⟨I,hI,L⟩:=NW.1 T;obtain ⟨f,i',z,d,N,hT⟩:=Fg hI;have G:P.underlying e=some (.slice (P.elem e)):=by simp[Program.elem,N]
    have Ot:P.elem e=f:=by simp_all
    have E:(c4=none/\m=0)\/∃ k,c4=some (.int k m):=by
     rcases UJ O hl with ⟨_,X,Y⟩ | r
     simp_all;simp_all
    have F:(d5=none/\h'=n)\/∃ k,d5=some (.int k h'):=by
     rcases UJ Q hh with ⟨_,X,Y⟩ | r
     simp_all;simp_all
    have y:(Instr.sliceAt e (.slice (some ⟨c.1,D,none⟩) n g) c4 d5 none).run P w = .ok (.slice (if g=m.toNat then some ⟨c.1,D,none⟩ else some ⟨c.1,D+m.toNat*J,none⟩) (h'.toNat-m.toNat) (g-m.toNat)) w:=by rw[run_sliceAt_slice w e _ _ _ _ G,run_slice_any w e _ n g G,aAX E F U V b3 K w,yP,Ot,hT.run_sizeOf w];simp[sliced,L,h_]
    split at q
    .cases q;rw[aX (by omega)] at y;refine ⟨_,y,BP.2 ⟨c,g-m.toNat,b5,rfl,by omega,?_⟩,rfl⟩;have:m.toNat*J+(g-m.toNat)*J=g*J:=by rw[<- rQ]; grind
     omega
    .cases q;refine ⟨_,y,lM.2 ⟨_,_,by rw[show h'.toNat-m.toNat=([]:ai).length by simp; omega],by simp,by simp,fun d5=>absurd d5 (by omega),fun h0=>absurd rfl h0⟩,rfl⟩
   .cases q
  .cases q
 .cases q
end
def aBN (a:Nat):∀ (l:List Value) (k:Nat) (b:Array Value),a+k+l.length<=b.size ->
 ((l.zipIdx k).foldl (fun (b:Array Value) (c:Value×Nat)=>b.setIfInBounds (a+c.2) c.1) b).toList=b.toList.take (a+k) ++ l ++ b.toList.drop (a+k+l.length)
 | [],k,b,_=>by simp
 | v::l,k,b,h=>by simp only[List.zipIdx_cons,List.foldl_cons];rw[aBN a l (k+1) _ (by simp at h ⊢; omega),b3M];have:=list_seg_step b.toList (a+k) v l (by omega);rw[show a+(k+1)=a+k+1 by omega,this];simp[Nat.add_assoc]
section
variable {P:Program} {M:Mem} {B:aT} {L:ai} {H:List Value} {Z:Operand->Value} {D S:Operand}
theorem Gw {a:ai} {b:List Value} (c:bI M B L H) (d:bI M B a b):bI M B (L ++ a) (H ++ b):=by grind [Pm,sS,yI]
theorem c4F (h:bI M B L H) (k:Nat):bI M B (L.take k) (H.take k):=by have:=aHQ h 0 k; simp_all
def c4C (h:bI M B L H) (k:Nat):bI M B (L.drop k) (H.drop k):=by have:=aHQ h k (L.length-k);have a:=sS h;rwa [VD (by simp),VD (by simp[a])] at this
theorem Pn (h:bI M B L H):bI M B (L.map PV.un) H:=by
 refine Pm (by simp[sS h]) fun j p u a b => ?_
 cases hq:L[j]? with
 | none=>simp_all
 | some q =>simp[hq] at a; subst a;obtain ⟨d,e,c⟩:=yI h hq;rw[e] at b; cases b; exact uh.2 c
def Gs (h:x.one=true) (d:dC M B x u):u.cells = #[u]/\u.oneCell'=true:=by
 cases x with
 | int k n=>rw[iK.1 d]; exact ⟨rfl,rfl⟩
 | bool b=>rw[oh.1 d]; exact ⟨rfl,rfl⟩
 | str b=>rw[kz.1 d]; exact ⟨rfl,rfl⟩
 | nilp=>rw[MI.1 d]; exact ⟨rfl,rfl⟩
 | raw a=>obtain ⟨rfl,g⟩:=Ej.1 d; refine ⟨?_,g⟩; cases u<;>first | rfl | (simp[Value.oneCell'] at g)
 | ptr i j=>obtain ⟨c,_,rfl⟩:=yH.1 d; exact ⟨rfl,rfl⟩
 | eU T i =>
  obtain ⟨c,_,t,g⟩:=Pi.1 d;by_cases m:T=0
  .obtain ⟨_,rfl⟩:=t m; exact ⟨rfl,rfl⟩
  .have g:=g m;unfold a1E at g;split at g
   .obtain ⟨_,rfl⟩:=g; exact ⟨rfl,rfl⟩
   .obtain ⟨_,rfl|rfl⟩:=g<;>exact ⟨rfl,rfl⟩
 | cst e=>obtain ⟨c,_,rfl,_⟩:=D9.1 d; exact ⟨rfl,rfl⟩
 | sl o q w=>obtain ⟨A,c,rfl,_⟩:=lM.1 d; exact ⟨rfl,rfl⟩
 | slh i j n q=>obtain ⟨A,c,_,rfl,_⟩:=BP.1 d; exact ⟨rfl,rfl⟩
 | eF l=>obtain ⟨A,c,rfl,_⟩:=a8Q.1 d; exact ⟨rfl,rfl⟩
 | pW o n q r=>obtain ⟨A,c,rfl,_⟩:=aHN.1 d; exact ⟨rfl,rfl⟩
 | mp l=>obtain ⟨f,rfl,_⟩:=a_8.1 d; exact ⟨rfl,rfl⟩
 | func y f c=>obtain ⟨f,c,rfl,_⟩:=DC.1 d; exact ⟨rfl,rfl⟩
 | agg r=>simp[PV.one] at h
 | tuple r=>simp[PV.one] at h
theorem YY {new:ai} (h:x.newCells=some new) (a:dC M B x u):bI M B new u.cells.toList/\∀ q,q∈new->q.own=false:=by
 unfold PV.newCells at h;split at h
 .split at h
  .cases h;obtain ⟨d,rfl,b⟩:=rF.1 a;exact ⟨Pn b,fun q hq=>by grind [uG]⟩
  .cases h
 .split at h
  .rename_i c;cases h;rw[(Gs c a).1];exact ⟨eP.2 ⟨u,[],rfl,uh.2 a,gZ.2 rfl⟩,fun q hq=>by rw[F8.1 hq]; exact uG x⟩
  .cases h
theorem aZ8 {new:ai} (h:x.newCells=some new) (f:dC M B x u):∀ a,a∈u.cells.toList->a.oneCell'=true:=by
 have d:=(YY h f).1;have g:∀ q,q∈new->q.one=true:=by unfold PV.newCells at h;grind [c9X]
 intro a i;obtain ⟨j,b⟩:=Jh.1 i;have n:=sS d;have l:=(jr.1 b).1;have m:new[j]? = some (new[j]'(by omega)):=kV (by omega);obtain ⟨o,e,c⟩:=yI d m;rw[e] at b; cases b;exact (Gs (g _ (dZ _)) c).2
def aBJ {d:Nat->Option (Nat×Nat)}:∀ {t:List (Nat×PV)} {u:List (Nat×Value)} {f:ai} {g:Array Value} {r:ai},IK d f t=some r->bI M B f g.toList ->
 t.length=u.length->(∀ (j:Nat) p v,t[j]? = some p->u[j]? = some v->p.1=v.1/\dC M B p.2 v.2)->∃ w,Instr.fill d g u=some w/\bI M B r w.toList
 | [],[],f,g,r,h,m,_,_=>by simp[IK] at h; subst h; exact ⟨g,rfl,m⟩
 | [],_::_,_,_,_,_,_,n,_=>by simp at n
 | _::_,[],_,_,_,_,_,n,_=>by simp at n
 | (i,p)::t,(A,v)::u,f,g,r,h,m,n,hv=>by
  obtain ⟨e,C⟩:=hv 0 (i,p) (A,v) rfl rfl;subst e;rw[IK] at h;split at h
  .rename_i o z new D E;split at h
   .have q:=(YY E C).1;have x:v.cells.size=z:=by have:=sS q; simp at this; omega
    have F:g.size=f.length:=by have:=sS m; simp at this; omega
    have l:=aBN o v.cells.toList 0 g (by simp; omega);have G:(v.cells.zipIdx.foldl (fun f (c,j)=>f.setIfInBounds (o+j) c) g)=((v.cells.toList.zipIdx 0).foldl (fun (f:Array Value) (y:Value×Nat)=>f.setIfInBounds (o+y.2) y.1) g):=by rw[<- Array.foldl_toList,Array.toList_zipIdx]
    obtain ⟨w,H,I⟩:=aBJ h (by
     rw[l];have:(v.cells.toList.length)=z:=by simpa using x
     rw[this];exact Gw (Gw (c4F m o) q) (c4C m _)) (by simpa using n) (fun j p v a b=>hv (j+1) p v (by simpa using a) (by simpa using b))
    refine ⟨w,?_,I⟩;rw[Instr.fill,D];simp only;rw[aX (by simp; omega),G];exact H
   .cases h
  .cases h
theorem aFY {rd:Operand->Option PV} {d:Operand->Value} (e:∀ x q,rd x=some q->dC M B q (d x)/\q.own=false):∀ {c:List (Nat×Operand)} {a:List (Nat×PV)},wO rd c=some a ->
 a.length=(c.map fun b=>(b.1,d b.2)).length/\∀ (j:Nat) p v,a[j]? = some p->(c.map fun b=>(b.1,d b.2))[j]? = some v->p.1=v.1/\dC M B p.2 v.2
 | [],a,h=>by grind [wO]
 | (i,x)::c,a,h=>by
  rw[wO] at h;split at h
  .rename_i p f g hq;obtain ⟨l,m⟩:=aFY e hq;grind
  .cases h
theorem b3K {z:Value} (h:∀ v,v∈z.cells->v.oneCell'=true):bI M B ((z.cells.toList.map pg).map PV.un) z.cells.toList:=by grind [Pn,Pm,Z4]
theorem c38 {b:List (Nat×Nat×Bool)} (h:fieldsOf P e=some b):∃ a,P.underlying e=some (.struct a)/\a.toList.mapM (fun f=>(P.info? f.type).map fun i=>(f.offset,i.size))=some (b.map fun f=>(f.1,f.2.1)):=by
 unfold fieldsOf at h;split at h
 .rename_i a l;refine ⟨a,l,?_⟩;generalize a.toList=L at h;induction L generalizing b with
  | nil=>simp_all
  | cons f L m =>
   rw[List.mapM_cons] at h ⊢;cases c:ti P f.type with
   | none=>grind
   | some I =>
    cases g:L.mapM (fun f=>(ti P f.type).map fun i=>(f.offset,i.size,i.agg)) with
    | none=>simp_all
    | some bs =>simp[c,g] at h;subst h;obtain ⟨i,z,d,j⟩:=JR c;rw[m g];simp[j.info,j.size]
 .cases h
theorem b73 {o:Array (Nat×Operand)} {rd:Operand->Option PV} (u:∀ a q,rd a=some q->dC M B q (Z a)/\q.own=false) (h:pop P rd (.build e o)=some x) (w:World) :
 ∃ v,(Instr.build e (o.map fun (i,a)=>(i,Z a))).run P w = .ok v w/\dC M B x v/\x.own=false:=by
 have l:(o.map fun (i,a)=>(i,Z a)).toList=o.toList.map fun F=>(F.1,Z F.2):=by simp
 rw[pop] at h;split at h
 .rename_i I G S hq;obtain ⟨i,z,d,g⟩:=JR S;obtain ⟨H,K⟩:=aFY u hq;have L:bI M B (I.zero.map PV.un) z.cells.toList:=by rw[g.aDJ]; exact b3K g.one
  split at h
  .rename_i y N O;obtain ⟨U,A,T⟩:=c38 N;cases m:IK (fun i=>(y[i]?).map fun f=>(f.1,f.2.1)) (I.zero.map PV.un) G with
   | none=>simp_all
   | some r =>
    simp[m] at h; subst h;obtain ⟨c,C,D⟩:=aBJ m L H K;refine ⟨.agg c,run_build w e _ c ?_,rF.2 ⟨c,rfl,D⟩,rfl⟩;have E:(fun (j:Nat)=>((y.map fun f=>(f.1,f.2.1)).toArray)[j]?)=fun (i:Nat)=>(y[i]?).map fun f=>(f.1,f.2.1):=by simp
    simp only[Program.built,g.info,A,g.zero,T];rw[E,l]; exact C
  .rename_i n J N O;obtain ⟨b,j,V,X,A,Q⟩:=L_ O;cases m:IK (fun i=>some (i*J.size,J.size)) (I.zero.map PV.un) G with
   | none=>simp_all
   | some r =>simp[m] at h; subst h;obtain ⟨c,C,D⟩:=aBJ m L H K;refine ⟨.agg c,run_build w e _ c ?_,rF.2 ⟨c,rfl,D⟩,rfl⟩;simp only[Program.built,g.info,A,g.zero,Q.info];rw[l,<- Q.size]; exact C
  .cases h
 .cases h
theorem b7V {c:Call} {ty:TypeId} {rd:Operand->Option PV} (e:∀ a q,rd a=some q->dC M B q (Z a)/\q.own=false) (h:JC P rd c=some x) (w:World) :
 ∃ v,(do let d<-resolve Z c ty; invoke d.target d.args:Sem Next).run P w = .ok (.value v) w/\dC M B x v/\x.own=false:=by
 obtain ⟨l,args,b⟩:=c;unfold JC at h;simp only at h;split at h
 .split at h
  .rename_i a t f n;cases m:rd a with
   | none=>grind
   | some q =>
    simp[m] at h;have o:args = #[a]:=by rw[<- Ac]; exact f
    have r:b = #[t]:=by rw[<- Ac]; exact n
    subst o; subst r;obtain ⟨v,g,i⟩:=bZG (ty:=ty) h (e _ _ m).1 w;exact ⟨v,by simp[resolve,invoke,builtin,g],i⟩
  .cases h
 .cases j:lG (args.toList.map rd) with
  | none=>grind
  | some u =>simp[j] at h;obtain ⟨f,_⟩:=Pj e j;obtain ⟨v,g,i⟩:=b'M h (vs:=args.map Z) (by simpa using f) w;exact ⟨v,by simp only[resolve,invoke,builtin,oL,NY,yP]; rw[g]; rfl,i⟩
 .cases j:lG (args.toList.map rd) with
  | none=>grind
  | some u =>simp[j] at h;obtain ⟨f,_⟩:=Pj e j;obtain ⟨v,g,i⟩:=b'C h (vs:=args.map Z) (by simpa using f) w;exact ⟨v,by simp only[resolve,invoke,builtin,oL,NY,yP]; rw[g]; rfl,i⟩
 .cases h
def aVB {A:Option Addr} {k:IntKind} {a:TypeId} {i:TypeInfo} {d:TypeDesc} (g:P.underlying e=some (.slice a)) (h:xq P a m i u d) {c f:Nat} (l:A=some ⟨c,f,none⟩)
 (o:0<=O) (p:O<b) (w:World):(Instr.indexAt e (.slice A b j) (.int k O)).run P w = .ok (.pointer (some ⟨c,f+O.toNat*m.size,none⟩)) w:=by
 subst l;simp[Instr.indexAt,asIntOf,gm g,o,p,h.run_sizeOf w,h_]
theorem bWL {rd:Operand->Option PV} (f:∀ D q,rd D=some q->dC M B q (Z D)/\q.own=false) (h:pop P rd (.indexAddr e D S)=some x) (w:World) :
 ∃ v,(Instr.indexAt e (Z D) (Z S)).run P w = .ok v w/\dC M B x v/\x.own=false:=by
 rw[pop] at h;split at h
 .rename_i o U V k n l u;have L:=(f _ _ l).1;rw[iK.1 (f _ _ u).1];split at h
  .rename_i g;obtain ⟨I,y,C⟩:=NW.1 g.1;obtain ⟨a,N,z,d,E,F⟩:=Fg y;cases O:V[n.toNat]? with
   | none=>grind
   | some q =>
    simp[O] at h; subst h;have K:=(jr.1 O).1;obtain ⟨A,Q,G,X,Y,_,hA⟩:=lM.1 L
    .obtain ⟨b,H,rfl,T⟩:=hA (fun a=>by rw[a] at K; simp at K);rw[G];refine ⟨_,aVB E F rfl g.2 (by omega) w,D9.2 ⟨b,_,rfl,?_⟩,rfl⟩;rw[C]; exact Gh T O
  .cases h
 .rename_i j H m U k n l u;rw[iK.1 (f _ _ u).1];split at h
  .rename_i g;cases h;obtain ⟨I,y,C⟩:=NW.1 g.1;obtain ⟨a,N,z,d,E,F⟩:=Fg y;obtain ⟨c,Q,J,G,_⟩:=BP.1 (f _ _ l).1;rw[G];exact ⟨_,aVB E F rfl g.2.1 (by omega) w,yH.2 ⟨c,J,by rw[C]⟩,rfl⟩
  .cases h
 .rename_i j H k n l u;rw[iK.1 (f _ _ u).1];split at h
  .rename_i m I y;split at h
   .rename_i g;cases h;obtain ⟨a,N,z,d,E,F⟩:=L_ y;obtain ⟨c,J,G⟩:=yH.1 (f _ _ l).1;rw[G];refine ⟨_,?_,yH.2 ⟨c,J,rfl⟩,rfl⟩;simp[Instr.indexAt,asIntOf,gm E,g.1,g.2,Instr.sureAddr,F.run_sizeOf w,h_]
   .cases h
  .cases h
 .rename_i cs k n l u;rw[iK.1 (f _ _ u).1];split at h
  .rename_i m I y;split at h
   .rename_i g;obtain ⟨a,N,z,d,E,F⟩:=L_ y;obtain ⟨b,H,G,T⟩:=D9.1 (f _ _ l).1;rw[G];cases hv:zG cs (n.toNat*I.size) I.size I.agg with
    | none=>grind
    | some r =>simp[hv] at h; subst h;refine ⟨_,?_,D9.2 ⟨b,_,rfl,b1T (CZ.1 T) hv⟩,rfl⟩;simp[Instr.indexAt,asIntOf,gm E,g.1,g.2,Instr.sureAddr,F.run_sizeOf w,h_]
   .cases h
  .cases h
 .cases h
theorem bWN {rd:Operand->Option PV} (c:∀ D q,rd D=some q->dC M B q (Z D)/\q.own=false) (h:pop P rd (.index e D S)=some x) (w:World) :
 ∃ v,(Instr.index e (Z D) (Z S)).run P w = .ok v w/\dC M B x v/\x.own=false:=by
 rw[pop] at h;split at h
 .rename_i s k n g j;rw[iK.1 (c _ _ j).1,kz.1 (c _ _ g).1];split at h
  .rename_i f;cases l:s[n.toNat]? with
   | none=>grind
   | some b =>simp[l] at h; subst h;refine ⟨.int .u8 b.toNat,?_,iK.2 rfl,rfl⟩;simp[Instr.index,asIntOf,gm (Y7 f.1),f.2,l]
  .cases h
 .rename_i E k n g j;rw[iK.1 (c _ _ j).1];split at h
  .rename_i m I r;split at h
   .rename_i f;obtain ⟨a,F,z,d,u,o⟩:=L_ r;obtain ⟨G,y,hv⟩:=rF.1 (c _ _ g).1;rw[y];obtain ⟨v,A,C⟩:=a9B hv o h w;refine ⟨v,?_,C⟩;simp[Instr.index,asIntOf,gm u,f.1,f.2,o.run_sizeOf w,A]
   .cases h
  .cases h
 .cases h
theorem c3A {rd:Operand->Option PV} (n:∀ j q,rd j=some q->dC M B q (Z j)/\q.own=false) {o:Oper} (h:pop P rd o.op=some x) (w:World) (L:∀ (b o:Nat) (v:Value),M b o=some v->w.cell? ⟨b,o,none⟩=some v/\v.oneCell'=true) :
 ∃ v,(execOp Z o).run P w = .ok (.value v) w/\dC M B x v/\x.own=false:=by
 obtain ⟨N,G,A,O,C,guard⟩:=o;simp only at h;have r:∀ {s:Sem Value},(∃ v,s.run P w = .ok v w/\dC M B x v/\x.own=false)->execOp Z ⟨N,G,A,O,C,guard⟩=(do pure (.value (<- s)))->∃ v,(execOp Z ⟨N,G,A,O,C,guard⟩).run P w = .ok (.value v) w/\dC M B x v/\x.own=false :=fun ⟨v,H,J⟩ he=>⟨v,bAM he H,J⟩
 cases G with
 | move j=>exact ⟨Z j,rfl,n _ _ h⟩
 | assign j=>exact ⟨Z j,rfl,n _ _ h⟩
 | pick c a b =>
  rw[pop] at h;split at h
  .rename_i cc Q;have e:=oh.1 (n _ _ Q).1;cases cc with
   | true=>exact ⟨Z a,by simp[execOp,e,asBool],n _ _ (by grind)⟩
   | false=>exact ⟨Z b,by simp[execOp,e,asBool],n _ _ (by grind)⟩
  .cases h
 | fieldAddr s j f =>
  rw[pop] at h;split at h
  .rename_i X q S hq;cases T:X[f]? with
   | none=>grind
   | some K =>
    obtain ⟨o,z,g⟩:=K;simp only[T,Qb] at h;split at h
    .cases h
    .rename_i hz;exact r (c7Z (n _ _ hq).1 S T hz h w) rfl
  .cases h
 | field s j f =>
  rw[pop] at h;split at h
  .rename_i X cs S hq;cases T:X[f]? with
   | none=>grind
   | some K =>obtain ⟨o,z,g⟩:=K;simp only[T,Qb] at h;obtain ⟨Fs,F,I,i,zv,d,hu,hF,ho,hT,Y,hg⟩:=aNM S T;subst ho; subst Y; subst hg;obtain ⟨vs,e,hv⟩:=rF.1 (n _ _ hq).1;obtain ⟨v,H,J⟩:=a9B hv hT h w;refine r ⟨v,?_,J⟩ rfl;rw[e];simp[Instr.field,gm hu,hF,asAgg,H]
  .cases h
 | indexAddr t j i=>exact r (bWL n h w) rfl
 | index t j i=>exact r (bWN n h w) rfl
 | slice t j lo V mx =>
  cases mx with
  | some m =>
   cases lo with
   | none=>simp[pop] at h
   | some l =>
    cases V with
    | none=>simp[pop] at h
    | some b =>
     rw[pop] at h;split at h
     .rename_i q pa pb pc u D E Q;exact r (c6U h (n _ _ u).1 (n _ _ D).1 (n _ _ E).1 (n _ _ Q).1 w) rfl
     .cases h
  | none =>
   rw[pop] at h;cases u:rd j with
   | none=>grind
   | some q =>
    cases lo with
    | none =>
     cases V with
     | none=>simp[u] at h; exact r (a96 h (n _ _ u).1 (.inl ⟨rfl,rfl⟩) (.inl ⟨rfl,rfl⟩) w) rfl
     | some b =>
      cases E:rd b with
      | none=>simp_all
      | some pb=>simp[u,E] at h; exact r (a96 h (n _ _ u).1 (.inl ⟨rfl,rfl⟩) (.inr ⟨_,_,rfl,rfl,(n _ _ E).1⟩) w) rfl
    | some a =>
     cases D:rd a with
     | none=>cases V<;>simp[u,D] at h
     | some pa =>
      cases V with
      | none=>simp[u,D] at h; exact r (a96 h (n _ _ u).1 (.inr ⟨_,_,rfl,rfl,(n _ _ D).1⟩) (.inl ⟨rfl,rfl⟩) w) rfl
      | some b =>
       cases E:rd b with
       | none=>simp_all
       | some pb=>simp[u,D,E] at h; exact r (a96 h (n _ _ u).1 (.inr ⟨_,_,rfl,rfl,(n _ _ D).1⟩) (.inr ⟨_,_,rfl,rfl,(n _ _ E).1⟩) w) rfl
 | binOp G t j y yt =>
  rw[pop] at h;split at h
  .rename_i a b D E;obtain ⟨H,v,J,h3⟩:=b6V h (n _ _ D).1 (n _ _ E).1 w;refine r (s:=do eqGuard G t j y (Z j) (Z y); binOp G t (Z j) (Z y)) ⟨v,?_,h3⟩ rfl;rw[oL,H j y,yP,J]
  .cases h
 | unOp G t j =>
  rw[pop] at h;cases u:rd j with
  | none=>grind
  | some q=>simp[u] at h; exact r (c9Z h (n _ _ u).1 w) rfl
 | convert s d j =>
  rw[pop] at h;cases u:rd j with
  | none=>grind
  | some q=>simp[u] at h; exact r (b92 h (n _ _ u).1 w L) rfl
 | makeFunc fn first U =>
  rw[pop] at h;split at h
  .rename_i f c S Q;cases h;exact r (s:=Instr.makeFunc fn (first.map Z) (U.map Z)) ⟨_,rfl,DC.2 ⟨_,_,rfl,by simpa using (Pj n S).1,by simpa using (Pj n Q).1⟩,rfl⟩ rfl
  .cases h
 | extract j i =>
  rw[pop] at h;cases u:rd j with
  | none=>grind
  | some q=>simp[u] at h; exact r (bAO h (n _ _ u).1 w) rfl
 | nilCheck j =>
  rw[pop] at h;split at h
  .rename_i i o u;cases h;obtain ⟨c,_,e⟩:=yH.1 (n _ _ u).1;exact ⟨Z j,by simp[execOp,e],(n _ _ u)⟩
  .rename_i q u;cases h;obtain ⟨b,a',e,_⟩:=D9.1 (n _ _ u).1;exact ⟨Z j,by simp[execOp,e],(n _ _ u)⟩
  .rename_i f a b u;cases h;obtain ⟨f',c',e,_,_⟩:=DC.1 (n _ _ u).1;exact ⟨Z j,by simp[execOp,e],(n _ _ u)⟩
  .cases h
 | build t ps=>exact r (b73 n h w) rfl
 | call c =>obtain ⟨v,H,J⟩:=b7V (ty:=A) n (by simpa[pop] using h) w;exact ⟨v,H,J⟩
 | _=>simp[pop] at h
end
structure AE where
 P:Program
 n:Nat
 vars:List Nat
 mv:List Nat
 mu:List Nat
 sz:List (Nat×List Nat) := []
 jt:List (Nat×List Nat) := []
 lt:List (Nat×List Nat) := []
 pt:List (Nat×List Nat) := []
 fz:List Nat := []
 ft:List (Nat×List Nat) := []
 sy:List Nat := []
 ln:List Nat := []
def ASt.ev (a:ASt):Operand->Option PV
 | .tmp t=>dF t a.s
 | .const v=>a7Z v
 | .func f=>some (.func (.func f) [] [])
 | .global _=>none
def ASt.rd (a:ASt) (x:Operand):Option PV:=(a.ev x).map PV.un
def ASt.rdT (a:List Nat) (b:ASt) (x:Operand):Option PV:=(b.rd x).map (PV.BQ a)
def elT (P:Program) (t:TypeId):List Nat:=match yf P t with | some e=>Rh P 8 e | none => []
def ASt.clr (a:ASt):Operand->ASt
 | .tmp t=>match dF t a.s with
  | some p => { a with s:=kG t p.un a.s }
  | none=>a
 | _=>a
def ASt.put (E:AE) (a:Option Nat) (p:PV) (b:ASt):Option ASt :=
 match a with
 | none=>some b
 | some d=>if d<E.n then some { b with s:=kG d p b.s } else none
def fB (l:List Nat):Option Nat->Bool
 | some d=>l.contains d
 | none=>false
def qO (d:Bool) (I:TI) (q:PV) (b:ASt):Option (PV×ASt) :=
 match q with
 | .cst e=>if e.isAgg=I.agg/\e.size=I.size then some (e.un,b) else none
 | .ptr i a=>match b.h[i]? with
  | some (some c) =>
   if I.agg then (if a+I.size<=c.length then some (.agg (((c.drop a).take I.size).map PV.un),b) else none)
   else match c[a]? with
    | some p=>if d then some (p,{ b with h:=b.h.set i (some (c.set a p.un)) }) else some (p.un,b)
    | none=>none
  | _=>none
 | _=>none
def AP (I:TI) (a x:PV) (c:ASt):Option ASt :=
 match a with
 | .ptr i b=>match c.h[i]? with
  | some (some d)=>match x with
   | .agg e=>if e.length=I.size/\b+I.size<=d.length/\e.all PV.one then some { c with h:=c.h.set i (some (d.take b ++ e.map PV.un ++ d.drop (b+I.size))) } else none
   | p=>if p.one/\I.size=1/\b<d.length then some { c with h:=c.h.set i (some (d.set b p)) } else none
  | _=>none
 | _=>none
def PV.okE:PV->Bool
 | .agg a=>a.all PV.one&&PV.flats a
 | p=>p.one&&p.flat
def b_M (h:x.okE=true):x.flat=true:=by
 cases x with
 | agg a=>simp only[PV.okE,bQ] at h; exact h.2
 | _=>first | (simp only[PV.okE,bQ] at h; exact h.2) | (simp[PV.okE] at h)
def Fh (a:Nat):Nat->List (Nat×PV)->Option (ai)
 | _,[]=>some []
 | k,(i,p)::b=>if i=k/\p.size=a/\p.okE then (Fh a (k+1) b).map (p.un :: ·) else none
def nG:ai->ai
 | [] => []
 | .agg b::a=>b.map PV.un ++ nG a
 | p::a=>p.un::nG a
def SB (q:PV):Option PV:=match q.newCells with
 | some a=>if q.flat=true then some (match q with | .agg _ => .agg a | _=>q) else none
 | none=>none
def OD (b:Bool) (t i:Nat) (a:ai):ai:=match b,a with
 | true,[.nilp,.sl true 0 []]=>(match Nat.beq t 0||Nat.beq t Vd with | true=>a | false => [.eU t i,.eF []])
 | _,a=>a
theorem b6Y (b:Bool) (t:TypeId) (i:Nat) (a:ai):(OD b t i a).length=a.length:=by unfold OD; grind
variable {L:ai}
theorem b6X (h:(OD g e b L)[j]? = some x):L[j]? = some x\/(j=0/\x = .eU e b/\L[0]? = some .nilp/\L.length=2/\(e≠0/\Nat.beq e Vd=false))\/(j=1/\x = .eF []/\L[1]? = some (.sl true 0 [])):=by
 unfold OD at h;split at h
 .split at h
  simp_all
  .rename_i c;rw[aJK] at c;match j with
   | 0=>simp at h; exact .inr (.inl ⟨rfl,h.symm,rfl,rfl,fun a=>by simp_all,c.2⟩)
   | 1=>simp_all
   | j+2=>simp at h
 simp_all
def cEO (I:TI):PV:=match I.agg with
 | true => .agg (I.zero.map PV.un)
 | false=>match I.zero with | [p]=>p.un | _ => .nilp
def F5 (n:Nat) (I:TI):ai:=match I.zero with
 | [p]=>List.replicate n p
 | a=>(List.replicate n a).flatten
theorem cB7 (n:Nat) (I:TI):F5 n I=(List.replicate n I.zero).flatten:=by
 unfold F5;split;simp_all
 .rfl
def MV (b:ByteArray):ai:=b.data.toList.map fun x => .int .u8 x.toNat
def c7V (b:ByteArray):(MV b).length=b.size:=by rw[MV,aZ]; rfl
def c7U (b:ByteArray):MV b=pJ b.data.toList:=rfl
def aLU (a b:d_):pJ (a ++ b)=pJ a ++ pJ b:=pq
theorem O_ (a:d_):(pJ a).length=a.length:=aZ _
def aZV (l:List Nat):PV->Bool
 | .cst _=>true
 | .ptr i _=>fB l (some (1000000+i))
 | _=>false
def iR:Operand->Option Nat
 | .tmp t=>some t
 | _=>none
def Uj (a ln:List Nat) (d:Option Nat) (q:Option PV):Bool:=match fB a d with
 | true=>(match q with | some (.ptr i _) => !fB ln (some (1000000+i)) | _=>false)
 | false=>true
def Yh:ai->Option Int
 | [.int .u8 c]=>some c
 | _=>none
theorem b_T (h:Yh L=some O):L = [.int .u8 O]:=by unfold Yh at h; grind
theorem b_S (a:0<=O) (b:O<256):pJ [UInt8.ofNat O.toNat] = [.int .u8 O]:=by have:(UInt8.ofNat O.toNat).toNat=O.toNat:=UInt8.toNat_ofNat_of_lt' (by simp_all);grind [pJ]
def aWL (P:Program) (k:TypeId):Option (Option IntKind):=match P.underlying k with
 | some .string=>some none
 | some (.int a)=>some (some a)
 | _=>none
def qy:Value->PV
 | .agg a => .agg ((a.toList.map pg).map PV.un)
 | v=>(pg v).un
def Zz:Value->Bool
 | .agg a=>a.toList.all (·.oneCell')
 | v=>v.oneCell'
def Eb (P:Program) (t:TypeId):Option (Option IntKind×PV):=match P.underlying t with
 | some (.map k e)=>(match aWL P k,(P.info? e).bind (·.zero) with
  | some s,some z=>(match Zz z with | true=>some (s,qy z) | false=>none)
  | _,_=>none)
 | _=>none
def m_ (s:Option IntKind) (a b:PV):Option Bool:=match s,a,b with
 | some c,.int k x,.int d y=>(match decide (k=c)&&decide (d=c) with | true=>some (x==y) | false=>none)
 | none,.str x,.str y=>some (x.data.toList==y.data.toList)
 | _,_,_=>none
def yz (s:Option IntKind):ai->PV->Option (Option PV)
 | k::v::L,q=>(match m_ s q k with
  | some true=>some (some v)
  | some false=>yz s L q
  | none=>none)
 | [],_=>some none
 | [_],_=>none
def uZ (s:Option IntKind):ai->PV->Bool
 | k::_::L,q=>(match m_ s q k with | some _=>true | none=>false)&&uZ s L q
 | [],_=>true
 | [_],_=>false
def vP (s:Option IntKind):ai->PV->Bool
 | k::_::L,q=>(match m_ s q k with | some true=>true | _=>vP s L q)
 | _,_=>false
def pU (s:Option IntKind):ai->PV->PV->ai
 | k::v::L,q,x=>(match m_ s q k with | some true=>q::x::L | _=>k::v::pU s L q x)
 | L,_,_=>L
def qP:PV->PV->Bool
 | .str a,.str b=>Fb a.data.toList b.data.toList
 | _,_=>false
def qR:ai->PV->PV->ai
 | k::v::L,q,x=>(match qP q k with | true=>q::x::k::v::L | false=>k::v::qR L q x)
 | _,q,x => [q,x]
def lJ (s:Option IntKind) (L:ai) (q x:PV):ai:=match vP s L q with
 | true=>pU s L q x
 | false=>qR L q x
def qQ (b:Bool) (L:ai):PV:=match b with | true => .mp L | false => .func (.yield Jp) L []
def Cc:ai->Option (Bool×ai)
 | [.func (.yield n) L []]=>(match Nat.beq n Jp with | true=>some (false,L) | false=>none)
 | [.mp L]=>some (true,L)
 | _=>none
def aYL {a:ai} (h:Cc L=some (g,a)):L = [qQ g a]:=by
 unfold Cc at h;split at h
 .split at h
  .rename_i c; cases h; rw[Bc c]; rfl
  .cases h
 .cases h; rfl
 .cases h
def bWX (s:ByteArray) (p:Int):PV := .func (.yield ITN) [.str s,.int .i64 p] []
def bWY:ai->Option (ByteArray×Int)
 | [.func (.yield n) [.str s,.int .i64 p] []]=>(match Nat.beq n ITN with | true=>some (s,p) | false=>none)
 | _=>none
def bWZ (s:ByteArray) (p:Int):Int:=p+((Utf8.decode s p.toNat).2:Int)
def bW' (s:ByteArray) (p:Int):Int:=((Utf8.decode s p.toNat).1:Int)
def YV (b:Bool) (B:aT):aT:=match b with | true => [] | false=>B
def Yg:dC h G (qQ g L) u↔∃ f,u = .func (.yield Jp) f #[]/\bI h (YV g G) L f.toList:=by
 cases g with
 | true=>exact a_8
 | false =>
  refine DC.trans ⟨?_,?_⟩
  .rintro ⟨f,c,rfl,a,d⟩;rw[gZ] at d;have:c = #[]:=by rw[<- Ac]; exact d
   subst this;exact ⟨f,rfl,a⟩
  .rintro ⟨f,rfl,a⟩;exact ⟨f,#[],rfl,a,gZ.2 rfl⟩
def U6 (b:Bool) (L:ai):(qQ b L).own=false:=by cases b<;>rfl
def zy (s:Option IntKind) (q:PV):Bool:=match s,q with
 | some a,.int k _=>decide (k=a)
 | none,.str _=>true
 | _,_=>false
def EY (a:Bool) (z:PV):Option PV->PV
 | some p=>(match a with | true => .tuple [p.un,.bool true] | false=>p.un)
 | none=>(match a with | true => .tuple [z,.bool false] | false=>z)
def aHU (l:List Nat) (n:Nat):Bool:=l.all fun k=>match Nat.ble 1000000 k with | true=>Nat.blt (k-1000000) n | false=>true
def a99 (a ln:List Nat) (d:Option Nat) (q:Option PV):Bool:=match fB a (d.map (6000000 + ·)) with
 | true=>(match q with | some (.eU _ i) => !fB ln (some (1000000+i)) | _=>false)
 | false=>true
def dS (E:AE) (o:Oper) (d:ASt):Option (PV×ASt) :=
 match o.op with
 | .move x=>if fB E.mv o.dst then (d.ev x).map fun p=>(p,d.clr x) else (d.rd x).map fun p=>(p,d)
 | .assign x=>(d.ev x).map fun p=>(p,d.clr x)
 | .alloc t=>match fB E.ln o.dst && !aHU E.ln d.h.length with
  | true=>none
  | false=>(ti E.P t).map fun I=>(.ptr d.h.length 0,{ d with h:=d.h ++ [some (OD (fB E.mu o.dst) t d.h.length I.zero)] })
 | .box _ x=>if fB E.fz o.dst then ((d.rd x).bind SB).map fun e=>(.cst e,d) else ((d.rd x).bind PV.newCells).map fun f=>(.ptr d.h.length 0,{ d with h:=d.h ++ [some f] })
 | .load t a=>match ti E.P t,d.rd a with
  | some I,some q=>(match fB E.ln o.dst with | true=>(match aZV E.ln q with | true=>qO false I q d | false=>none) | false=>qO (fB E.mv o.dst) I q d)
  | _,_=>none
 | .store t a x=>match Uj E.mu E.ln (iR a) (d.rd a) with
  | false=>none
  | true=>match ti E.P t,d.rd a,d.ev x,o.dst with
   | some I,some q,some p,none=>(AP I q p (d.clr x)).map fun C=>(.tuple [],C)
   | _,_,_,_=>none
 | .buildSlice t w F=>match nV E.P t,wO (d.rdT (elT E.P t)) F.toList with
  | some I,some G=>match Fh I.size 0 G with
   | some y=>if y.length=w/\0<I.size/\w*I.size<=16777216 then
    (if fB E.mu o.dst then some (.slh d.h.length 0 w I.size,{ d with h:=d.h ++ [some (nG y)] }) else some (.sl true I.size y,d)) else none
   | none=>none
  | _,_=>none
 | .makeMap t r=>match fB E.ln o.dst && !aHU E.ln d.h.length with
  | true=>none
  | false=>(match Eb E.P t,r with
   | some _,none=>some (.eU 0 d.h.length,{ d with h:=d.h ++ [some [qQ (fB E.mu o.dst) []]] })
   | _,_=>none)
 | .lookup t m k H=>match Eb E.P t,d.rd m,d.rd k with
  | some (s,z),some (.eU 0 i),some q=>(match d.h[i]? with
   | some (some f)=>(match Cc f with
    | some (_,L)=>(match zy s q,yz s L q with
     | true,some r=>some (EY H z r,d)
     | _,_=>none)
    | none=>none)
   | _=>none)
  | _,_,_=>none
 | .mapUpdate t m k v=>match Eb E.P t,d.rd m,d.rd k,d.rd v,o.dst with
  | some (s,_),some (.eU 0 i),some q,some x,none=>(match d.h[i]? with
   | some (some f)=>(match Cc f with
    | some (b,L)=>(match zy s q&&(uZ s L q&&(!b||x.flat)) with
     | true=>some (.tuple [],{ d with h:=d.h.set i (some [qQ b (lJ s L q x)]) })
     | false=>none)
    | none=>none)
   | _=>none)
  | _,_,_,_,_=>none
 | .insert t m k v=>match a99 E.mu E.ln (iR m) (d.rd m) with
  | false=>none
  | true=>match Eb E.P t,d.rd m,d.rd k,d.rd v,o.dst with
   | some (s,_),some (.eU 0 i),some q,some x,none=>(match d.h[i]? with
    | some (some f)=>(match Cc f with
     | some (b,L)=>(match zy s q&&(uZ s L q&&(!b||x.flat)) with
      | true=>some (.tuple [],{ d with h:=d.h.set i (some [qQ b (lJ s L q x)]) })
      | false=>none)
     | none=>none)
    | _=>none)
   | _,_,_,_,_=>none
 | .call c=>match c.callee with
  | .builtin .clear=>(match c.args.toList,c.argTypes.toList,o.dst with
   | [x],[t],none=>(match nV E.P t,d.rd x with
    | some I,some (.slh i A n g)=>(match d.h[i]? with
     | some (some f)=>if I.size=g/\A+n*g<=f.length then some (.tuple [],{ d with h:=d.h.set i (some (f.take A ++ (F5 n I).map PV.un ++ f.drop (A+n*g))) }) else none
     | _=>none)
    | some _,some (.sl _ _ [])=>some (.tuple [],d)
    | _,_=>none)
   | _,_,_=>none)
  | .builtin .append=>(match c.args.toList,c.argTypes.toList with
   | [s,x],[t,u]=>(match nV E.P t,d.ev s,d.rd x with
    | some I,some (.sl D g y),some (.sl _ j B)=>if (D=true\/g=0)/\t=u/\0<I.size/\I.bytes<=1024/\(g=I.size\/g=0)/\(j=I.size\/j=0) then some (.sl true I.size (y ++ B),d.clr s) else none
    | some I,some (.sl D g y),some (.str b)=>if (D=true\/g=0)/\TZ E.P t=true/\yj E.P u=true/\I.size=1/\I.bytes<=1024/\(g=I.size\/g=0) then some (.sl true I.size (y ++ MV b),d.clr s) else none
    | some I,some (.eF l),some (.str b)=>if yf E.P t=some OG/\yj E.P u=true/\I.size=1/\I.bytes<=1024 then some (.eF (l ++ b.data.toList),d.clr s) else none
    | some I,some (.eF l),some (.sl _ j B)=>(match Yh B with
     | some c=>if yf E.P t=some OG/\t=u/\I.size=1/\I.bytes<=1024/\j=1 then some (.eF (l ++ [UInt8.ofNat c.toNat]),d.clr s) else none
     | none=>none)
    | _,_,_=>none)
   | _,_=>none)
  | _=>(JC E.P d.rd c).map fun p=>(p,d)
 | op=>(pop E.P d.rd op).map fun p=>(p,d)
def mX (E:AE) (o:Oper) (e:ASt):Prop :=
 match o.op with
 | .call c=>match c.callee with
  | .builtin .append=>(match c.args.toList with
   | [s,x]=>(match e.ev s,e.rd x with
    | some (.sl _ _ d),some (.sl _ _ a)=>d.length+a.length<=aN
    | some (.sl _ _ d),some (.str b)=>d.length+b.size<=aN
    | some (.eF l),some (.str b)=>l.length+b.size<=aN
    | some (.eF l),some (.sl _ _ a)=>(match Yh a with | some c=>l.length+1<=aN/\0<=c/\c<256 | none=>True)
    | _,_=>True)
   | _=>True)
  | _=>True
 | _=>True
section
variable {n:Nat} {out:Nat->Nat} {M:Mem} {B:aT} {σ:ASt} {a:Act} {w:World} {E:AE} {D:Operand}
def Inv.ev (b:Inv n M B out σ a.tmps w) (h:σ.ev D=some x):dC M B x (a.eval D)/\Tl M w x (a.eval D):=by
 cases D with
 | tmp t=>exact (b.slots t x h).2
 | const v=>obtain ⟨c,_,d⟩:=aZT h; exact ⟨c,d w⟩
 | func f=>cases h; exact ⟨DC.2 ⟨_,_,rfl,gZ.2 rfl,gZ.2 rfl⟩,ig rfl⟩
 | global g=>cases h
theorem Inv.rd (b:Inv n M B out σ a.tmps w) (x:Operand) (q:PV) (h:σ.rd x=some q):dC M B q (a.eval x)/\q.own=false:=by
 unfold ASt.rd at h;cases he:σ.ev x with
 | none=>grind
 | some p=>simp[he] at h; subst h; exact ⟨uh.2 (b.ev he).1,uG p⟩
theorem Inv.rdT (b:Inv n M B out σ a.tmps w) (c:List Nat) (x:Operand) (q:PV) (h:σ.rdT c x=some q):dC M B q (a.eval x)/\q.own=false:=by
 unfold ASt.rdT at h;cases he:σ.rd x with
 | none=>grind
 | some p=>obtain ⟨d,e⟩:=b.rd x p he; grind [Yy,a_G]
theorem Inv.aB5 (c:Inv n M B out σ a.tmps w) (h:σ.ev D=some x):Inv n M B out (σ.clr D) a.tmps w/\(∀ b,fp B (σ.clr D) a.tmps w b+cu x (a.eval D) b=fp B σ a.tmps w b)/\(σ.clr D).h=σ.h:=by
 cases D with
 | tmp t =>have h':dF t σ.s=some x:=h;have:=c.clr h';simp only[ASt.clr,h'];exact ⟨this.1,this.2,trivial⟩
 | const v=>exact ⟨c,fun b=>by rw[show a.eval (.const v)=v from rfl,(aZT (M:=M) (B:=B) h).2.1]; rfl,rfl⟩
 | func f=>cases h; exact ⟨c,fun b=>by rfl,rfl⟩
 | global g=>cases h
structure Pre (n:Nat) (out:Nat->Nat) (M:Mem) (B:aT) (σ:ASt) (t:Array Value) (w:World) (M':Mem) (B':aT) (σ':ASt) (w':World) (p:PV) (v:Value):Prop where
 inv:Inv n M' B' out σ' t w'
 le:gQ M M' B B'
 fr:Fr (fp B σ t w) M w M' w'
 own:∀ b,b<w.heap.size->fp B' σ' t w' b+cu p v b<=fp B σ t w b
 rep:dC M' B' p v
 tl:Tl M' w' p v
 cnt:∀ b,fp B' σ' t w' b+cu p v b+out b<=1
 new:∀ b,w'.heap.size<=b->cu p v b=0
def Pre.put {m:Mem} {i:aT} {c f:ASt} {j:World} (h:Pre E.n out M B σ a.tmps w m i c j x u) {e:Option Nat} (g:ASt.put E e x c=some f) :
 Good E.n out M B σ a.tmps w m i f (a.put e u).tmps j:=by
 cases e with
 | none =>cases g;exact ⟨h.inv,h.le,h.fr,fun b l=>by have:=h.own b l; show fp i c a.tmps j b<=_; omega⟩
 | some d =>
  simp only[ASt.put] at g;split at g
  .rename_i o;cases g;obtain ⟨q,r⟩:=h.inv.c3O o h.rep h.tl h.cnt h.new;exact ⟨q,h.le,h.fr,fun b l=>jO (r b) (h.own b l)⟩
  .cases g
def Pre.plain (d:Inv n M B out σ a.tmps w) (e:dC M B x u) (c:∀ b,cu x u b=0) (f:Tl M w x u):Pre n out M B σ a.tmps w M B σ w x u :=⟨d,gQ.refl _ _,Fr.refl _ _ _,fun b _=>by rw[c]; omega,e,f,fun b=>by rw[c]; exact d.cnt b,fun b _=>c b⟩
def Pre.Ld {e:Mem} {f:aT} {c:ASt} {g:World} (h:Good n out M B σ a.tmps w e f c a.tmps g) (i:dC e f x u) (d:x.own=false):Pre n out M B σ a.tmps w e f c g x u :=⟨h.inv,h.le,h.fr,fun b j=>by rw[gY d]; exact h.own b j,i,ig d,fun b=>by rw[gY d]; exact h.inv.cnt b,fun b _=>gY d u b⟩
def Pre.moved (c:Inv n M B out σ a.tmps w) (h:σ.ev D=some x):Pre n out M B σ a.tmps w M B (σ.clr D) w x (a.eval D):=by obtain ⟨e,d,j⟩:=c.aB5 h;obtain ⟨f,g⟩:=c.ev h;exact ⟨e,gQ.refl _ _,Fr.refl _ _ _,fun b _=>by rw[d]; omega,f,g,fun b=>by rw[d]; exact c.cnt b,fun b i=>by have:=d b; have:=c.new b i; omega⟩
def b5O (h:ti f e=some m) (w:World):∃ b:Array Value,(Instr.alloc e true (.tuple #[])).run f w = .ok (.pointer (some ⟨w.heap.size,0,none⟩)) (w.alloc (.cells b e))/\b.size=m.size/\m.zero=b.toList.map pg/\∀ v,v∈b->v.oneCell'=true:=by obtain ⟨i,z,d,a⟩:=JR h;refine ⟨z.cells,?_,by rw[a.a9P,a.size],a.aDJ,a.one⟩;simp only[Instr.alloc,oL,a.c5B w,newRow];rfl
def aB2:∀ {c:ai} {b o:Nat},lQ M B c b o->∃ a:List Value,bI M B c a/\∀ (j:Nat) v,a[j]? = some v->M b (o+j)=some v
 | [],_,_,_=>⟨[],gZ.2 rfl,by simp⟩
 | p::c,b,o,h=>by
  obtain ⟨⟨u,d,e⟩,f⟩:=aB1.1 h;obtain ⟨a,g,i⟩:=aB2 f;refine ⟨u::a,eP.2 ⟨u,a,rfl,e,g⟩,fun j v hv => ?_⟩;cases j with
  | zero=>simp at hv; subst hv; exact d
  | succ j=>have:=i j v (by simpa using hv); rwa [show o+(j+1)=o+1+j by omega]
theorem a7Q {P:Program} (h:ti P e=some m) {b a:Nat} {w:World} :
 (m.agg=true->∀ c:List Value,c.length=m.size->(∀ (j:Nat) v,c[j]? = some v->w.cell? ⟨b,a+j,none⟩=some v)->(Instr.loadAt e (.pointer (some ⟨b,a,none⟩))).run P w = .ok (.agg c.toArray) w) /\
 (m.agg=false->∀ v,w.cell? ⟨b,a,none⟩=some v->(Instr.loadAt e (.pointer (some ⟨b,a,none⟩))).run P w = .ok v w):=by
 obtain ⟨i,z,d,f⟩:=JR h;constructor
 .intro g c l hv;have:=run_loadCells_list (P:=P) w ⟨b,a,none⟩ c (fun j v n=>by rw[h_]; simp_all);rw[l] at this;simp[Instr.loadAt,Instr.sureAddr,loadVar,f.aHW w,g,f.run_sizeOf w,this]
 .intro g v hv;simp[Instr.loadAt,Instr.sureAddr,loadVar,f.aHW w,g,hv]
theorem aES (A:Inv n M B out σ a.tmps w) (h:ti f e=some m) (hq:σ.rd D=some x) {p:PV} {T:ASt} (y:qO g m x σ=some (p,T)) :
 ∃ v,(Instr.loadAt e (a.eval D)).run f w = .ok v w/\Pre n out M B σ a.tmps w M B T w p v:=by
 have hr:=(A.rd D x hq).1;unfold qO at y;split at y
 .rename_i l;split at y
  .rename_i E;cases y;obtain ⟨b,o,Z,r⟩:=D9.1 hr;have r:=r.mono (gQ.zero M B);rw[Z];cases O:m.agg with
   | true =>
    rw[O] at E;cases l<;>simp[PV.isAgg] at E
    obtain ⟨F,Q,G⟩:=aB2 (CZ.1 r);have b2:=sS Q;refine ⟨_,(a7Q h).1 O F (by grind [PV.size]) (fun j v hv=>(A.mem _ _ _ (G j v hv)).1),Pre.plain A (rF.2 ⟨_,rfl,by omega⟩) (fun b=>gY rfl _ _) (ig rfl)⟩
   | false =>
    rw[O] at E;have Q:l.isAgg=false:=E.1;have G:∀ z,l ≠ .tuple z:=fun z e'=>by subst e'; exact aET.1 r
    obtain ⟨u,hu,Ie⟩:=(BF Q G).1 r;exact ⟨u,(a7Q h).2 O u (A.mem _ _ _ hu).1,Pre.plain A (uh.2 Ie) (fun b=>UM _ _ _) (ig (uG _))⟩
  .cases y
 .rename_i i o;obtain ⟨c,⟨E,U⟩,Z⟩:=yH.1 hr;rw[Z];split at y
  .rename_i z J;obtain ⟨F,ty,r1,o2,o3,o4,o5⟩:=A.heap.at J E;obtain ⟨ty,rfl,o1⟩:=MK r1 (by rw[o2.2]; exact U);have K:∀ (j:Nat) v,F[j]? = some v->w.cell? ⟨c.1,j,none⟩=some v:=fun j v hv=>by simp[World.cell?,o1,hv]
   split at y
   .rename_i O;split at y
    .cases y;have TT:bI M B (((z.drop o).take m.size).map PV.un) ((F.toList.drop o).take m.size):=by grind [Pn,Pm]
     refine ⟨_,(a7Q h).1 O ((F.toList.drop o).take m.size) (by simp; omega) (fun j v hv => ?_),Pre.plain A (rF.2 ⟨_,rfl,by omega⟩) (fun b=>gY rfl _ _) (ig rfl)⟩;rw[qh] at hv;simp_all
    .cases y
   .have a':m.agg=false:=by grind
    cases hp:z[o]? with
    | none=>simp_all
    | some C =>
     simp only[hp] at y;obtain ⟨v,hv,L,b0,V⟩:=o4 o C hp;have H:=(a7Q h).2 a' v (K _ _ hv);cases g with
     | false =>obtain ⟨rfl,rfl⟩:=y;exact ⟨v,H,Pre.plain A (uh.2 L) (fun b=>UM _ _ _) (ig (uG _))⟩
     | true =>
      simp at y;obtain ⟨rfl,rfl⟩:=y;have b1:=(jr.1 hp).1;have X:w.setCell ⟨c.1,o,none⟩ v=w:=by
       have:=setCell_eq_setRow w c.1 o F ty (0,0) v o1;have e2:F.setIfInBounds o v=F:=by grind
       grind [setRow_self]
      have Y:∀ b,cu C.un v b=0:=fun b=>UM _ _ _
      obtain ⟨s1,s2,s3,_,_⟩:=A.setCell J E U b1 (uh.2 L) (ig (uG _)) V (fun b=>by rw[Y]; exact A.cnt b) (fun b _=>Y b);rw[X] at s1 s2 s3;have N:∀ b,fp B { σ with h:=σ.h.set i (some (z.set o C.un)) } a.tmps w b+cu C v b<=fp B σ a.tmps w b:=fun b=>by
       have b3:∀ (z:ai) (S:List Value) (j:Nat),z[j]? = some C->S[j]? = some v->iP (z.set j C.un) S b+cu C v b=iP z S b:=by
        intro z;induction z with
        | nil=>simp
        | cons x qs ih =>
         intro S j Q G;cases S with
         | nil=>simp at G
         | cons u S =>
          cases j with
          | zero=>grind [iP]
          | succ j=>grind [iP]
       have YB:∀ (h:aH) (B:aT) (i:Nat),h[i]? = some (some z)->B[i]? = some c->aW w (h.set i (some (z.set o C.un))) B b+cu C v b=aW w h B b:=by
        intro h;induction h with
        | nil=>simp
        | cons D h ih =>
         intro B i Q G;cases B with
         | nil=>simp at G
         | cons d B =>
          cases i with
          | zero =>grind [jk,aW]
          | succ i =>have:=ih B i Q G;cases D<;>simp only[List.set_cons_succ,aW]<;>omega
       have:=YB σ.h B i J E;simp only[fp]; omega
      exact ⟨v,H,s1,gQ.refl _ _,Fr.refl _ _ _,fun b _=>N b,L,b0,fun b=>by have:=N b; have:=A.cnt b; omega,fun b hb=>by have:=N b; have:=A.new b hb; omega⟩
  .cases y
 .cases y
end
section
variable {n:Nat} {out:Nat->Nat} {M:Mem} {B:aT} {σ:ASt} {a:Act} {w:World} {t:Array Value}
theorem aIG {P:Program} {i:Nat} {c:Nat×Nat×TypeId} (D:B[i]? = some c) (m:c.2.2≠0) {off:Nat}:∀ (f:ai) (l:List Value) (k:Nat) (a:ai) (σ:ASt) (w:World),Inv n M B out σ t w->σ.h[i]? = some (some a) ->
 bI M B f l->(∀ d,d∈f->d.own=false)->(∀ u,u∈l->u.oneCell'=true)->off+k+f.length<=a.length ->
 ∃ q,(storeCells ⟨c.1,off,none⟩ l k).run P w = .ok () q/\Good n out M B σ t w M B { σ with h:=σ.h.set i (some (a.take (off+k) ++ f ++ a.drop (off+k+f.length))) } t q
 | [],l,k,a,σ,w,r,z,x,_,_,_=>by
  rw[gZ] at x; subst x;refine ⟨w,rfl,?_⟩;have:σ.h.set i (some (a.take (off+k) ++ [] ++ a.drop (off+k+([]:ai).length)))=σ.h:=by simp only[DY,jv,VE,NR];apply QX;grind
  rw[this]; exact Good.refl r
 | d::f,l,k,a,σ,w,r,z,x,g,j,o=>by
  obtain ⟨u,l,rfl,E,F⟩:=eP.1 x;have y:=g d (by simp);have p:=j u (by simp);simp only[bT] at o;obtain ⟨s1,G,H,N,O⟩:=r.setCell z D m (by omega:off+k<a.length) E (ig y) p (fun b=>by rw[gY y]; exact r.cnt b) (fun b _=>gY y _ _);have I:(store ((⟨c.1,off,none⟩:Addr).add k) u).run P w = .ok () (w.setCell ⟨c.1,off+k,none⟩ u):=by rw[h_,run_store P w _ u _ p];grind
  have A:({ σ with h:=σ.h.set i (some (a.set (off+k) d)) }:ASt).h[i]? = some (some (a.set (off+k) d)):=QZ (jr.1 z).1;obtain ⟨q,Q,J⟩:=aIG (P:=P) (off:=off) D m f l (k+1) (a.set (off+k) d) _ _ s1 A F (fun e he=>g e (by simp[he])) (fun v hv=>j v (by simp[hv])) (by rw[List.length_set]; omega);refine ⟨q,by grind [storeCells,Sem.run_bind,Result.andThen_ok],?_⟩;have C:Good n out M B σ t w M B { σ with h:=σ.h.set i (some (a.set (off+k) d)) } t (w.setCell ⟨c.1,off+k,none⟩ u) :=⟨s1,gQ.refl _ _,H,fun b _=>by have:=G b; rw[gY y] at this; exact this⟩;have:=C.trans J;have e:(a.set (off+k) d).take (off+(k+1)) ++ f ++ (a.set (off+k) d).drop (off+(k+1)+f.length)=a.take (off+k) ++ (d::f) ++ a.drop (off+k+(d::f).length):=by
   have K:(a.set (off+k) d).take (off+(k+1))=a.take (off+k) ++ [d]:=by apply QX;grind
   have L:(a.set (off+k) d).drop (off+(k+1)+f.length)=a.drop (off+k+(d::f).length):=by rw[List.drop_set_of_lt (by omega)];simp; omega
   rw[K,L]; simp
  rw[List.set_set,e] at this;exact this
def a_C {b:List Value} (h:bI M B L b) (c:∀ d,d∈L->d.one=true):∀ u,u∈b->u.oneCell'=true:=by intro u f;obtain ⟨j,a⟩:=Jh.1 f;have m:=sS h;have g:=(jr.1 a).1;have i:L[j]? = some L[j]:=kV (by omega);obtain ⟨n,e,l⟩:=yI h i;rw[e] at a; cases a;exact (Gs (c _ (dZ _)) l).2
theorem c7S (t:Inv n M B out σ a.tmps w) (h:ti f e=some m) {g y:Operand} {p:PV} (hq:σ.rd g=some x) (T:σ.ev y=some p) {u:ASt} (j:AP m x p (σ.clr y)=some u) :
 ∃ K M' B',(Instr.storeAt e (a.eval g) (a.eval y)).run f w = .ok () K/\Pre n out M B σ a.tmps w M' B' u K (.tuple []) undef:=by
 have hr:=(t.rd g x hq).1;obtain ⟨l,L⟩:=t.ev T;obtain ⟨i',z,d,U⟩:=JR h;obtain ⟨V,v,c3⟩:=t.aB5 T;have A:dC M B (.tuple []) undef:=xO.2 ⟨#[],rfl,gZ.2 rfl⟩;unfold AP at j;split at j
 .rename_i i off;obtain ⟨c,⟨X,C⟩,e1⟩:=yH.1 hr;rw[e1];split at j
  .rename_i D E;split at j
   .rename_i F;split at j
    .rename_i G;cases j;obtain ⟨N,e2,hv⟩:=rF.1 l;have O:N.size=m.size:=by have:=sS hv; simp_all
     have H:∀ d,d∈F->d.one=true:=fun d Y=>jq.1 G.2.2 d Y
     .obtain ⟨K,hw,r⟩:=aIG X C (off:=off) (F.map PV.un) N.toList 0 D _ _ V E (Pn hv) (fun d Y=>by grind [uG]) (a_C hv H) (by simp; omega);refine ⟨K,M,B,?_,?_⟩
      .rw[e2];have Q:(Value.agg N).cells.size=m.size:=O;simp only[Instr.storeAt,Instr.sureAddr,oL,NY,yP,storeVar,U.run_sizeOf w];rw[aX (by rw[Q]; simp)];exact hw
      .have J:∀ b,fp B (σ.clr y) a.tmps w b=fp B σ a.tmps w b:=fun b=>by have:=v b; exact this
       have e3:({ σ.clr y with h:=(σ.clr y).h.set i (some (D.take (off+0) ++ F.map PV.un ++ D.drop (off+0+(F.map PV.un).length))) }:ASt) = { σ.clr y with h:=(σ.clr y).h.set i (some (D.take off ++ F.map PV.un ++ D.drop (off+m.size))) }:=by simp_all
       rw[e3] at r;exact ⟨r.inv,r.le,r.fr.mono fun b _ Z=>by rw[J]; exact Z,fun b S=>by have:=r.own b S; rw[J] at this; simpa[cu,PV.own] using this,A,ig rfl,fun b=>by have:=r.inv.cnt b; simpa[cu,PV.own] using this,fun b _=>by rfl⟩
    .cases j
   .split at j
    .rename_i p a' o;cases j;obtain ⟨h1,h2,h3⟩:=o;obtain ⟨k1,k2⟩:=Gs h1 l;obtain ⟨s1,s2,s3,s4,s5⟩:=V.setCell E X C h3 l L k2 (fun b=>by rw[v]; exact t.cnt b) (fun b S=>by have:=v b; have:=t.new b S; omega);refine ⟨_,M,B,?_,s1,gQ.refl _ _,s3.mono fun b _ Z=>by have:=v b; omega,fun b _=>by have:=s2 b; have:=v b; simp only[cu,PV.own]; simp; omega,A,ig rfl,fun b=>by have:=s1.cnt b; simpa[cu,PV.own] using this,fun b _=>by rfl⟩;have b0:(store ((⟨c.1,off,none⟩:Addr).add 0) (a.eval y)).run f w = .ok () (w.setCell ⟨c.1,off,none⟩ (a.eval y)):=by rw[h_,run_store f w _ _ _ k2];grind
     simp only[Instr.storeAt,Instr.sureAddr,oL,NY,yP,storeVar,U.run_sizeOf w];grind [Sem.run_bind,Sem.run_pure,Result.andThen_ok,storeCells]
    .cases j
  .cases j
 .cases j
end
section
variable {n:Nat} {out:Nat->Nat} {M M':Mem} {B:aT} {σ:ASt} {a:Act} {w:World} {t:Array Value}
theorem aNN (d:Nat):∀ (e:List (Nat×Value)) (k:Nat) (done a:List Value),(∀ (j:Nat) v,e[j]? = some v->v.1=k+j/\v.2.cells.size=d)->done.length=k*d->a.length=e.length*d ->
 Instr.fill (fun i=>some (i*d,d)) (done ++ a).toArray e=some (done ++ e.flatMap fun v=>v.2.cells.toList).toArray
 | [],k,done,a,_,_,n=>by have:a = []:=oK (by grind);grind [Instr.fill]
 | v::e,k,done,a,h,f,n=>by
  obtain ⟨q,o⟩:=h 0 v rfl;obtain ⟨i,v⟩:=v;subst q;have b:=aBN (i*d) v.cells.toList 0 (done ++ a).toArray (by simp[f,o]; rw[n]; simp[rQ]);have r:(v.cells.zipIdx.foldl (fun g (c,j)=>g.setIfInBounds (i*d+j) c) (done ++ a).toArray)=((v.cells.toList.zipIdx 0).foldl (fun (g:Array Value) (l:Value×Nat)=>g.setIfInBounds (i*d+l.2) l.1) (done ++ a).toArray):=by rw[<- Array.foldl_toList,Array.toList_zipIdx]
  have p:v.cells.toList.length=d:=by simpa using o
  simp only[VE,p,<- f] at b;rw[List.take_left,<- QW,List.drop_left] at b;rw[Instr.fill];simp only;rw[aX (by simp[o,f,n,rQ]),r];have m:(v.cells.toList.zipIdx 0).foldl (fun (g:Array Value) (l:Value×Nat)=>g.setIfInBounds (i*d+l.2) l.1) (done ++ a).toArray=((done ++ v.cells.toList) ++ a.drop d).toArray:=by rw[<- Ac,<- f,b]
  rw[m,aNN d e (i+1) (done ++ v.cells.toList) (a.drop d) (fun j x t=>by obtain ⟨a1,a2⟩:=h (j+1) x (by simpa using t);exact ⟨by omega,a2⟩) (by simp[f,p,rQ]) (by simp[n,rQ])];simp
theorem bZX {b o f g:Nat} (h:Loc M B x b o) (c:∀ (b o:Nat) (v:Value),M b o=some v->M' b o=some v) (i:∀ j,j<x.size->∀ v,M b (o+j)=some v->M' f (g+j)=some v):Loc M' B x f g:=by
 have l:gQ M M' B B:=⟨c,fun _ _ h=>h⟩;by_cases t:x.isAgg=true
 .cases x<;>simp[PV.isAgg] at t
  refine CZ.2 (OH fun j q hq => ?_);obtain ⟨u,m,d⟩:=WL (CZ.1 h) hq;exact ⟨u,i j (jr.1 hq).1 u m,d.mono l⟩
 .have a:x.isAgg=false:=by grind
  have n:∀ r,x ≠ .tuple r:=fun r e=>by subst e; exact aET.1 h
  obtain ⟨u,m,d⟩:=(BF a n).1 h;have w:x.size=1:=by cases x<;>first | rfl | (simp[PV.isAgg] at a)
  refine (BF a n).2 ⟨u,?_,d.mono l⟩;have:=i 0 (by omega) u (by omega);omega
def bZZ {a b o f c:Nat} (h:nz M B a L b o) (g:∀ p,p∈L->p.size=a) (d:∀ (b o:Nat) (v:Value),M b o=some v->M' b o=some v) (l:∀ j,j<L.length*a->∀ v,M b (o+j)=some v->M' f (c+j)=some v):nz M' B a L f c :=
 Cb fun j p e=>bZX (Gh h e) d fun i q v hv=>by
  have m:=(jr.1 e).1;have n:=g p (tC e);have:j*a+i<L.length*a:=by have:(j+1)*a<=L.length*a:=NV _ m;rw[rQ] at this; omega
  have:=l (j*a+i) this v (by rwa [show o+(j*a+i)=o+j*a+i by omega]);rwa [show c+(j*a+i)=c+j*a+i by omega] at this
theorem bZY {b o:Nat} (h:Loc M B x b o):∃ c:List Value,c.length=x.size/\∀ (j:Nat) v,c[j]? = some v->M b (o+j)=some v:=by
 by_cases g:x.isAgg=true
 .cases x<;>simp[PV.isAgg] at g
  obtain ⟨c,i,l⟩:=aB2 (CZ.1 h);exact ⟨c,(sS i).symm,l⟩
 .have a:x.isAgg=false:=by grind
  have m:∀ f,x ≠ .tuple f:=fun f e=>by subst e; exact aET.1 h
  obtain ⟨u,n,q⟩:=(BF a m).1 h;have d:x.size=1:=by cases x<;>first | rfl | (simp[PV.isAgg] at a)
  refine ⟨[u],by simp[d],fun j v hv => ?_⟩;grind
def aY6:∀ {c:ai} {a b o:Nat},nz M B a c b o->(∀ p,p∈c->p.size=a)->∃ d:List Value,d.length=c.length*a/\∀ (j:Nat) v,d[j]? = some v->M b (o+j)=some v
 | [],_,_,_,_,_=>⟨[],by simp,by simp⟩
 | p::c,a,b,o,h,g=>by
  obtain ⟨i,l⟩:=YT.1 h;obtain ⟨e,r,m⟩:=bZY i;obtain ⟨d,t,n⟩:=aY6 l fun q hq=>g q (by simp[hq])
  have u:=g p (by simp);refine ⟨e ++ d,by simp[rQ]; omega,fun j v hv => ?_⟩;rcases F9 j e.length with f | f
  .exact m j v (by rwa [Ba f] at hv)
  .have:=n (j-e.length) v (by rwa [QY f] at hv);rwa [show o+a+(j-e.length)=o+j by omega] at this
theorem aMS {c:Nat}:∀ {a:List (Nat×PV)} {k:Nat} {b:ai},Fh c k a=some b->b.length=a.length/\∀ (j:Nat) q,a[j]? = some q->q.1=k+j/\q.2.size=c/\q.2.okE=true/\b[j]? = some q.2.un
 | [],k,b,h=>by grind [Fh]
 | (i,p)::a,k,b,h=>by
  rw[Fh] at h;split at h
  .rename_i d;cases he:Fh c (k+1) a with
   | none=>grind
   | some e =>
    simp[he] at h; subst h;obtain ⟨f,g⟩:=aMS he;refine ⟨by simp[f],fun j q hq => ?_⟩;cases j with
    | zero=>simp at hq; subst hq; exact ⟨d.1,d.2.1,d.2.2,rfl⟩
    | succ j =>obtain ⟨a1,a2,a3,a4⟩:=g j q (by simpa using hq);exact ⟨by omega,a2,a3,by simpa using a4⟩
  .cases h
theorem bAX {b:List (Nat×Value)} {a:Nat} (c:∀ (j:Nat) v,b[j]? = some v->v.2.cells.size=a):∀ {j:Nat} {v:Nat×Value},b[j]? = some v->∀ i,i<a->(b.flatMap fun v=>v.2.cells.toList)[j*a+i]? = v.2.cells.toList[i]? := by
 induction b with
 | nil=>simp
 | cons u g d =>
  intro j v h i e;have f:u.2.cells.toList.length=a:=by simpa using c 0 u rfl
  rw[NQ];cases j with
  | zero=>grind
  | succ j =>rw[QY (by rw[rQ]; omega),f,show (j+1)*a+i-a=j*a+i by rw[rQ]; omega];exact d (fun j v h=>c (j+1) v (by grind)) (by grind) i e
theorem bAY {vs:List (Nat×Value)} {sz:Nat} (a:∀ (j:Nat) v,vs[j]? = some v->v.2.cells.size=sz):(vs.flatMap fun v=>v.2.cells.toList).length=vs.length*sz:=by
 induction vs with
 | nil=>simp
 | cons u c b =>
  rw[NQ,aY,b (fun j v h=>a (j+1) v (by grind))];have d:u.2.cells.toList.length=sz:=by simpa using a 0 u rfl
  grind
theorem bZQ (g:nV f e=some m) {b:Nat} {ed:Array (Nat×Value)} (q:ed.size=b) (r:∀ (j:Nat) v,ed.toList[j]? = some v->v.1=j/\v.2.cells.size=m.size) (l:0<m.size) (o:b*m.size<=16777216) (w:World) :
 ∃ a,(Instr.buildSlice e b ed).run f w = .ok (.slice (some ⟨w.heap.size,0,none⟩) b b) (w.alloc (.cells (ed.toList.flatMap fun v=>v.2.cells.toList).toArray a)):=by
 obtain ⟨a,i,z,d,n,c⟩:=Fg g;refine ⟨a,?_⟩;have h:=c.size;by_cases t:b=0
 .have p:ed = #[]:=by simp_all
  subst p;simp[Instr.buildSlice,gm n,c.run_sizeOf w,Instr.fill,newRow];grind
 .refine run_buildSlice w e a b ed _ i z n c.info c.zero (by rw[<- h]; omega) (by grind [Nat.mul_ne_zero]) ?_;have:=aNN i.size ed.toList 0 [] ((List.range (b*i.size)).map (z.cells[· % z.cells.size]!)) (fun j v hv=>by grind) (by simp) (by grind);have a:(Array.range (b*i.size)).map (z.cells[· % z.cells.size]!)=([] ++ (List.range (b*i.size)).map (z.cells[· % z.cells.size]!)).toArray:=by grind
  rw[a,this]; rfl
def b72 {rd:Operand->Option PV} {d:Operand->Value} (h:∀ x q,rd x=some q->dC M B q (d x)/\q.own=false) {e:Array (Nat×Operand)} {c:List (Nat×PV)} (hq:wO rd e.toList=some c) {f:Nat} (he:Fh f 0 c=some L) :
 (∀ (j:Nat) v,(e.map fun (i,x)=>(i,d x)).toList[j]? = some v->v.1=j/\v.2.cells.size=f/\∃ q:Nat×PV,c[j]? = some q/\L[j]? = some q.2.un/\q.2.size=f/\dC M B q.2 v.2/\q.2.okE=true)/\(e.map fun (i,x)=>(i,d x)).size=L.length:=by
 obtain ⟨l,t⟩:=aFY h hq;obtain ⟨u,w⟩:=aMS he;have m:(e.map fun (i,x)=>(i,d x)).toList=e.toList.map fun p=>(p.1,d p.2):=by simp
 refine ⟨fun j v hv => ?_,by rw[u,l]; simp⟩;rw[m] at hv;have r:=(jr.1 hv).1;have b:c[j]? = some (c[j]'(by rw[l]; exact r)):=kV _;obtain ⟨a1,a2⟩:=t j _ v b hv;obtain ⟨D,g,n,y⟩:=w j _ b;refine ⟨by omega,?_,_,b,y,g,a2,n⟩;generalize c[j]'(by rw[l]; exact r)=q at *;cases a:q.2 with
 | agg z =>rw[a] at a2 g;obtain ⟨A,o,C⟩:=rF.1 a2;have:=sS C;rw[o];simp[PV.size] at g;simp at this;show A.size=f;omega
 | tuple z=>rw[a] at n; simp[PV.okE,PV.one] at n
 | _ =>rw[(Gs (by rw[a]; rfl) a2).1,<- g,a]; rfl
theorem c43 {v:Value} (h:dC M B x v) (b:x.okE=true):∀ u,u∈v.cells.toList->u.oneCell'=true:=by
 have a:x.one=true->∀ u,u∈v.cells.toList->u.oneCell'=true:=fun c u d=>by
  rw[(Gs c h).1] at d;have:u=v:=by grind
  subst this; exact (Gs c h).2
 cases x with
 | agg e =>obtain ⟨g,rfl,f⟩:=rF.1 h;simp only[PV.okE,bQ] at b;exact a_C f (jq.1 b.1)
 | tuple e=>grind [PV.okE]
 | _=>exact a rfl
end
section
variable {n:Nat} {out:Nat->Nat} {M:Mem} {B:aT} {σ:ASt} {a:Act} {w:World} {E:AE}
theorem aFQ {p:PV} {b0 off m c b:Nat}:cu p (.slice (some ⟨b0,off,none⟩) m c) b<=if b0=b then 1 else 0:=by grind [cu]
theorem Pre.newRow (g:Inv n M B out σ a.tmps w) {ty:TypeId} {sz k:Nat} {es:ai} {cap:Nat} (o:0<sz) (r:∀ v,v∈K->v.oneCell'=true) (hk:k=es.length*sz) (d:es.length<=cap) (i:cap*sz<=K.size)
 (t:∀ e,e∈es->e.size=sz) (u:nz (laid M w.heap.size (K.toList.take k)) [] sz es w.heap.size 0) :
 Pre n out M B σ a.tmps w (laid M w.heap.size (K.toList.take k)) B σ (w.alloc (.cells K ty)) (.sl true sz es) (.slice (some ⟨w.heap.size,0,none⟩) es.length cap):=by
 obtain ⟨j,y⟩:=g.lay K ty k r;have C:=fun b (f:w.heap.size<=b)=>g.new b f
 refine ⟨j.inv,j.le,j.fr,fun b f => ?_,lM.2 ⟨_,cap,rfl,d,t,fun h=>absurd h (by omega),fun _=>⟨_,_,rfl,u⟩⟩,?_,fun b => ?_,fun b f => ?_⟩;grind [aFQ]
 .refine Ul (fun l h=>by cases h) ?_;intro z A x D q e ev;grind [heap_alloc_new,GX,GY]
 .have:=aFQ (p := .sl true sz es) (b0:=w.heap.size) (off:=0) (m:=es.length) (c:=cap) (b:=b);have:=g.cnt b;grind
 .have:=aFQ (p := .sl true sz es) (b0:=w.heap.size) (off:=0) (m:=es.length) (c:=cap) (b:=b);simp at f;rw[aX (by omega)] at this; omega
theorem qx:∀ {a:ai} {p:PV},p∈nG a->p.own=false
 | [],p,h=>by simp[nG] at h
 | e::a,p,h=>by
  cases e with
  | agg b =>
   rcases DZ.1 h with h | h
   .obtain ⟨x,_,rfl⟩:=uu.1 h; exact uG x
   .exact qx h
  | _ =>
   rw[nG] at h
   .rcases jy.1 h with rfl | h
    .exact uG _
    .exact qx h
   .simp
def aO7:∀ {c:ai} {d:List (Nat×Value)},c.length=d.length->(∀ (j:Nat) e v,c[j]? = some e->d[j]? = some v->dC M B e v.2/\e.okE=true)->bI M B (nG c) (d.flatMap fun v=>v.2.cells.toList)
 | [],[],_,_=>gZ.2 rfl
 | [],_::_,h,_=>by simp at h
 | _::_,[],h,_=>by simp at h
 | e::c,v::d,i,h=>by
  obtain ⟨f,l⟩:=h 0 e v rfl rfl;have g:=aO7 (by simpa using i) fun j e v a b=>h (j+1) e v (by simpa using a) (by simpa using b)
  rw[NQ];cases e with
  | agg m =>obtain ⟨p,n,o⟩:=rF.1 f;rw[n];exact Gw (Pn o) g
  | tuple m=>simp[PV.okE,PV.one] at l
  | _ =>
   rw[nG]
   .rw[(Gs rfl f).1];exact eP.2 ⟨_,_,rfl,uh.2 f,g⟩
   .simp
def c9W (p:PV):p.un.okE=p.okE:=by cases p<;>rfl
theorem bZR (y:Inv n M B out σ a.tmps w) {T:List Nat} (hT:nV f e=some m) {G:Array (Nat×Operand)} {U:List (Nat×PV)} (hq:wO (σ.rdT T) G.toList=some U) (he:Fh m.size 0 U=some L) {c:Nat} (z:L.length=c) (l:0<m.size) (K:c*m.size<=16777216) :
 (∃ v A N O,(Instr.buildSlice e c (G.map fun (i,x)=>(i,a.eval x))).run f w = .ok v A/\Pre n out M B σ a.tmps w N O σ A (.sl true m.size L) v) /\
 (∃ v A N O,(Instr.buildSlice e c (G.map fun (i,x)=>(i,a.eval x))).run f w = .ok v A/\Pre n out M B σ a.tmps w N O { σ with h:=σ.h ++ [some (nG L)] } A (.slh σ.h.length 0 c m.size) v)
 := by
 subst z;obtain ⟨V,Q⟩:=b72 (M:=M) (B:=B) (y.rdT T) hq he;obtain ⟨b,o⟩:=bZQ hT Q (fun j v hv=>by grind) l K w;generalize a':(G.map fun (i,x)=>(i,a.eval x))=ed at *;have r:=bAY (vs:=ed.toList) (sz:=m.size) fun j v hv=>(V j v hv).2.1
 have C:ed.toList.length=L.length:=by omega
 rw[C] at r;have g:∀ (j:Nat) b v,L[j]? = some b->ed.toList[j]? = some v->dC M B b v.2/\b.okE=true/\b.size=m.size:=fun j b v H J=>by obtain ⟨_,_,q,_,X,h4,h5,h6⟩:=V j v J;rw[H] at X; cases X;exact ⟨uh.2 h5,by rw[c9W]; exact h6,by rw[aJ8]; exact h4⟩
 have Y:∀ v,v∈(ed.toList.flatMap fun v=>v.2.cells.toList)->v.oneCell'=true:=by intro u D;obtain ⟨v,hv,D⟩:=List.mem_flatMap.1 D;obtain ⟨j,t⟩:=Jh.1 hv;grind [c43]
 refine ⟨?_,?_⟩
 .refine ⟨_,_,_,_,o,Pre.newRow y (k:=L.length*m.size) l (by grind) rfl (dO _) (by simp[r]) (fun b he => ?_) (Cb fun j p t => ?_)⟩
  .obtain ⟨j,t⟩:=Jh.1 he;have E:=(jr.1 t).1;exact (g j b _ t (kV (by omega))).2.2
  .have E:=(jr.1 t).1;have hv:ed.toList[j]? = some (ed.toList[j]'(by omega)):=kV (by omega);generalize ed.toList[j]'(by omega)=v at hv;obtain ⟨F,Z,r3⟩:=g j p v t hv;have F:=F.flat [] (b_M Z);have hm:=(KH y ((ed.toList.flatMap fun v=>v.2.cells.toList).toArray.toList.take (L.length*m.size))).none;have d:∀ i,i<m.size->∀ u,v.2.cells.toList[i]? = some u->laid M w.heap.size ((ed.toList.flatMap fun v=>v.2.cells.toList).toArray.toList.take (L.length*m.size)) w.heap.size (0+j*m.size+i)=some u:=fun i hi u D=>by rw[GX (GY y),ay rfl,qh,ay (by have:(j+1)*m.size<=L.length*m.size:=NV _ E;rw[rQ] at this; omega)];grind [bAX]
   cases p with
   | agg ds =>obtain ⟨us,e1,hr⟩:=rF.1 F;refine CZ.2 (OH fun i q hq => ?_);obtain ⟨u,D,Ie⟩:=yI hr hq;have hi:=(jr.1 hq).1;simp[PV.size] at r3;exact ⟨u,d i (by omega) u (by rw[e1]; exact D),Ie.mono hm⟩
   | tuple ds=>simp[PV.okE,PV.one] at Z
   | _ =>refine (LU rfl).2 ⟨v.2,?_,F.mono hm⟩;have:=d 0 (by simp[PV.size] at r3; omega) v.2 (by rw[(Gs rfl F).1]; rfl);simpa using this
 .have S:bI M B (nG L) (ed.toList.flatMap fun v=>v.2.cells.toList):=aO7 C.symm fun j b v H J=>⟨(g j b v H J).1,(g j b v H J).2.1⟩
  have hG:=y.newObj (ed.toList.flatMap fun v=>v.2.cells.toList).toArray b (nG L) (by have:=sS S; simp_all) (fun j p t=>by grind [yI,qx,ig,gY]);refine ⟨_,_,_,_,o,Pre.Ld hG (BP.2 ⟨(w.heap.size,(ed.toList.flatMap fun v=>v.2.cells.toList).toArray.size,b+1),L.length,⟨by rw[y.heap.1]; simp,by simp⟩,rfl,dO _,by simp[r]⟩) rfl⟩
end
section
variable {n:Nat} {out:Nat->Nat} {M:Mem} {B:aT} {σ:ASt} {a:Act} {w:World} {J b3 c5:TypeId} {Q:TypeInfo} {b0:Option Addr} {H:List Value} {c0:Bool} {D S:Operand} {b7:Type} {Y:ai} {X:ByteArray} {b8:d_}
theorem b5T (q:f.underlying e=some (.slice b3)) (r:f.info? b3=some Q) (v:Q.zero=some u) {p:Option Addr} {a b m c:Nat} {d:List Value}
 (l:(Builtin.firstCells Q.size a (.slice b0 a b)).run f w.drew = .ok H.toArray w.drew) (n:(Builtin.firstCells Q.size m (.slice p m c)).run f w.drew = .ok d.toArray w.drew)
 (x:b<a+m) (g:a+m<=aN) (y:Q.bytes<=1024) :
 (Builtin.append_ #[e,e] J #[.slice b0 a b,.slice p m c]).run f w =
  .ok (.slice (some ⟨w.heap.size,0,none⟩) (a+m) (grownCap w (a+m) b b3)) (w.drew.alloc (.cells (H.toArray ++ d.toArray ++ Builtin.zeroCells u.cells (grownCap w (a+m) b b3-(a+m))) b3)):=by
 unfold aN at g;have A:¬ (a+m<=b):=by omega
 have h:¬ (9223372036854775807<((a:Int)+(m:Int))):=by omega
 have o:(a+m)*Q.bytes<=140737488355328:=jO (Nat.mul_le_mul g y) (by decide);have j:¬ (281474976710656<Builtin.nextslicecap (a+m) b*Q.bytes):=by have:=growslice_fits x o; omega
 simp[Builtin.append_,gm q,sizeOf,typeInfo,zeroValue,r,v,Builtin.lenOf,A,h,j,Question.forced,l,n,newRow,grownCap];grind
def b5X (o:f.underlying e=some (.slice b3)) (p:f.info? b3=some Q) {g b a d m c:Nat} 
 (l:(Builtin.firstCells Q.size m (.slice b0 m c)).run f w = .ok H.toArray w) (q:w.heap[g]? = some (.cells K c5 (0,0))) (h:a+m<=d) (r:∀ u,u∈H->u.oneCell'=true) (n:b+a*Q.size+H.length<=K.size) :
 (Builtin.append_ #[e,e] J #[.slice (some ⟨g,b,none⟩) a d,.slice b0 m c]).run f w =
  .ok (.slice (some ⟨g,b,none⟩) (a+m) d) (w.setRow g (K.toList.take (b+a*Q.size) ++ H ++ K.toList.drop (b+a*Q.size+H.length)).toArray):=by
 have j:=run_storeCells_at f g (b+a*Q.size) c5 H 0 K w q (by omega) r;simp only[VE] at j;simp[Builtin.append_,gm o,sizeOf,typeInfo,p,Builtin.lenOf,h,l,h_,j]
def b5V (b:f.underlying e=some (.slice b3)) (d:f.info? b3=some Q) {c:Nat} 
 (a:(Builtin.firstCells Q.size 0 (.slice b0 0 c)).run f w = .ok H.toArray w) :
 (Builtin.append_ #[e,e] J #[.slice none 0 0,.slice b0 0 c]).run f w = .ok (.slice none 0 0) w:=by
 simp[Builtin.append_,gm b,sizeOf,typeInfo,d,Builtin.lenOf,a]
def aOB {b:Nat}:fp B σ K w.drew b=fp B σ K w b:=by simp only[fp]; rw[J8 (w':=w.drew) (w:=w) b (fun _ _ _ _ _=>rfl)]
theorem aNW {P:Program} {f a:Nat} (n:∀ e,e∈L->e.size=f) (t:L.length<=a) (y:L ≠ []->∃ b c,b0=some ⟨b,c,none⟩/\nz M [] f L b c) (p:∀ (b o:Nat) (v:Value),M b o=some v->w.cell? ⟨b,o,none⟩=some v/\v.oneCell'=true) :
 ∃ g:List Value,g.length=L.length*f/\(∀ d,(∀ (b o:Nat) (v:Value),M b o=some v->d.cell? ⟨b,o,none⟩=some v)->(Builtin.firstCells f L.length (.slice b0 L.length a)).run P d = .ok g.toArray d)/\(∀ u,u∈g->u.oneCell'=true) /\
  ∀ (i:Mem) (l m:Nat),(∀ (b o:Nat) (v:Value),M b o=some v->i b o=some v)->(∀ (j:Nat) v,g[j]? = some v->i l (m+j)=some v)->nz i [] f L l m:=by
 cases b0 with
 | none =>
  have:L = []:=by simp_all
  subst this;exact ⟨[],by simp,fun d _=>by rfl,by simp,fun _ _ _ _ _=>QQ⟩
 | some x =>
  by_cases h:L = []
  .subst h;exact ⟨[],by simp,fun d _=>run_firstCells_some (P:=P) d f 0 x 0 a [] (by simp) (fun j v hv=>by simp at hv),by simp,fun _ _ _ _ _=>QQ⟩
  obtain ⟨b,c,z,q⟩:=y h;cases z;obtain ⟨g,r,E⟩:=aY6 q n;refine ⟨g,r,fun d F=>run_firstCells_some (P:=P) d f L.length ⟨b,c,none⟩ L.length a g r (fun j v hv=>by rw[h_]; simp_all),fun u B => ?_,fun i l m C G=>bZZ q n C fun j D v hv => ?_⟩
  .obtain ⟨j,D⟩:=Jh.1 B;grind
  simp_all
def Yx {M:Mem} {B:aT} {a:Nat}:dC M B (.sl g a L) u↔dC M B (.sl c0 a L) u:=by rw[lM,lM]
theorem b0U {b:Nat} (d:g=true\/b=0) (l:dC M B (.sl g b L) u) (e:Tl M w (.sl g b L) u):∀ A c,u = .slice A L.length c->(A=none->c=0)/\(b=0->A=none)/\∀ a,A=some a->(PV.sl g b L).own=true/\∃ f m,w.heap[a.block]? = some (.cells f m (0,0))/\a.off+c*b<=f.size/\(∀ o,a.off+L.length*b<=o->M a.block o=none)/\a.spot=none/\a.off=0:=fun A c h=>by
 obtain ⟨C,i,j,_,_,n,_⟩:=lM.1 l;rw[h] at j; injection j with p _ q; subst p; subst q
 by_cases r:b=0;simp_all
 .have:=d.resolve_right r;subst this;obtain ⟨t,x,y⟩:=e.s b L _ _ _ rfl h;exact ⟨t,x,fun a z=>⟨rfl,y a z⟩⟩
def a0J (w g:World) (e:TypeId) (b:Nat) (h v:Value):Prop:=∀ A n a,v = .slice (some A) n a->∃ d f,g.heap[A.block]? = some (.cells d f (0,0))/\((f=e/\d.size=a*b/\a<=maxLen)\/∃ A0 i c,h = .slice (some A0) i a/\w.heap[A0.block]? = some (.cells c f (0,0))/\d.size=c.size)
theorem aLG (L:Inv n M B out σ a.tmps w) {P:Program} {t u ty e:TypeId} {I:TI} {i:TypeInfo} {z:Value} {d:TypeDesc} (qN:xq P e I i z d) {s:Operand} {X:Value} {sz:Nat} {es es':ai} {p0:PV} (hs:σ.ev s=some p0) (hr:dC M B (.sl true sz es) (a.eval s))
 (a':∀ A cap,a.eval s = .slice A es.length cap->(A=none->cap=0)/\(sz=0->A=none)/\∀ a,A=some a->p0.own=true/\∃ cs ty,w.heap[a.block]? = some (.cells cs ty (0,0))/\a.off+cap*sz<=cs.size/\(∀ o,a.off+es.length*sz<=o->M a.block o=none)/\a.spot=none/\a.off=0)
 (b0:0<I.size) (e6:I.bytes<=1024) (N:sz=I.size\/sz=0) (e7:∀ p,p∈es'->p.size=I.size) (O:es.length+es'.length<=aN)
 {news:List Value} (n1:news.length=es'.length*I.size) (n3:∀ u,u∈news->u.oneCell'=true)
 (n4:∀ (M':Mem) (b' o':Nat),(∀ (b o:Nat) (v:Value),M b o=some v->M' b o=some v)->(∀ (j:Nat) v,news[j]? = some v->M' b' (o'+j)=some v)->nz M' [] I.size es' b' o')
 (c6:es' = []->(Builtin.append_ #[t,u] ty #[.slice none 0 0,X]).run P w = .ok (.slice none 0 0) w)
 (c7:∀ {g off sLen sCap:Nat} {m:Array Value} {D:TypeId},w.heap[g]? = some (.cells m D (0,0))->sLen+es'.length<=sCap->off+sLen*i.size+news.length<=m.size ->
  (Builtin.append_ #[t,u] ty #[.slice (some ⟨g,off,none⟩) sLen sCap,X]).run P w = .ok (.slice (some ⟨g,off,none⟩) (sLen+es'.length) sCap) (w.setRow g (m.toList.take (off+sLen*i.size) ++ news ++ m.toList.drop (off+sLen*i.size+news.length)).toArray))
 (c9:∀ {base:Option Addr} {sLen sCap:Nat} {olds:List Value},(Builtin.firstCells i.size sLen (.slice base sLen sCap)).run P w.drew = .ok olds.toArray w.drew->sCap<sLen+es'.length->sLen+es'.length<=aN ->
  (Builtin.append_ #[t,u] ty #[.slice base sLen sCap,X]).run P w = .ok (.slice (some ⟨w.heap.size,0,none⟩) (sLen+es'.length) (grownCap w (sLen+es'.length) sCap e)) (w.drew.alloc (.cells (olds.toArray ++ news.toArray ++ Builtin.zeroCells z.cells (grownCap w (sLen+es'.length) sCap e-(sLen+es'.length))) e))) :
 ∃ v w' M' B',(Builtin.append_ #[t,u] ty #[a.eval s,X]).run P w = .ok v w'/\Pre n out M B σ a.tmps w M' B' (σ.clr s) w' (.sl true I.size (es ++ es')) v/\a0J w w' e i.size (a.eval s) v:=by
 have E:=qN.size;have e8:=qN.bytes;obtain ⟨c1,Z,c3⟩:=L.aB5 hs;obtain ⟨A,cap,e1,K,e9,c',hA⟩:=lM.1 hr;obtain ⟨hn,hz,b1⟩:=a' A cap e1;have e':sz=I.size\/es = []:=N.imp id fun h=>(c' h).1
 have d3:∀ p,p∈es->p.size=I.size:=fun p hp=>by grind
 have d4:es ≠ []->∃ b off,A=some ⟨b,off,none⟩/\nz M [] I.size es b off:=fun T=>by simp_all
 obtain ⟨olds,o1,o2,o3,o4⟩:=aNW (P:=P) d3 K d4 L.mem;have b2:∀ p,p∈es ++ es'->p.size=I.size:=fun p hp=>by grind
 rw[e1];by_cases r:es.length+es'.length<=cap
 .cases A with
  | none =>
   have d5:=hn rfl;have h1:es = []:=oK (by omega);have h2:es' = []:=oK (by omega);subst h1; subst h2; subst d5;refine ⟨.slice none 0 0,w,M,B,c6 rfl,⟨c1,gQ.refl _ _,Fr.refl _ _ _,fun b _ => ?_,lM.2 ⟨none,0,rfl,dO _,by simp,fun _=>⟨rfl,rfl,rfl⟩,by simp⟩,Ul (fun l h=>by cases h) fun _ _ _ _ _ _ e=>by grind,fun b => ?_,fun b _=>by simp[cu]⟩,fun A n cap e=>by cases e⟩
   .have:=Z b; simp[cu] at *; omega
   .have:=Z b; have:=L.cnt b; simp[cu] at *; omega
  | some ad =>
   obtain ⟨g,off,rfl,b3⟩:∃ b off,ad=⟨b,off,none⟩/\nz M [] I.size es b off:=by
    by_cases T:es = []
    .obtain ⟨_,_,_,_,_,_,b4⟩:=b1 ad rfl;have b4:=b4.1;exact ⟨ad.block,ad.off,by cases ad; simp_all,by rw[T]; exact QQ⟩
    simp_all
   obtain ⟨d6,m,D,t1,t2,t3,_,b5⟩:=b1 _ rfl;simp only at t1 t2 t3 b5;have Q:∀ b,cu p0 (a.eval s) b=if g=b then 1 else 0:=fun b=>by rw[e1]; simp[cu,d6]
   have f0:fp B σ a.tmps w g=1/\out g=0/\fp B (σ.clr s) a.tmps w g=0:=by have:=L.cnt g; have:=Z g; rw[Q,ay rfl] at this; omega
   have d7:∀ o,off+es.length*I.size<=o->M g o=none:=fun o ho=>t3 o (by simp_all)
   have b6:sz=I.size:=N.resolve_right fun h=>by have:=hz h; cases this
   rw[b6] at t2;have b7:off+es.length*I.size+news.length<=m.size:=by rw[n1];have:(es.length+es'.length)*I.size<=cap*I.size:=NV _ r;rw[rQ] at this; omega
   have y:=c7 (g:=g) (off:=off) (sLen:=es.length) (sCap:=cap) t1 r (by rw[<- E]; exact b7);rw[<- E] at y;generalize hk:off+es.length*I.size=k at *;have f3:g<w.heap.size:=(DW.1 t1).1;generalize U:(m.toList.take k ++ news ++ m.toList.drop (k+news.length)).toArray=c at *;have b8:c.size=m.size:=by rw[<- U]; simp; omega
   have b9:∀ j,j<news.length->c[k+j]? = news[j]? := fun j hj=>by
    rw[<- U];rw[List.getElem?_toArray];have hl:(m.toList.take k).length=k:=by simp; omega
    rw[zU,QY (by omega),hl,aJS,Ba hj]
   have d':∀ o,o<k->c[o]? = m[o]? := fun o ho=>by
    rw[<- U];rw[List.getElem?_toArray];have hl:(m.toList.take k).length=k:=by simp; omega
    rw[zU,Ba (by omega),qh,ay ho]; simp
   have hM:∀ (b o:Nat) (v:Value),M b o=some v->(if b=g/\k<=o/\o<k+news.length then news[o-k]? else M b o)=some v:=fun b o v h=>by
    by_cases T:b=g/\k<=o/\o<k+news.length;simp_all
    .rw[aX T]; exact h
   have F:(w.setRow g c).heap[g]? = some (.cells c D (0,0)):=setRow_heap w g m _ D (0,0) t1;have e0:∀ b,b≠g->(w.setRow g c).heap[b]? = w.heap[b]? := fun b G=>setRow_other w g b _ G
   obtain ⟨M2,H⟩:∃ M2:Mem,∀ b o,M2 b o=if b=g/\k<=o/\o<k+news.length then news[o-k]? else M b o:=⟨Ce _ _,Iy fun b o v h=>hM b o v (M.g _ _ _ h)⟩
   have C:gQ M M2 B B:=⟨fun b o v h=>by rw[H]; grind,fun _ _ h=>h⟩;obtain ⟨f1,f2⟩:=c1.ext (w':=w.setRow g c) C (fun b o v h=>by
    by_cases G:b=g
    .subst G;have V:(w.setRow b c).cell? ⟨b,o,none⟩=c[o]? := by simp[World.cell?,F]
     rw[V];by_cases T:k<=o/\o<k+news.length
     .rw[H,ay ⟨rfl,T⟩] at h;have:=b9 (o-k) (by omega);rw[show k+(o-k)=o by omega] at this;grind
     .rw[H,aX (fun x=>T x.2)] at h;have hm:=L.mem b o v h;have:o<k:=by grind
      have h3:w.cell? ⟨b,o,none⟩=m[o]? := by simp[World.cell?,t1]
      grind
    .rw[H,aX (fun x=>G x.1)] at h;have hm:=L.mem b o v h;grind [World.cell?_of_block]) (fun b G=>by
    have d8:b≠g:=fun e=>by grind
    grind) (by simp[World.setRow])
   have J:∀ b,cu (.sl true I.size (es ++ es')) (.slice (some ⟨g,off,none⟩) (es.length+es'.length) cap) b=if g=b then 1 else 0:=fun b=>by rfl
   refine ⟨_,_,_,_,y,⟨f1,C,⟨rfl,rfl,rfl,by simp[World.setRow],fun b G h0 => ?_⟩,fun b G => ?_,lM.2 ⟨_,cap,by rw[aY],by rw[aY]; exact r,b2,fun h=>absurd h (by omega),fun _ => ?_⟩,?_,fun b => ?_,fun b G => ?_⟩,fun A2 c0 S e2=>by grind⟩
   .have d8:b≠g:=fun e=>by grind
    grind
   grind
   .refine ⟨g,off,rfl,aY4 (b3.mono C.none) ?_⟩;rw[hk];refine n4 _ _ _ C.mem fun j v hv => ?_
    have hj:=(jr.1 hv).1;rw[H,ay ⟨rfl,by omega,by omega⟩,aJS]; exact hv
   .refine Ul (fun l h=>by cases h) ?_;intro f4 f5 x2 c0 S e3 e4;cases e3; cases e4;refine ⟨by simp,fun h=>absurd h (by omega),fun x hx => ?_⟩;cases hx;refine ⟨c,D,F,by rw[b8]; exact t2,fun o ho => ?_,rfl,b5⟩;simp only at ho;have f6:off+(es ++ es').length*I.size=k+news.length:=by rw[aY,rQ,n1]; omega
    grind
   .rw[f2,J]; have:=Z b; rw[Q] at this; have:=L.cnt b; omega
   .rw[J,aX];grind
 .have y:=c9 (base:=A) (sLen:=es.length) (sCap:=cap) (olds:=olds) (by rw[<- E]; exact o2 w.drew fun b o v h=>(L.mem b o v h).1) (by omega) O;obtain ⟨d1,d2⟩:=c1.drew;have d9:=grownCap_ge w (es.length+es'.length) cap e;have c4:(es ++ es').length*I.size=olds.length+news.length:=by rw[o1,n1,aY,rQ]
  have Y:((olds.toArray ++ news.toArray ++ Builtin.zeroCells z.cells (grownCap w (es.length+es'.length) cap e-(es.length+es'.length))).toList.take ((es ++ es').length*I.size))=olds ++ news:=by rw[c4];grind [List.take_left]
  have c5:∀ v,v∈(olds.toArray ++ news.toArray ++ Builtin.zeroCells z.cells (grownCap w (es.length+es'.length) cap e-(es.length+es'.length)))->v.oneCell'=true:=fun v hv=>by
   rcases Array.mem_append.1 hv with hv | hv
   grind
   .unfold Builtin.zeroCells at hv;obtain ⟨j,hj,rfl⟩:=Array.mem_map.1 hv;by_cases h0:z.cells.size=0
    .rw[h0] at hj; simp at hj
    .have:j % z.cells.size<z.cells.size:=Nat.mod_lt _ (by omega);rw[getElem!_pos z.cells _ this];exact qN.one _ (Array.getElem_mem _)
  have e5:=d1.mem;have q:=Pre.newRow (a:=a) d1 (ty:=e) (sz:=I.size) (k:=(es ++ es').length*I.size) (es:=es ++ es') (cap:=grownCap w (es.length+es'.length) cap e) b0 c5 rfl (by rw[aY]; exact d9) (by
   simp only[Array.size_append,List.size_toArray,size_zeroCells,qN.a9P,<- E,o1,n1];rw[<- rQ,<- rQ];exact NV _ (by omega)) b2 (by
   rw[Y];have K:=KH d1 (olds ++ news);refine aY4 (o4 _ _ _ K.mem fun j v hv => ?_) (n4 _ _ _ K.mem fun j v hv => ?_)
   .show laid M w.drew.heap.size (olds ++ news) w.drew.heap.size (0+j)=some v;rw[GX (GY d1),ay rfl,xh,Ba (jr.1 hv).1]; exact hv
   .show laid M w.drew.heap.size (olds ++ news) w.drew.heap.size (0+es.length*I.size+j)=some v;rw[GX (GY d1),ay rfl,xh,<- o1,QY (Nat.le_add_right _ _),aJS]; exact hv)
  rw[aY] at q;refine ⟨_,_,_,_,y,⟨q.inv,q.le,?_,fun b G => ?_,q.rep,q.tl,q.cnt,q.new⟩,fun A2 c0 S e2=>by
   cases e2;refine ⟨_,e,aA1 w.drew _,.inl ⟨rfl,?_,grownCap_le_maxLen w _ cap e (by unfold aN at O; unfold maxLen; omega)⟩⟩;simp only[Array.size_append,List.size_toArray,size_zeroCells,qN.a9P,o1,n1,E];rw[<- rQ,<- rQ];congr 1
   omega⟩
  .refine (Fr.trans (f:=fp B σ a.tmps w) (g:=fp B (σ.clr s) a.tmps w.drew) (M':=M) (w':=w.drew) ⟨rfl,rfl,rfl,dO _,fun _ _ _=>⟨rfl,fun _=>rfl⟩⟩ q.fr fun b G h0 => ?_);have:=Z b;rw[aOB];omega
  .have h1:=q.own b G;have h2:=Z b;rw[aOB] at h1;exact jO h1 (by omega)
def aAJ (M:Mem) (w:World) (f:PV) (c:Nat) (d:ai) (v:Value):Prop:=∀ A b,v = .slice A d.length b->(A=none->b=0)/\(c=0->A=none)/\∀ a,A=some a->f.own=true/\∃ e g,w.heap[a.block]? = some (.cells e g (0,0))/\a.off+b*c<=e.size/\(∀ o,a.off+d.length*c<=o->M a.block o=none)/\a.spot=none/\a.off=0
def aYH {p:b7->World->Prop} {q:b7->World->Mem->aT->Prop} {r d:b7->World->Prop} (e:∀ v a,r v a->d v a) (h:∃ v a b c,p v a/\q v a b c/\r v a):∃ v a b c,p v a/\q v a b c/\d v a:=let ⟨v,a,b,c,f,g,i⟩:=h; ⟨v,a,b,c,f,g,e v a i⟩
def aMQ {p:b7->World->Prop} {q:b7->World->Mem->aT->Prop} {r:b7->World->Prop} (h:∃ v a b c,p v a/\q v a b c/\r v a):∃ v a b c,p v a/\q v a b c:=let ⟨v,a,b,c,d,e,_⟩:=h; ⟨v,a,b,c,d,e⟩
theorem aLH (r:Inv n M B out σ a.tmps w) {P:Program} {ty:TypeId} (hT:nV P e=some m) {N f:Nat} (hs:σ.ev D=some x) (T:dC M B (.sl true N L) (a.eval D)) (y:aAJ M w x N L (a.eval D)) (hx:σ.rd S=some (.sl g f Y))
 (A:0<m.size) (C:m.bytes<=1024) (E:N=m.size\/N=0) (U:f=m.size\/f=0) (F:L.length+Y.length<=aN) :
 ∃ v O M' B',(Builtin.append_ #[e,e] ty #[a.eval D,a.eval S]).run P w = .ok v O/\Pre n out M B σ a.tmps w M' B' (σ.clr D) O (.sl true m.size (L ++ Y)) v/\∃ c,P.underlying e=some (.slice c)/\a0J w O c m.size (a.eval D) v:=by
 obtain ⟨c,i,z,d,Q,l⟩:=Fg hT;have j:=l.size;have V:=l.bytes;have Z:=(r.rd S _ hx).1;obtain ⟨A',G,e2,a',b6,b0,b7⟩:=lM.1 Z;have b4:f=m.size\/Y = []:=U.imp id fun h=>(b0 h).1
 have H:∀ p,p∈Y->p.size=m.size:=fun p hp=>by grind
 have b1:Y ≠ []->∃ b J,A'=some ⟨b,J,none⟩/\nz M [] m.size Y b J:=fun hc=>by simp_all
 obtain ⟨b5,n1,n2,n3,n4⟩:=aNW (P:=P) H a' b1 r.mem;rw[e2];refine aYH (fun v O h=>⟨c,Q,j▸h⟩) (aLG (ty:=ty) (u:=e) r l hs T y A C E H F n1 n3 n4 (X := .slice A' Y.length G) (fun h0 => ?_) (fun hh q K => ?_) (fun b2 hg b3 => ?_))
 .subst h0;exact b5V Q l.info (by rw[<- j]; exact n2 w fun b g v h=>(r.mem b g v h).1)
 .exact b5X Q l.info (by rw[<- j]; exact n2 w fun b g v h=>(r.mem b g v h).1) hh q n3 K
 .exact b5T Q l.info l.zero b2 (by rw[<- j]; exact n2 w.drew fun b g v h=>(r.mem b g v h).1) hg b3 (by rw[<- V]; exact C)
def b5' (u:Inv n M B out σ a.tmps w) {ty:TypeId} (A:nV f e=some m) {j b:Nat} (l:c0=true\/j=0) (y:σ.ev D=some (.sl c0 j L)) (C:σ.rd S=some (.sl g b Y))
 (c:0<m.size) (p:m.bytes<=1024) (d:j=m.size\/j=0) (q:b=m.size\/b=0) (h:L.length+Y.length<=aN) :
 ∃ v z E F,(Builtin.append_ #[e,e] ty #[a.eval D,a.eval S]).run f w = .ok v z/\Pre n out M B σ a.tmps w E F (σ.clr D) z (.sl true m.size (L ++ Y)) v:=by
 obtain ⟨i,r⟩:=u.ev y;exact aMQ (aLH u A y (Yx.1 i) (b0U l i r) C c p d q h)
theorem b5U {P:Program} (l:P.underlying e=some (.slice c5)) (m:P.underlying J=some .string) (n:P.info? c5=some Q) (o:Q.zero=some u) {a b:Nat} 
 (g:(Builtin.firstCells Q.size a (.slice b0 a b)).run P w.drew = .ok H.toArray w.drew) (p:b<a+X.size) (c:a+X.size<=aN) (q:Q.bytes<=1024) :
 (Builtin.append_ #[e,J] b3 #[.slice b0 a b,.string X]).run P w =
  .ok (.slice (some ⟨w.heap.size,0,none⟩) (a+X.size) (grownCap w (a+X.size) b c5)) (w.drew.alloc (.cells (H.toArray ++ (Lib.strCells X).toArray ++ Builtin.zeroCells u.cells (grownCap w (a+X.size) b c5-(a+X.size))) c5)):=by
 unfold aN at c;have r:¬ (a+X.size<=b):=by omega
 have d:¬ (9223372036854775807<((a:Int)+(X.size:Int))):=by omega
 have h:(a+X.size)*Q.bytes<=140737488355328:=jO (Nat.mul_le_mul c q) (by decide);have f:¬ (281474976710656<Builtin.nextslicecap (a+X.size) b*Q.bytes):=by have:=growslice_fits p h; omega
 have j:=b3N (P:=P) w.drew Q.size X;simp[Builtin.append_,gm l,gm m,sizeOf,typeInfo,zeroValue,n,o,Builtin.lenOf,r,d,f,Question.forced,g,j,newRow,grownCap];grind
def b5W {P:Program} (c:P.underlying e=some (.slice c5)) (d:P.underlying J=some .string) (f:P.info? c5=some Q) (b:X.size=0) :
 (Builtin.append_ #[e,J] b3 #[.slice none 0 0,.string X]).run P w = .ok (.slice none 0 0) w:=by
 have a:=b3N (P:=P) w Q.size X;rw[b,show Lib.strCells X = [] from oK (by rw[Lib.strCells_length]; exact b)] at a;simp[Builtin.append_,gm c,gm d,sizeOf,typeInfo,f,Builtin.lenOf,b,a]
theorem aLI (Z:Inv n M B out σ a.tmps w) {P:Program} {t u ty:TypeId} {I:TI} (hT:nV P t=some I) (L:yj P u=true) {s x:Operand} {F:Nat} {G:ai} {b:ByteArray} {p0:PV} (hs:σ.ev s=some p0) (N:dC M B (.sl true F G) (a.eval s)) (r:aAJ M w p0 F G (a.eval s)) (hx:σ.rd x=some (.str b))
 (c:I.size=1) (y:I.bytes<=1024) (A:F=I.size\/F=0) (C:G.length+b.size<=aN) :
 ∃ v H M' B',(Builtin.append_ #[t,u] ty #[a.eval s,a.eval x]).run P w = .ok v H/\Pre n out M B σ a.tmps w M' B' (σ.clr s) H (.sl true I.size (G ++ MV b)) v/\∃ e,P.underlying t=some (.slice e)/\a0J w H e I.size (a.eval s) v:=by
 obtain ⟨e,i,z,d,J,o⟩:=Fg hT;have O:=o.size;have Q:=o.bytes;have q:=Y7 L;rw[kz.1 (Z.rd x _ hx).1];have f:=c7V b;refine aYH (fun v H h=>⟨e,J,O▸h⟩) (aLG (ty:=ty) (u:=u) (t:=t) (X := .string b) Z o hs N r (es':=MV b) (by omega) y A (fun p hp => ?_) (by rw[f]; exact C) (news:=Lib.strCells b) (by rw[Lib.strCells_length,f,c,Nat.mul_one]) (Lib.strCells_oneCell b) (fun M' b' o' hM hc => ?_) (fun h0 => ?_) (fun {g S D a' T U} hh l b0 => ?_) (fun V hg E => ?_))
 .obtain ⟨x,_,rfl⟩:=uu.1 hp;rw[c]; rfl
 .rw[c];refine Cb fun j p K => ?_
  unfold MV at K;rw[nP] at K;cases hv:b.data.toList[j]? with
  | none=>simp_all
  | some v =>simp[hv] at K; subst K;refine (LU rfl).2 ⟨_,?_,iK.2 rfl⟩;rw[Nat.mul_one];grind [Lib.strCells]
 .exact b5W J q o.info (by rw[<- f,h0]; rfl)
 .rw[f] at l ⊢;have m:=run_storeCells_at P g (S+D*i.size) U (Lib.strCells b) 0 T w hh (by omega) (Lib.strCells_oneCell b);simp only[VE] at m;have Y:=b3N (P:=P) w i.size b;simp[Builtin.append_,gm J,gm q,sizeOf,typeInfo,o.info,Builtin.lenOf,l,Y,h_,m]
 .rw[f] at hg E ⊢;exact b5U J q o.info o.zero V hg E (by rw[<- Q]; exact y)
def b62 (r:Inv n M B out σ a.tmps w) {ty:TypeId} (A:nV f e=some m) (C:TZ f e=true) (l:yj f J=true) {j:Nat} (o:g=true\/j=0) (y:σ.ev D=some (.sl g j L)) (E:σ.rd S=some (.str X))
 (c:m.size=1) (p:m.bytes<=1024) (d:j=m.size\/j=0) (h:L.length+X.size<=aN) :
 ∃ v z F G,(Builtin.append_ #[e,J] ty #[a.eval D,a.eval S]).run f w = .ok v z/\Pre n out M B σ a.tmps w F G (σ.clr D) z (.sl true m.size (L ++ MV X)) v:=by
 obtain ⟨i,q⟩:=r.ev y;exact aMQ (aLI r A l y (Yx.1 i) (b0U o i q) E c p d h)
theorem b0T (a:TlT M w (.eF b8) u):aAJ M w (.eF b8) 1 (pJ b8) u:=fun A b e=>by obtain ⟨c,d⟩:=a b8 A _ b rfl e;refine ⟨c,fun h=>absurd h (by omega),fun x f=>⟨rfl,?_⟩⟩;grind [O_]
theorem Pre.eF {g:Mem} {p:aT} {c:ASt} {i:World} {q:Value} {d:d_} (he:L=pJ d) (h:Pre n out M B σ K w g p c i (.sl true 1 (pJ b8 ++ L)) u) (y:a0J w i OG 1 q u) (z:TlT M w (.eF b8) q) :
 Pre n out M B σ K w g p c i (.eF (b8 ++ d)) u:=by
 subst he;have f:∀ b,cu (.eF (b8 ++ d)) u b=cu (.sl true 1 (pJ b8 ++ pJ d)) u b:=fun b=>by rfl
 refine ⟨h.inv,h.le,h.fr,fun b j=>by rw[f]; exact h.own b j,?_,⟨(fun _ _ _ _ _ e=>by cases e),fun Q A m a e ev => ?_,fun _ _ _ _ _ _ e _=>by cases e⟩,fun b=>by rw[f]; exact h.cnt b,fun b j=>by rw[f]; exact h.new b j⟩
 .refine Yz.1 ?_;rw[aLU];exact Yx.1 h.rep
 .cases e;obtain ⟨C,_,D⟩:=h.tl.s 1 _ A m a rfl ev;refine ⟨C,fun x r => ?_⟩;obtain ⟨S,T,E,U,F,V,G⟩:=D x r;subst r;obtain ⟨H,I,k1,k2⟩:=y x m a ev;rw[E] at k1;injection k1 with k1; injection k1 with k1 k3 _; subst k1; subst k3
  have X:∀ o,(b8 ++ d).length<=o->g x.block o=none:=fun o f=>F o (by rw[<- aLU,O_,G]; omega)
  rcases k2 with ⟨rfl,t,J⟩|⟨A0,N,O,t,J,Y⟩
  simp_all
  .obtain ⟨_,Z⟩:=z b8 (some A0) N a rfl t;grind
theorem aMR (h:yf f e=some J):f.underlying e=some (.slice J):=by grind [yf]
def b5Z (z:Inv n M B out σ a.tmps w) {ty:TypeId} (G:nV f e=some m) (j:yf f e=some OG) (o:yj f J=true) (A:σ.ev D=some (.eF b8)) (H:σ.rd S=some (.str X))
 (d:m.size=1) (p:m.bytes<=1024) (g:b8.length+X.size<=aN) :
 ∃ v i q r,(Builtin.append_ #[e,J] ty #[a.eval D,a.eval S]).run f w = .ok v i/\Pre n out M B σ a.tmps w q r (σ.clr D) i (.eF (b8 ++ X.data.toList)) v:=by
 obtain ⟨y,h⟩:=z.ev A;obtain ⟨v,i,q,r,K,C,c,E,F⟩:=aLI (ty:=ty) z G o A (Yx.1 (Yz.2 y)) (b0T h.t) H d p (.inl d.symm) (by rw[O_]; exact g);rw[aMR j] at E; cases E;rw[d] at C F;exact ⟨v,i,q,r,K,C.eF (c7U X) F h.t⟩
def b5Y (A:Inv n M B out σ a.tmps w) {ty:TypeId} (H:nV f e=some m) (q:yf f e=some OG) (C:σ.ev D=some (.eF b8)) (J:σ.rd S=some (.sl g 1 [.int .u8 O]))
 (d:m.size=1) (r:m.bytes<=1024) (h:b8.length+1<=aN) (K:0<=O) (i:O<256) :
 ∃ v p u y,(Builtin.append_ #[e,e] ty #[a.eval D,a.eval S]).run f w = .ok v p/\Pre n out M B σ a.tmps w u y (σ.clr D) p (.eF (b8 ++ [UInt8.ofNat O.toNat])) v:=by
 obtain ⟨z,j⟩:=A.ev C;obtain ⟨v,p,u,y,L,E,b,F,G⟩:=aLH (ty:=ty) A H C (Yx.1 (Yz.2 z)) (b0T j.t) J (by omega) r (.inl d.symm) (.inl d.symm) (by rw[O_]; exact h);rw[aMR q] at F; cases F;rw[d] at E G;exact ⟨v,p,u,y,L,E.eF (b_S K i).symm G j.t⟩
end
section
variable {n:Nat} {out:Nat->Nat} {M:Mem} {B:aT} {σ:ASt} {a:Act} {w:World}
theorem aO4 {a:Type} {l:List a}:∀ {n j:Nat},j<n*l.length->((List.replicate n l).flatten)[j]? = l[j % l.length]?
 | 0,j,h=>by simp at h
 | n+1,j,h=>by
  rw[List.replicate_succ,List.flatten_cons];rcases F9 j l.length with h' | h'
  .rw[Ba h',Nat.mod_eq_of_lt h']
  .rw[QY h',Nat.mod_eq_sub_mod h'];exact aO4 (by rw[C_] at h; omega)
variable {b7:Type} {Q:TypeInfo} {y:TypeDesc}
theorem aO5 {l:List b7} {n:Nat}:((List.replicate n l).flatten).length=n*l.length:=by simp
theorem b84 (c:Array Value) (n k:Nat) (hk:k=n*c.size):(madeCells c k).toList=(List.replicate n c.toList).flatten:=by subst hk;apply QX;grind [aO4,madeCells,aO5]
def b3I (b:xq f e m Q u y) (a:Nat):F5 a m=((List.replicate a u.cells.toList).flatten).map pg:=by rw[cB7,b.aDJ,List.map_flatten,List.map_replicate]
def b3H (b:xq f e m Q u y) (a:Nat):(F5 a m).length=a*m.size:=by rw[b3I b,aZ,aO5,b.size,<- b.a9P]; simp
def aO6 {l:List b7} {n:Nat} {x:b7} (h:x∈(List.replicate n l).flatten):x∈l:=by obtain ⟨c,b,a⟩:=List.mem_flatten.1 h;rw[(List.mem_replicate.1 b).2] at a; exact a
theorem b8D (H:Inv n M B out σ a.tmps w) {P:Program} {ty b:TypeId} (l:P.underlying e=some (.slice b)) (o:xq P b m Q u y) {j off f:Nat} {v:Value} (hv:dC M B (.slh j off f m.size) v) (x:σ.h[j]? = some (some L)) (G:off+f*m.size<=L.length) :
 ∃ r,(Builtin.clear_ #[e] ty #[v]).run P w = .ok (.tuple #[]) r/\Good n out M B σ a.tmps w M B { σ with h:=σ.h.set j (some (L.take off ++ (F5 f m).map PV.un ++ L.drop (off+f*m.size))) } a.tmps r:=by
 obtain ⟨c,J,⟨K,A⟩,rfl,_,_⟩:=BP.1 hv;have C:=b84 u.cells f (f*u.cells.size) rfl;have q:(Builtin.zeroCells u.cells f).toList=(List.replicate f u.cells.toList).flatten:=by rw[<- C]; rfl
 have N:bI M B ((F5 f m).map PV.un) ((List.replicate f u.cells.toList).flatten):=by rw[b3I o];refine Pn (Pm (by simp) fun k p g D l => ?_);rw[nP,l] at D;simp at D; subst D;exact Z4 (o.one g (by simpa using aO6 (tC l)))
 obtain ⟨r,E,F⟩:=aIG (P:=P) K A (off:=off) ((F5 f m).map PV.un) _ 0 L σ w H x N (fun y S=>by grind [uG]) (fun g l=>o.one g (by simpa using aO6 l)) (by rw[aZ,b3H o]; omega);simp only[VE,aZ,b3H o] at F;cases f with
 | zero =>
  have O:((List.replicate 0 u.cells.toList).flatten) = []:=rfl;rw[O] at E;have:w=r:=by simpa[storeCells] using E
  subst this;exact ⟨w,by simp[Builtin.clear_,gm l],F⟩
 | succ f =>refine ⟨r,?_,F⟩;simp[Builtin.clear_,gm l,zeroValue,typeInfo,o.info,o.zero,q,E]
end
section
variable {n:Nat} {out:Nat->Nat} {M:Mem} {B:aT} {σ:ASt} {a:Act} {w:World} {E:AE} {T:Option IntKind} {y:TypeDesc} {C:PV} {A:Value} {c6:List MapEntry} {b6:Option PV} {Y:ai}
theorem aYN (h:Eb f e=some (T,x)):∃ k a b i d,f.underlying e=some (.map k a)/\f.underlying k=some d/\(match T with | none=>d = .string | some c=>d = .int c)/\f.info? a=some i/\i.zero=some b/\x=qy b/\Zz b=true:=by
 unfold Eb at h;split at h
 .rename_i k a j;split at h
  .rename_i l b hk m;split at h
   .rename_i g;cases h;cases n:f.info? a with
    | none=>simp_all
    | some i =>grind [aWL]
   .cases h
  .cases h
 .cases h
theorem c47 {z:Value} (h:Zz z=true):dC M B (qy z) z/\(qy z).own=false:=by
 have b:∀ v:Value,v.oneCell'=true->dC M B (pg v).un v/\((pg v).un).own=false:=fun v hv=>⟨uh.2 (Z4 hv),uG _⟩
 cases z with
 | agg a =>
  have c:∀ v,v∈(Value.agg a).cells->v.oneCell'=true:=fun v hv=>by grind [Zz,Value.cells]
  exact ⟨rF.2 ⟨a,rfl,b3K (z := .agg a) c⟩,rfl⟩
 | tuple a=>simp[Zz,Value.oneCell'] at h
 | _=>simp only[qy]; exact b _ rfl
def aWM (a:match T with | none=>y = .string | some c=>y = .int c) (hq:zy T x=true) (b:dC M B x u):MapKept.IsKey y u:=by
 unfold zy at hq;split at hq
 .have hq:=Qc hq;simp only at a;subst a; subst hq;rw[iK.1 b]; rfl
 .simp only at a;subst a;rw[kz.1 b]; simp[MapKept.IsKey]
 .cases hq
theorem a1T (c:match T with | none=>y = .string | some i=>y = .int i) (h:m_ T x C=some g) (f:dC M B x u) (hv:dC M B C A):Instr.sameNow y u A=some g/\(g=true->u=A):=by
 unfold m_ at h;split at h
 .split at h
  .rename_i hk;cases h;simp only[bQ,tJ] at hk;obtain ⟨rfl,rfl⟩:=hk;simp only at c;subst c;rw[iK.1 f,iK.1 hv];grind [Instr.sameNow]
  .cases h
 .rename_i a b;cases h;simp only at c;subst c;rw[kz.1 f,kz.1 hv];have e:(a==b)=(a.data.toList==b.data.toList):=by
   rw[Ef,a9W,qi];constructor;simp_all
   .intro h; cases a; simp_all
  grind [Instr.sameNow,MapKept.bytes_beq]
 .cases h
def a2E (e:MapEntry) (a:List MapEntry):wz (e::a)=e.key::e.val::wz a:=rfl
theorem aU9 {s:Option IntKind} {d:TypeDesc} (l:match s with | none=>d = .string | some x=>d = .int x) {q:PV} {u:Value} (m:dC M B q u):∀ {L:ai} {g:List MapEntry} {r:Option PV} (i:Nat),bI M B L (wz g)->yz s L q=some r ->
 (r=none/\Instr.findNow d u g i=some none)\/∃ (p:PV) (j:Nat) (e:MapEntry),r=some p/\Instr.findNow d u g i=some (some (i+j,e.val))/\dC M B p e.val
 | L,[],r,i,h,c=>by
  have:L = []:=by cases L with | nil=>rfl | cons p L=>obtain ⟨_,_,e,_⟩:=eP.1 h; cases e
  subst this;simp[yz] at c; subst c;exact .inl ⟨rfl,rfl⟩
 | L,e::g,r,i,h,c=>by
  rw[a2E] at h;match L,h with
  | k::v::L,h =>
   obtain ⟨a,D,f,o,h⟩:=eP.1 h;injection f with f n; subst f; subst n
   obtain ⟨b,E,f,y,h⟩:=eP.1 h;injection f with f n; subst f; subst n
   rw[yz] at c;split at c
   .rename_i he;cases c;obtain ⟨t,_⟩:=a1T l he m o;exact .inr ⟨v,0,e,rfl,by simp[Instr.findNow,t],y⟩
   .rename_i he;obtain ⟨t,_⟩:=a1T l he m o;rcases aU9 l m (i+1) h c with ⟨w,z⟩|⟨p,j,A,w,z,C⟩
    grind [Instr.findNow]
    .exact .inr ⟨p,j+1,A,w,by grind [Instr.findNow],C⟩
   .cases c
  | [],h=>rw[gZ] at h; cases h
  | [p],h=>obtain ⟨_,_,f,_,h⟩:=eP.1 h; rw[gZ] at h; simp_all
def fv (d:TypeDesc) (u:Value):List MapEntry->Option (Option Value)
 | []=>some none
 | e::a=>match Instr.sameNow d u e.key with
  | some true=>some (some e.val)
  | some false=>fv d u a
  | none=>none
def a2D {d:TypeDesc} {u:Value}:∀ (a:List MapEntry) (i:Nat),(Instr.findNow d u a i).map (fun o=>o.map (·.2))=fv d u a
 | [],i=>rfl
 | e::a,i=>by
  simp only[Instr.findNow,fv];cases Instr.sameNow d u e.key with
  | none=>rfl
  | some b=>cases b with
   | true=>rfl
   | false=>exact a2D a (i+1)
def Wu {d:TypeDesc} {u:Value} (r:List MapEntry):∀ (l:List MapEntry),fv d u (l ++ r)=match fv d u l with | some none=>fv d u r | x=>x
 | []=>rfl
 | e::l=>by
  rw[pF];simp only[fv];cases Instr.sameNow d u e.key with
  | none=>rfl
  | some b=>cases b with
   | true=>rfl
   | false=>exact Wu r l
theorem aI4 {u k:ByteArray}:Instr.sameNow .string (.string u) (.string k)=some (u.data.toList==k.data.toList):=by
 simp only[Instr.sameNow,E5];rw[Ef,a9W,qi];constructor;simp_all
 .intro h; cases u; simp_all
def Y4 (e x:MapEntry) (l:List MapEntry):wE e (x::l)=if YD e.key x.key then e::x::l else x::wE e l:=rfl
def EQ (d:TypeDesc) (u:Value):Prop:=(d = .string/\vO u=true)\/((∃ a,d = .int a)/\vO u=false)
def aWO (a:match T with | none=>y = .string | some c=>y = .int c) (hq:zy T x=true) (b:dC M B x u):EQ y u:=by
 unfold zy at hq;split at hq
 .rw[iK.1 b]; exact .inr ⟨⟨_,a⟩,rfl⟩
 .rw[kz.1 b]; exact .inl ⟨a,rfl⟩
 .cases hq
theorem Ih (h:vO u=true):∃ a,u = .string a:=by cases u<;>first | exact ⟨_,rfl⟩ | (simp[vO] at h)
theorem aI3 {b:IntKind} (c:y = .int b) (hk:vO A=true):Instr.sameNow y u A=none:=by subst c; obtain ⟨a,rfl⟩:=Ih hk; cases u<;>rfl
theorem aOE {d:TypeDesc} {u:Value} (r:EQ d u) {e:MapEntry} (he:vO e.key=true):∀ {l:List MapEntry},(l.all fun x=>vO x.key)=true->(l.any fun x=>JP e.key x.key)=false->fv d u (wE e l)=fv d u (l ++ [e])
 | [],_,_=>rfl
 | x::l,g,h=>by
  simp only[DX,bQ] at g;simp only[B_,aJK] at h;unfold wE;rcases r with ⟨rfl,j⟩|⟨⟨m,rfl⟩,j⟩
  .obtain ⟨a,rfl⟩:=Ih j;obtain ⟨b,n⟩:=Ih he;split
   ·
    have i:∀ {l:List MapEntry},(l.all fun x=>vO x.key)=true->(l.any fun x=>JP e.key x.key)=false->fv .string (.string a) (e::l)=fv .string (.string a) (l ++ [e]):=fun {l} k1 k2=>by
     rw[Wu];simp only[fv,n,aI4];by_cases f:a.data.toList=b.data.toList
     .have t:fv .string (.string a) l=some none:=by
       clear g h;induction l with
       | nil=>rfl
       | cons y l v =>simp only[DX,bQ] at k1;simp only[B_,aJK] at k2;obtain ⟨c,p⟩:=Ih k1.1;have k3:=k2.1;rw[n,p] at k3;simp only[JP,tH,ne_eq] at k3;simp only[fv,p,aI4];rw[show (a.data.toList==c.data.toList)=false by rw[tH,f]; exact k3];exact v k1.2 k2.2
      rw[t,show (a.data.toList==b.data.toList)=true by simp[f]]
     .rw[show (a.data.toList==b.data.toList)=false from tH.2 f];cases fv .string (.string a) l with
      | none=>rfl
      | some o=>cases o<;>rfl
    exact i (l:=x::l) (by simp only[DX,bQ]; exact g) (by simp only[B_,aJK]; exact h)
   .rw[pF];simp only[fv];rw[aOE (.inl ⟨rfl,rfl⟩) he g.2 h.2]
  .have q:Instr.sameNow (.int m) u x.key=none:=aI3 rfl g.1;have w:Instr.sameNow (.int m) u e.key=none:=aI3 rfl he;split
   .rw[pF]; simp only[fv,q,w]
   .rw[pF]; simp only[fv,q]
theorem b5J (a:EQ y u) (l:List MapEntry) (e:MapEntry):fv y u (KE l e)=fv y u (l ++ [e]):=by grind [KE,aOE]
theorem jM (a:List MapEntry) (e:MapEntry):tq (a ++ [e])=KE (tq a) e:=by grind [tq]
theorem b1A {P:List MapEntry->Prop} (a:P []) (b:∀ l e,P l->P (l ++ [e])) (l:List MapEntry):P l:=by
 have:∀ l:List MapEntry,P l.reverse:=fun l=>by
  induction l with
  | nil=>exact a
  | cons e l c=>rw[List.reverse_cons]; simp_all
 have h:=this l.reverse;rwa [List.reverse_reverse] at h
theorem a1L (b:EQ y u) (a:List MapEntry):fv y u (tq a)=fv y u a:=by refine b1A (P:=fun a=>fv y u (tq a)=fv y u a) rfl (fun l e c => ?_) a;rw[jM,b5J b,Wu,Wu,c]
theorem bVC (l:match T with | none=>y = .string | some m=>y = .int m) (c:EQ y u) (n:dC M B x u) (i:Nat) (h:bI M B L (wz (tq c6))) (t:yz T L x=some b6) :
 (b6=none/\Instr.findNow y u c6 i=some none)\/∃ (p:PV) (j:Nat) (v:Value),b6=some p/\Instr.findNow y u c6 i=some (some (j,v))/\dC M B p v:=by
 have e:=a1L c c6;rw[<- a2D c6 i,<- a2D (tq c6) 0] at e;rcases aU9 l n 0 h t with ⟨g,f⟩|⟨p,j,w,g,f,z⟩
 .rw[f] at e;refine .inl ⟨g,?_⟩;cases b:Instr.findNow y u c6 i with
  | none=>rw[b] at e; cases e
  | some o=>cases o with
   | none=>rfl
   | some a=>rw[b] at e; cases e
 .rw[f] at e;cases b:Instr.findNow y u c6 i with
  | none=>rw[b] at e; cases e
  | some o=>cases o with
   | none=>rw[b] at e; cases e
   | some a =>rw[b] at e;grind
def nM (d:TypeDesc) (u y:Value):List MapEntry->List MapEntry
 | [] => []
 | e::a=>match Instr.sameNow d u e.key with
  | some true => { e with key:=u,val:=y }::a
  | _=>e::nM d u y a
theorem aZ0 {d:TypeDesc} {u y:Value}:∀ (a:List MapEntry) (i j:Nat) (v:Value),Instr.findNow d u a i=some (some (i+j,v))->a.modify j (fun e => { e with key:=u,val:=y })=nM d u y a/\∃ e,a[j]? = some e/\Instr.sameNow d u e.key=some true
 | [],i,j,v,h=>by cases h
 | e::a,i,j,v,h=>by
  simp only[Instr.findNow] at h;cases f:Instr.sameNow d u e.key with
  | none=>rw[f] at h; cases h
  | some b =>
   rw[f] at h;cases b with
   | true =>grind [nM]
   | false =>
    have g:∀ (a:List MapEntry) (i k:Nat) (v:Value),Instr.findNow d u a i=some (some (k,v))->i<=k:=by
     intro a;induction a with
     | nil=>intro i k v h; cases h
     | cons x a o =>grind [Instr.findNow]
    have:=g a (i+1) (i+j) v h;obtain ⟨c,rfl⟩:∃ c,j=c+1:=⟨j-1,by omega⟩;obtain ⟨l,m,p,n⟩:=aZ0 a (i+1) c v (by rw[show i+1+c=i+(c+1) by omega]; exact h);refine ⟨?_,m,by grind,n⟩;simp only[nM,f];rw[<- l]; rfl
theorem aEY (d:TypeDesc) (u y:Value) (f:Value->Bool) (a:∀ k,Instr.sameNow d u k=some true->f u=f k):∀ (l:List MapEntry),((nM d u y l).all fun x=>f x.key)=(l.all fun x=>f x.key)/\((nM d u y l).any fun x=>f x.key)=(l.any fun x=>f x.key)
 | []=>⟨rfl,rfl⟩
 | e::l=>by obtain ⟨b,c⟩:=aEY d u y f a l;grind [nM]
theorem ik (c:EQ y u) (h:Instr.sameNow y u A=some true):u=A:=by
 rcases c with ⟨rfl,b⟩|⟨⟨e,rfl⟩,b⟩
 .obtain ⟨a,rfl⟩:=Ih b;cases A<;>simp only[Instr.sameNow,E5,reduceCtorEq] at h
  grind [MapKept.bytes_beq]
 .cases u<;>cases A<;>simp only[Instr.sameNow,reduceCtorEq] at h
  simp_all
theorem aEZ {d:TypeDesc} {u y:Value} (r:List MapEntry):∀ {l:List MapEntry} {v:Value},fv d u l=some (some v)->nM d u y (l ++ r)=nM d u y l ++ r
 | [],v,h=>by cases h
 | e::l,v,h=>by
  rw[pF];simp only[fv] at h;simp only[nM];cases a:Instr.sameNow d u e.key with
  | none=>rw[a] at h; cases h
  | some b=>rw[a] at h; cases b with
   | true=>rfl
   | false=>simp only[aEZ r (l:=l) h,pF]
theorem aYV {d:TypeDesc} {u y:Value} {r:List MapEntry}:∀ {l:List MapEntry},fv d u l=some none->nM d u y (l ++ r)=l ++ nM d u y r
 | [],h=>rfl
 | e::l,h=>by
  rw[pF];simp only[fv] at h;simp only[nM];cases a:Instr.sameNow d u e.key with
  | none=>rw[a] at h; cases h
  | some b=>rw[a] at h; cases b with
   | true=>cases h
   | false=>simp only[aYV (l:=l) h,pF]
def aYT {d:TypeDesc} {u y:Value} (b:EQ d u) {e:MapEntry} (c:Instr.sameNow d u e.key=some false):∀ {l:List MapEntry},nM d u y (wE e l)=wE e (nM d u y l)
 | []=>by simp only[wE,nM,c]
 | x::l=>by
  rw[Y4];split
  .rename_i a;simp only[nM,c];split
   .rename_i f;rw[ik b f,Y4,ay a]
   .rw[Y4,ay a]
  .rename_i a;simp only[nM];split
   .rename_i f;rw[ik b f,Y4,aX a]
   .rw[aYT b c,Y4,aX a]
theorem aYU {d:TypeDesc} {u y:Value} (f:EQ d u) {e:MapEntry} (a:Instr.sameNow d u e.key=some true):∀ {l:List MapEntry},fv d u l=some none->nM d u y (wE e l)=wE { e with key:=u,val:=y } l
 | [],_=>by simp only[wE,nM,a]
 | x::l,h=>by
  simp only[fv] at h;unfold wE;split
  .rename_i c;rw[ik f a,ay c];simp only[nM,show Instr.sameNow d e.key e.key=some true by rw[ik f a] at a; exact a]
  .rename_i c;cases g:Instr.sameNow d u x.key with
   | none=>rw[g] at h; cases h
   | some b=>rw[g] at h; cases b with
    | true=>cases h
    | false =>simp only[nM,g];rw[aYU f a h,ik f a,aX c]
theorem b7Z (g:EQ y u) (f:List MapEntry):∀ v,fv y u f=some (some v)->tq (nM y u A f)=nM y u A (tq f):=by
 refine b1A (P:=fun f=>∀ v,fv y u f=some (some v)->tq (nM y u A f)=nM y u A (tq f)) (fun v h=>by cases h) (fun l e m v h => ?_) f;have hk:∀ k,Instr.sameNow y u k=some true->vO u=vO k:=fun k hk=>by rw[ik g hk]
 have hq:∀ (q:Value) k,Instr.sameNow y u k=some true->JP q u=JP q k:=fun q k hk=>by rw[ik g hk]
 rw[Wu] at h;cases i:fv y u l with
 | none=>rw[i] at h; cases h
 | some o =>
  cases o with
  | some x =>
   rw[aEZ [e] i,jM,jM,m x i];have B:fv y u (tq l)=some (some x):=by rw[a1L g,i]
   unfold KE;rw[(aEY y u A vO hk (tq l)).1,(aEY y u A (JP e.key) (hq e.key) (tq l)).2];split
   .rename_i c;simp only[bQ,F6] at c;refine (aYT g ?_).symm;cases j:Instr.sameNow y u e.key with
    | none =>
     exfalso;rcases g with ⟨rfl,n⟩|⟨⟨p,rfl⟩,n⟩
     .obtain ⟨a,rfl⟩:=Ih n;obtain ⟨b,r⟩:=Ih c.1.1;rw[r] at j; cases j
     ·
      have:∀ {l:List MapEntry},(l.all fun x=>vO x.key)=true->∀ v,fv (.int p) u l≠some (some v):=fun {l} C v t=>by
       cases l with
       | nil=>cases t
       | cons z l =>grind [fv,aI3]
      simp_all
    | some b =>
     cases b with
     | false=>rfl
     | true =>
      exfalso;have w:=ik g j;have:∀ {l:List MapEntry} {v:Value},fv y u l=some (some v)->(l.any fun x=>JP e.key x.key)=false->vO e.key=true->False:=fun {l v}=>by
       induction l with
       | nil=>intro h; cases h
       | cons z l m =>grind [fv,Ih,JP]
      grind
   grind [aEZ]
  | none =>rw[i] at h;grind [fv,a1L,aYV,jM,nM,ik,KE,aYU]
theorem aUV {s:Option IntKind} {d:TypeDesc} (l:match s with | none=>d = .string | some o=>d = .int o) {q:PV} {u:Value} (m:dC M B q u):∀ {L:ai} {i:List MapEntry},bI M B L (wz i)->uZ s L q=true ->
 (vP s L q=true/\∃ v,fv d u i=some (some v))\/(vP s L q=false/\fv d u i=some none)
 | L,[],h,f=>by
  have:L = []:=by cases L with | nil=>rfl | cons p L=>obtain ⟨_,_,e,_⟩:=eP.1 h; cases e
  subst this;exact .inr ⟨rfl,rfl⟩
 | L,e::i,h,f=>by
  rw[a2E] at h;match L,h with
  | k::v::L,h =>
   obtain ⟨a,w,c,t,h⟩:=eP.1 h;injection c with c j; subst c; subst j
   obtain ⟨b,x,c,y,h⟩:=eP.1 h;injection c with c j; subst c; subst j
   rw[uZ,bQ] at f;obtain ⟨g,f⟩:=f;cases he:m_ s q k with
   | none=>rw[he] at g; cases g
   | some r =>
    obtain ⟨n,z⟩:=a1T l he m t;cases r with
    | true=>exact .inl ⟨by simp only[vP,he],e.val,by simp only[fv,n]⟩
    | false =>simp only[vP,he,fv,n];exact aUV l m h f
  | [],h=>rw[gZ] at h; cases h
  | [p],h=>obtain ⟨_,_,c,_,h⟩:=eP.1 h; rw[gZ] at h; simp_all
theorem aY' {s:Option IntKind} {d:TypeDesc} (m:match s with | none=>d = .string | some w=>d = .int w) {q x:PV} {u y:Value} (i:dC M B q u) (n:dC M B x y):∀ {L:ai} {j:List MapEntry},bI M B L (wz j)->uZ s L q=true ->
 bI M B (pU s L q x) (wz (nM d u y j))
 | L,[],h,f=>by
  have:L = []:=by cases L with | nil=>rfl | cons p L=>obtain ⟨_,_,e,_⟩:=eP.1 h; cases e
  subst this;exact h
 | L,e::j,h,f=>by
  rw[a2E] at h;match L,h with
  | k::v::L,h =>
   obtain ⟨a,A,c,o,h⟩:=eP.1 h;injection c with c l; subst c; subst l
   obtain ⟨b,C,c,z,h⟩:=eP.1 h;injection c with c l; subst c; subst l
   rw[uZ,bQ] at f;obtain ⟨g,f⟩:=f;cases he:m_ s q k with
   | none=>rw[he] at g; cases g
   | some r =>
    obtain ⟨t,D⟩:=a1T m he i o;cases r with
    | true =>simp only[pU,he,nM,t];exact eP.2 ⟨u,_,rfl,i,eP.2 ⟨y,_,rfl,n,h⟩⟩
    | false =>simp only[pU,he,nM,t];exact eP.2 ⟨_,_,rfl,o,eP.2 ⟨_,_,rfl,z,aY' m i n h f⟩⟩
  | [],h=>rw[gZ] at h; cases h
  | [p],h=>obtain ⟨_,_,c,_,h⟩:=eP.1 h; rw[gZ] at h; simp_all
def b'2 (he:m_ T x C=some g) (a:dC M B x u) (hv:dC M B C A):qP x C=YD u A:=by
 unfold m_ at he;split at he
 .rw[iK.1 a,iK.1 hv]; rfl
 .rw[kz.1 a,kz.1 hv]; rfl
 .cases he
theorem aVH {s:Option IntKind} {q x:PV} {g:MapEntry} (i:dC M B q g.key) (j:dC M B x g.val):∀ {L:ai} {l:List MapEntry},bI M B L (wz l)->uZ s L q=true->bI M B (qR L q x) (wz (wE g l))
 | L,[],h,d=>by
  have:L = []:=by cases L with | nil=>rfl | cons p L=>obtain ⟨_,_,e,_⟩:=eP.1 h; cases e
  subst this;exact eP.2 ⟨_,_,rfl,i,eP.2 ⟨_,_,rfl,j,gZ.2 rfl⟩⟩
 | L,e::l,h,d=>by
  rw[a2E] at h;match L,h with
  | k::v::L,h =>
   have t:=h;obtain ⟨a,w,c,o,h⟩:=eP.1 h;injection c with c m; subst c; subst m
   obtain ⟨b,y,c,u,h⟩:=eP.1 h;injection c with c m; subst c; subst m
   rw[uZ,bQ] at d;obtain ⟨f,d⟩:=d;cases he:m_ s q k with
   | none=>rw[he] at f; cases f
   | some r =>
    have n:=b'2 he i o;unfold wE;simp only[qR,n];cases YD g.key e.key with
    | true=>exact eP.2 ⟨_,_,rfl,i,eP.2 ⟨_,_,rfl,j,t⟩⟩
    | false=>exact eP.2 ⟨_,_,rfl,o,eP.2 ⟨_,_,rfl,u,aVH i j h d⟩⟩
  | [],h=>rw[gZ] at h; cases h
  | [p],h=>obtain ⟨_,_,c,_,h⟩:=eP.1 h; rw[gZ] at h; simp_all
theorem aVC {e:MapEntry} (he:vO e.key=false):∀ l:List MapEntry,wE e l=l ++ [e]
 | []=>rfl
 | x::l=>by
  have:YD e.key x.key=false:=by cases hk:e.key<;>first | rfl | grind [vO]
  unfold wE;rw[this,aX (by decide),aVC he l]; rfl
theorem b5K (w:match T with | none=>y = .string | some l=>y = .int l) {e0:MapEntry} (g:EQ y e0.key) (m:dC M B x e0.key) (h:bI M B L (wz c6)) (n:uZ T L x=true) (a:fv y e0.key c6=some none):KE c6 e0=wE e0 c6:=by
 unfold KE;split
 .rfl
 .rename_i f;cases o:vO e0.key with
  | false=>grind [aVC]
  | true =>
   exfalso;apply f;obtain ⟨b,p⟩:=Ih o;have i:y = .string:=by
    rcases g with ⟨h,_⟩|⟨_,h⟩
    .exact h
    simp_all
   subst i;clear f h n m;rw[p] at a ⊢;simp only[bQ,F6,vO,true_and];induction c6 with
   | nil=>simp
   | cons z c6 t =>
    simp only[fv] at a;cases e:Instr.sameNow .string (.string b) z.key with
    | none=>rw[e] at a; cases a
    | some r=>rw[e] at a; cases r with
     | true=>cases a
     | false =>
      obtain ⟨u,v⟩:=t a;have j:∃ c,z.key = .string c:=by
       cases hk:z.key<;>rw[hk] at e<;>simp[Instr.sameNow] at e
       simp
      obtain ⟨c,f⟩:=j;rw[f,aI4] at e;simp only[E5] at e;refine ⟨by rw[DX,f,u]; rfl,?_⟩;rw[B_,f,v];show ((b.data.toList==c.data.toList)||false)=false;rw[e]; rfl
theorem c3S {d:TypeDesc} (p:match T with | none=>d = .string | some E=>d = .int E) {y:Value} (g:EQ d u) (r:dC M B x u) (H:dC M B C y) (h:bI M B L (wz (tq c6))) (t:uZ T L x=true) :
 (Instr.findNow d u c6 0=some none/\∀ b,bI M B (lJ T L x C) (wz (tq (c6 ++ [{ key:=u,val:=y,born:=b }])))) \/
 ∃ (j:Nat) (e:MapEntry),Instr.findNow d u c6 0=some (some (0+j,e.val))/\c6[j]? = some e/\e.key=u/\bI M B (lJ T L x C) (wz (tq (c6.modify j fun e => { e with key:=u,val:=y }))):=by
 have e0:=a2D (d:=d) (u:=u) c6 0;have w:=a1L g c6;rcases aUV p r h t with ⟨a,v,c⟩|⟨a,c⟩
 .rw[w] at c;rw[c] at e0;cases f:Instr.findNow d u c6 0 with
  | none=>rw[f] at e0; cases e0
  | some o=>cases o with
   | none=>rw[f] at e0; cases e0
   | some z =>
    obtain ⟨j,m⟩:=z;have l:Instr.findNow d u c6 0=some (some (0+j,m)):=by rw[f,xh]
    obtain ⟨I,e,F,J⟩:=aZ0 (y:=y) c6 0 j m l;have hv:m=e.val:=by
     have key:∀ (c6:List MapEntry) (i j:Nat) (v:Value) (e:MapEntry),Instr.findNow d u c6 i=some (some (i+j,v))->c6[j]? = some e->v=e.val:=by
      intro c6;induction c6 with
      | nil=>simp
      | cons C c6 A =>
       intro i j v e a c;simp only[Instr.findNow] at a;cases D:Instr.sameNow d u C.key with
       | none=>rw[D] at a; cases a
       | some b=>rw[D] at a; cases b with
        | true =>simp_all
        | false =>
         cases j with
         | zero =>
          exfalso;have n:∀ (c6:List MapEntry) (i k:Nat) (v:Value),Instr.findNow d u c6 i=some (some (k,v))->i<=k:=by
           intro c6;induction c6 with
           | nil=>intro i k v h; cases h
           | cons C c6 A =>grind [Instr.findNow]
          have:=n c6 (i+1) (i+0) v a;omega
         | succ j=>exact A (i+1) j v e (by rw[show i+1+j=i+(j+1) by omega]; exact a) (by grind)
     exact key c6 0 j m e l F
    grind [ik,b7Z,lJ,aY']
 .have G:=c;rw[w] at c;rw[c] at e0;cases f:Instr.findNow d u c6 0 with
  | none=>rw[f] at e0; cases e0
  | some o=>cases o with
   | some z=>rw[f] at e0; cases e0
   | none =>refine .inl ⟨rfl,fun b => ?_⟩;rw[jM,b5K (e0 := { key:=u,val:=y,born:=b }) p g r h t G];grind [lJ,aVH]
theorem aYO (z:Inv n M B out σ a.tmps w) {i:Nat} (hv:dC M B (.eU 0 i) u) (m:σ.h[i]? = some (some L)) (o:Cc L=some (g,Y)) :
 ∃ c p t,B[i]? = some c/\u = .map (some c.1)/\w.heap[c.1]? = some (.map p t)/\bI M (YV g B) Y (wz (tq p.toList)):=by
 obtain ⟨c,A,C⟩:=Pi.1 hv;obtain ⟨q,rfl⟩:=C.1 rfl;obtain ⟨H,D,E,F,I,x,J⟩:=z.heap.at m A;have r:D=0:=by rw[F.2,q]
 subst r;rw[aYL o] at x;obtain ⟨d,l,y,_⟩:=x 0 (qQ g Y) rfl;rcases c4Y E with ⟨p,t,j,rfl⟩|⟨s,G,j,rfl⟩
 rotate_left
 .simp at l; subst l;obtain ⟨f,e,_⟩:=Yg.1 y;unfold aDH at e;injection e with e _ _
  injection e with e
  exact absurd e (by decide)
 simp at l; subst l;obtain ⟨f,e,K⟩:=Yg.1 y;grind [P9]
def b'8 (d:Inv n M B out σ a.tmps w) (t:TypeId) (b:Bool) {P:Program} :
 (Instr.makeMap t none).run P w = .ok (.map (some w.heap.size)) (w.alloc (.map #[] 0))/\Pre n out M B σ a.tmps w M (B ++ [(w.heap.size,1,0)]) { σ with h:=σ.h ++ [some [qQ b []]] } (w.alloc (.map #[] 0)) (.eU 0 σ.h.length) (.map (some w.heap.size)):=by
 refine ⟨by rfl,?_⟩;have e:=d.b'Z (.map #[] 0) #[P9 #[]] 0 (aHV (aA1 w _)) [qQ b []] (dO _) (fun j p c=>by
  match j,c with
  | 0,c =>simp at c; subst c;exact ⟨P9 #[],rfl,Yg.2 ⟨_,rfl,gZ.2 rfl⟩,ig (U6 _ _),rfl,fun b=>gY (U6 _ _) _ _⟩
  | j+1,c=>simp at c)
 refine Pre.Ld e (Pi.2 ⟨(w.heap.size,1,0),by rw[d.heap.1]; simp,fun _=>⟨rfl,rfl⟩,fun h=>absurd rfl h⟩) rfl
def bZ' (Z:Inv n M B out σ a.tmps w) {P:Program} (ht:Eb P e=some (T,x)) {i:Nat} (hv:dC M B (.eU 0 i) u) (H:σ.h[i]? = some (some L)) (I:Cc L=some (g,Y))
 (J:dC M B C A) (hq:zy T C=true) (hg:yz T Y C=some b6) (D:Bool) :
 ∃ f,(Instr.lookup e u A D).run P w = .ok f w/\dC M B (EY D x b6) f/\(EY D x b6).own=false:=by
 obtain ⟨k,l,K,i',d,F,N,O,h4,h5,rfl,h6⟩:=aYN ht;obtain ⟨c,S,ck,_,rfl,m,G⟩:=aYO Z hv H I;have G:bI M B Y (wz (tq S.toList)):=by
  cases g with
  | true=>exact G.mono (gQ.zero _ _)
  | false=>exact G
 have hk:=aWM O hq J;have y:=MapKept.run_checkKey (P:=P) (w:=w) N hk S.isEmpty 9999;obtain ⟨U,oz⟩:=c47 (M:=M) (B:=B) h6;have E:(zeroValue l).run P w = .ok K w:=by simp[zeroValue,typeInfo,h4,h5]
 rcases bVC O (aWO O hq J) J 0 G hg with ⟨rfl,Q⟩|⟨p,j,V,rfl,Q,X⟩
 .have o:=Zw (P:=P) (w:=w) N Q;cases D with
  | true=>exact ⟨.tuple #[K,.bool false],by simp[Instr.lookup,gm F,DT m,y,o,E,Result.andThen],xO.2 ⟨_,rfl,eP.2 ⟨_,_,rfl,U,eP.2 ⟨_,_,rfl,oh.2 rfl,gZ.2 rfl⟩⟩⟩,rfl⟩
  | false=>exact ⟨K,by simp[Instr.lookup,gm F,DT m,y,o,E,Result.andThen],U,oz⟩
 .have o:=Zw (P:=P) (w:=w) N Q;cases D with
  | true=>exact ⟨.tuple #[V,.bool true],by simp[Instr.lookup,gm F,DT m,y,o,Result.andThen],xO.2 ⟨_,rfl,eP.2 ⟨_,_,rfl,uh.2 X,eP.2 ⟨_,_,rfl,oh.2 rfl,gZ.2 rfl⟩⟩⟩,rfl⟩
  | false=>exact ⟨V,by simp[Instr.lookup,gm F,DT m,y,o,Result.andThen],uh.2 X,uG _⟩
theorem rD (h:MapKept.IsKey y u):Instr.sameBits 10000 u u=true:=by cases y<;>cases u<;>simp_all[MapKept.IsKey,Instr.sameBits,a9W]
theorem b2S (K:Inv n M B out σ a.tmps w) {P:Program} (ht:Eb P e=some (T,x)) {i:Nat} {y:Value} (hv:dC M B (.eU 0 i) u) (r:σ.h[i]? = some (some L)) (D:Cc L=some (g,Y))
 {f:PV} (I:dC M B C A) (hq:zy T C=true) (hy:dC M B f y) (hg:uZ T Y C=true) (N:g=true->f.flat=true) :
 ∃ w',(Instr.mapUpdate e u A y).run P w = .ok () w'/\Good n out M B σ a.tmps w M B { σ with h:=σ.h.set i (some [qQ g (lJ T Y C f)]) } a.tmps w':=by
 obtain ⟨k,l,zv,i',d,h1,O,Q,h4,h5,rfl,h6⟩:=aYN ht;obtain ⟨c,es,ck,hc,rfl,m,hL⟩:=aYO K hv r D;have hk:=aWM Q hq I;have E:=MapKept.run_checkKey (P:=P) (w:=w) O hk false 9999;have F:=aYL D;subst F;have b1:c.1<w.heap.size:=(DW.1 m).1;have G:∀ (o:Array MapEntry) (H:Nat),bI M (YV g B) (lJ T Y C f) (wz (tq o.toList))->Good n out M B σ a.tmps w M B { σ with h:=σ.h.set i (some [qQ g (lJ T Y C f)]) } a.tmps { w with heap:=w.heap.setIfInBounds c.1 (.map o H) }:=fun o H J=>by obtain ⟨g1,g2⟩:=MapKept.heap_set (o' := .map o H) m;have hr:dC M B (qQ g (lJ T Y C f)) (P9 o):=Yg.2 ⟨_,rfl,by omega⟩;obtain ⟨k1,k2,k3⟩:=K.setRow (i:=i) (j:=0) r hc (aHV m) (by simp) hr (ig (U6 _ _)) rfl (fun g=>by rw[gY (U6 _ _)]; exact K.cnt g) (fun g _=>gY (U6 _ _) _ _) (w' := { w with heap:=w.heap.setIfInBounds c.1 (.map o H) }) (fun g hb=>g2 g hb) (by rw[aHV (w := { w with heap:=w.heap.setIfInBounds c.1 (.map o H) }) g1]; rfl) rfl rfl rfl (by simp);exact ⟨k1,gQ.refl _ _,k3,fun g _=>by have:=k2 g; rw[gY (U6 _ _)] at this; exact this⟩
 have S:C.flat=true:=by
  unfold zy at hq;split at hq
  .rfl
  .rfl
  .cases hq
 have U:dC M (YV g B) C A:=by
  cases g with
  | true=>exact I.flat [] S
  | false=>exact I
 have V:dC M (YV g B) f y:=by
  cases g with
  | true=>exact hy.flat [] (N rfl)
  | false=>exact hy
 rcases c3S Q (aWO Q hq I) U V hL hg with ⟨X,J⟩|⟨j,e',X,he,Z,J⟩
 .have p:=Zw (P:=P) (w:=w) O X;exact ⟨_,by simp[Instr.mapUpdate,gm h1,DT m,E,p,MapKept.run_setObj_map _ m,Result.andThen]; rfl,G _ _ (by rw[Array.toList_push]; exact J ck)⟩
 .have p:=Zw (P:=P) (w:=w) O X;rw[xh] at p;have a':es[j]? = some e':=by grind
  have b0:(Instr.keyThatStays (((es[j]?).map (·.key)).getD A) A).run P w = .ok A w:=by rw[a',A_,Option.getD_some,Z];unfold Instr.keyThatStays;rw[ay (rD hk)]; rfl
  exact ⟨_,by simp[Instr.mapUpdate,gm h1,DT m,E,p,b0,MapKept.run_setObj_map _ m,Result.andThen]; rfl,G _ _ (by rw[Array.toList_modify]; exact J)⟩
end
section
variable {n:Nat} {out:Nat->Nat} {M:Mem} {B:aT} {σ σ1:ASt} {a:Act} {w:World} {E:AE} {o:Oper} {p:PV}
def aKW (E:AE) (out:Nat->Nat) (M:Mem) (B:aT) (σ:ASt) (a:Act) (w:World) (o:Oper) (p:PV) (σ1:ASt):Prop :=∃ v b c d,((execOp a.eval o).run E.P w = .ok (.value v) b\/((execOp a.eval o).run E.P w = .ok .skip b/\o.dst=none))/\Pre E.n out M B σ a.tmps w c d σ1 b p v
def EN {a:Operand->Value} {o:Oper} {s:Sem Value} {w b:World} (h:execOp a o=(do pure (.value (<- s)))) (c:s.run f w = .ok u b):(execOp a o).run f w = .ok (.value u) b:=by rw[h]; simp[c]
theorem b1M (c:Inv E.n M B out σ a.tmps w) (h:(pop E.P σ.rd o.op).map (fun p=>(p,σ))=some (p,σ1)):aKW E out M B σ a w o p σ1:=by
 cases d:pop E.P σ.rd o.op with
 | none=>grind
 | some q =>simp[d] at h;obtain ⟨rfl,rfl⟩:=h;obtain ⟨v,f,g,e⟩:=c3A (fun x q hq=>c.rd x q hq) d w c.mem;exact ⟨v,w,M,B,.inl f,Pre.plain c g (fun b=>gY e _ _) (ig e)⟩
theorem c7L (F:Inv E.n M B out σ a.tmps w) (f:dS E o σ=some (p,σ1)) (g:mX E o σ):aKW E out M B σ a w o p σ1:=by
 obtain ⟨S,op,C,O,G,guard⟩:=o;cases op with
 | move x =>
  simp only[dS] at f;split at f
  .cases H:σ.ev x with
   | none=>simp_all
   | some q =>simp[H] at f; obtain ⟨rfl,rfl⟩:=f;exact ⟨_,w,M,B,.inl rfl,Pre.moved F H⟩
  .cases H:σ.rd x with
   | none=>simp_all
   | some q =>simp[H] at f; obtain ⟨rfl,rfl⟩:=f;obtain ⟨J,K⟩:=F.rd x _ H;exact ⟨_,w,M,B,.inl rfl,Pre.plain F J (fun b=>gY K _ _) (ig K)⟩
 | assign x =>
  simp only[dS] at f;cases H:σ.ev x with
  | none=>simp_all
  | some q =>simp[H] at f; obtain ⟨rfl,rfl⟩:=f;exact ⟨_,w,M,B,.inl rfl,Pre.moved F H⟩
 | alloc t =>
  simp only[dS] at f;split at f
  .cases f
  cases ht:ti E.P t with
  | none=>simp_all
  | some I =>
   simp[ht] at f; obtain ⟨rfl,rfl⟩:=f;obtain ⟨vs,J,K,h3,h4⟩:=b5O ht w;have hG:=F.aZ9 vs t (OD (fB E.mu S) t σ.h.length I.zero) (by rw[b6Y,h3]; simp) (fun j p hj=>by
    have b2:∀ p,I.zero[j]? = some p->∃ v,vs[j]? = some v/\dC M (B ++ [(w.heap.size,vs.size,t+1)]) p v/\Tl M w p v/\v.oneCell'=true/\∀ b,cu p v b=0:=fun p hj=>by rw[h3,nP] at hj;grind [Z4,b2B,a'E]
    rcases b6X hj with h | ⟨rfl,rfl,h0,c0,b5⟩|⟨rfl,rfl,h0⟩
    grind
    .obtain ⟨v,hv,hr,ht,ho,_⟩:=b2 _ h0;have c1:vs.size=2:=by rw[h3] at c0; simp_all
     exact ⟨v,hv,Pi.2 ⟨(w.heap.size,vs.size,t+1),by rw[F.heap.1]; simp,fun h=>absurd h b5.1,fun _=>b6W b5.2 (by rw[c1]) (.inl (MI.1 hr))⟩,ig rfl,ho,fun b=>gY rfl _ _⟩
    .obtain ⟨v,hv,hr,ht,ho,c9⟩:=b2 _ h0;obtain ⟨rfl,_⟩:=PI hr;exact ⟨_,hv,a8Q.2 ⟨none,0,rfl,dO _,fun h=>absurd rfl h⟩,⟨(fun _ _ _ _ _ e=>by cases e),(fun l A n c2 e ev=>by grind),(fun _ _ _ _ _ _ e _=>by cases e)⟩,ho,fun b=>by simp[cu]⟩)
   refine ⟨_,_,_,_,.inl (EN rfl J),Pre.Ld hG (yH.2 ⟨(w.heap.size,vs.size,t+1),⟨by have:=F.heap.1; simp[this],by simp⟩,rfl⟩) rfl⟩
 | box t x =>
  simp only[dS] at f;split at f
  .cases H:σ.rd x with
   | none=>simp_all
   | some q =>
    cases hf:SB q with
    | none=>simp_all
    | some e =>
     simp[H,hf] at f; obtain ⟨rfl,rfl⟩:=f;unfold SB at hf;cases hn:q.newCells with
     | none=>simp_all
     | some cs =>
      rw[hn] at hf;simp only at hf;split at hf
      .rename_i c3;injection hf with hf
       obtain ⟨r1,r2⟩:=F.rd x _ H;obtain ⟨J,K⟩:=YY hn r1;have b3:=aZ8 hn r1;obtain ⟨hG,c'⟩:=F.lay (a.eval x).cells t (a.eval x).cells.size (fun v hv=>b3 v (by grind));have hM:∀ (j:Nat) u,(a.eval x).cells.toList[j]? = some u->laid M w.heap.size ((a.eval x).cells.toList.take (a.eval x).cells.size) w.heap.size j=some u:=fun j u hu=>by rw[GX (GY F),ay rfl,qh,ay (by have:=(jr.1 hu).1; omega)]; exact hu
       have hm:=(KH F ((a.eval x).cells.toList.take (a.eval x).cells.size)).none;have b6:Loc (laid M w.heap.size ((a.eval x).cells.toList.take (a.eval x).cells.size)) [] e w.heap.size 0:=by
        have r3:dC M [] q (a.eval x):=r1.flat [] c3;obtain ⟨h3,_⟩:=YY hn r3;cases q with
        | agg ds =>subst hf;refine CZ.2 (OH fun j p hj => ?_);obtain ⟨u,hu,hr⟩:=yI h3 hj;exact ⟨u,by rw[xh]; simp_all,hr.mono hm⟩
        | tuple ds=>simp[PV.newCells,PV.one] at hn
        | _ =>subst hf;refine (LU rfl).2 ⟨a.eval x,hM 0 _ ?_,r3.mono hm⟩;rw[(Gs rfl r1).1]; rfl
       exact ⟨.pointer (some ⟨w.heap.size,0,none⟩),_,_,_,.inl (EN (s:=Instr.box t (a.eval x)) rfl (by rfl)),Pre.Ld hG (D9.2 ⟨_,_,rfl,b6⟩) rfl⟩
      .cases hf
  .cases H:σ.rd x with
   | none=>simp_all
   | some q =>
    cases hn:q.newCells with
    | none=>simp_all
    | some cs =>simp[H,hn] at f; obtain ⟨rfl,rfl⟩:=f;obtain ⟨r1,r2⟩:=F.rd x _ H;obtain ⟨J,K⟩:=YY hn r1;have b3:=aZ8 hn r1;have hG:=F.newObj (a.eval x).cells t cs (by have:=sS J; simp_all) (fun j p hj=>by grind [yI,ig,gY]);exact ⟨.pointer (some ⟨w.heap.size,0,none⟩),_,_,_,.inl (EN (s:=Instr.box t (a.eval x)) rfl (by rfl)),Pre.Ld hG (yH.2 ⟨(w.heap.size,(a.eval x).cells.size,t+1),⟨by have:=F.heap.1; simp[this],by simp⟩,rfl⟩) rfl⟩
 | load t x =>
  simp only[dS] at f;split at f
  .rename_i I q a' hq;split at f
   .split at f
    .obtain ⟨v,J,K⟩:=aES F a' hq f;exact ⟨v,w,M,B,.inl (EN rfl J),K⟩
    .cases f
   .obtain ⟨v,J,K⟩:=aES F a' hq f;exact ⟨v,w,M,B,.inl (EN rfl J),K⟩
  .cases f
 | store t x y =>
  simp only[dS] at f;split at f
  .cases f
  cases a':ti E.P t with
  | none=>simp_all
  | some I =>
   cases hq:σ.rd x with
   | none=>simp_all
   | some q =>
    cases hp:σ.ev y with
    | none=>simp_all
    | some p' =>
     cases S with
     | some d=>simp_all
     | none =>
      simp only[a',hq,hp] at f;cases b7:AP I q p' (σ.clr y) with
      | none=>simp_all
      | some d1 =>simp[b7] at f; obtain ⟨rfl,rfl⟩:=f;obtain ⟨Q,M',B',J,K⟩:=c7S F a' hq hp b7;refine ⟨undef,Q,M',B',.inr ⟨?_,rfl⟩,K⟩;show (execOp a.eval ⟨none,.store t x y,C,O,G,guard⟩).run E.P w=_;simp[execOp,J]
 | buildSlice t d2 ps =>
  simp only[dS] at f;split at f
  .rename_i I qs hT hq;split at f
   .rename_i es he;split at f
    .rename_i hc;obtain ⟨l1,l2⟩:=bZR F hT hq he hc.1 hc.2.1 hc.2.2;split at f
     .cases f;obtain ⟨v,Q,M',B',J,K⟩:=l2;exact ⟨v,Q,M',B',.inl (EN rfl J),K⟩
     .cases f;obtain ⟨v,Q,M',B',J,K⟩:=l1;exact ⟨v,Q,M',B',.inl (EN rfl J),K⟩
    .cases f
   .cases f
  .cases f
 | call c =>
  obtain ⟨b',args,D⟩:=c;simp only[dS] at f;split at f
  .split at f
   .rename_i x t J K;have e1:args = #[x]:=by rw[<- Ac]; exact J
    have e2:D = #[t]:=by rw[<- Ac]; exact K
    subst e1; subst e2;split at f
    .rename_i I j d3 m sz hT H;split at f
     .rename_i cs T;split at f
      .rename_i hc;obtain ⟨rfl,b8⟩:=hc;cases f;obtain ⟨e,i,z,d,hu,qN⟩:=Fg hT;obtain ⟨Q,U,V⟩:=b8D (ty:=C) F hu qN (F.rd x _ H).1 T b8;refine ⟨.tuple #[],Q,_,_,.inl ?_,Pre.Ld V (xO.2 ⟨#[],rfl,gZ.2 rfl⟩) rfl⟩;show (execOp a.eval ⟨none,.call ⟨.builtin .clear,#[x],#[t]⟩,C,O,G,guard⟩).run E.P w=_;simp[execOp,resolve,invoke,builtin,U]
      .cases f
     .cases f
    .rename_i I o' z' hT H;cases f;obtain ⟨e,i,z,d,hu,qN⟩:=Fg hT;obtain ⟨A,c2,hv,_⟩:=lM.1 (F.rd x _ H).1;refine ⟨.tuple #[],w,M,B,.inl ?_,Pre.plain F (xO.2 ⟨#[],rfl,gZ.2 rfl⟩) (fun b=>gY rfl _ _) (ig rfl)⟩;show (execOp a.eval ⟨none,.call ⟨.builtin .clear,#[x],#[t]⟩,C,O,G,guard⟩).run E.P w=_;have c4:(Builtin.clear_ #[t] C #[a.eval x]).run E.P w = .ok (.tuple #[]) w:=by rw[hv];cases A<;>simp[Builtin.clear_,gm hu]
     simp[execOp,resolve,invoke,builtin,c4]
    .cases f
   .cases f
  .simp only[mX] at g;split at f
   .rename_i s x t u J K;split at f
    .rename_i I ow sz es o' c5 c6 hT N H;split at f
     .rename_i hc;obtain ⟨b4,rfl,X,b0,Y,Z⟩:=hc;cases f;rw[J] at g;simp only[N,H] at g;have e1:args = #[s,x]:=by rw[<- Ac]; exact J
      have e2:D = #[t,t]:=by rw[<- Ac]; exact K
      subst e1; subst e2;obtain ⟨v,Q,M',B',U,V⟩:=b5' (ty:=C) F hT b4 N H X b0 Y Z g;refine ⟨v,Q,M',B',.inl ?_,V⟩;show (execOp a.eval ⟨S,.call ⟨.builtin .append,#[s,x],#[t,t]⟩,C,O,G,guard⟩).run E.P w=_;simp[execOp,resolve,invoke,builtin,U]
     .cases f
    .rename_i I ow sz es b hT N H;split at f
     .rename_i hc;obtain ⟨b4,X,b0,Y,Z,c7⟩:=hc;cases f;rw[J] at g;simp only[N,H] at g;have e1:args = #[s,x]:=by rw[<- Ac]; exact J
      have e2:D = #[t,u]:=by rw[<- Ac]; exact K
      subst e1; subst e2;obtain ⟨v,Q,M',B',U,V⟩:=b62 (ty:=C) F hT X b0 b4 N H Y Z c7 g;refine ⟨v,Q,M',B',.inl ?_,V⟩;show (execOp a.eval ⟨S,.call ⟨.builtin .append,#[s,x],#[t,u]⟩,C,O,G,guard⟩).run E.P w=_;simp[execOp,resolve,invoke,builtin,U]
     .cases f
    .rename_i I l b hT N H;split at f
     .rename_i hc;obtain ⟨X,b0,Y,Z⟩:=hc;cases f;rw[J] at g;simp only[N,H] at g;have e1:args = #[s,x]:=by rw[<- Ac]; exact J
      have e2:D = #[t,u]:=by rw[<- Ac]; exact K
      subst e1; subst e2;obtain ⟨v,Q,M',B',U,V⟩:=b5Z (ty:=C) F hT X b0 N H Y Z g;refine ⟨v,Q,M',B',.inl ?_,V⟩;show (execOp a.eval ⟨S,.call ⟨.builtin .append,#[s,x],#[t,u]⟩,C,O,G,guard⟩).run E.P w=_;simp[execOp,resolve,invoke,builtin,U]
     .cases f
    .rename_i I l o' c5 c6 hT N H;split at f
     .rename_i c b9;split at f
      .rename_i hc;obtain ⟨X,rfl,Y,Z,rfl⟩:=hc;cases f;rw[J] at g;simp only[N,H,b9] at g;have e1:args = #[s,x]:=by rw[<- Ac]; exact J
       have e2:D = #[t,t]:=by rw[<- Ac]; exact K
       subst e1; subst e2;rw[b_T b9] at H;obtain ⟨v,Q,M',B',U,V⟩:=b5Y (ty:=C) F hT X N H Y Z g.1 g.2.1 g.2.2;refine ⟨v,Q,M',B',.inl ?_,V⟩;show (execOp a.eval ⟨S,.call ⟨.builtin .append,#[s,x],#[t,t]⟩,C,O,G,guard⟩).run E.P w=_;simp[execOp,resolve,invoke,builtin,U]
      .cases f
     .cases f
    .cases f
   .cases f
  grind [b1M,pop]
 | makeMap t r =>
  simp only[dS] at f;split at f
  .cases f
  split at f
  .cases f;obtain ⟨J,K⟩:=b'8 (P:=E.P) F t (fB E.mu S);exact ⟨_,_,_,_,.inl (EN (s:=Instr.makeMap t none) rfl J),K⟩
  .cases f
 | lookup t m k ok =>
  simp only[dS] at f;split at f
  .rename_i s z i q ht hm hq;split at f
   .rename_i cs T;split at f
    .rename_i b L b1;split at f
     .rename_i r hk hg;cases f;obtain ⟨v,U,V,g3⟩:=bZ' F ht (F.rd m _ hm).1 T b1 (F.rd k _ hq).1 hk hg ok;exact ⟨v,w,M,B,.inl (EN (s:=Instr.lookup t (a.eval m) (a.eval k) ok) rfl U),Pre.plain F V (fun b=>gY g3 _ _) (ig g3)⟩
     .cases f
    .cases f
   .cases f
  .cases f
 | mapUpdate t m k x =>
  simp only[dS] at f;split at f
  .rename_i s z i q y ht hm hq H;split at f
   .rename_i cs T;split at f
    .rename_i b L b1;split at f
     .rename_i hk;cases f;simp only[bQ,Jg,F6] at hk;obtain ⟨Q,U,V⟩:=b2S F ht (F.rd m _ hm).1 T b1 (F.rd k _ hq).1 hk.1 (F.rd x _ H).1 hk.2.1 (fun e=>by simp_all);refine ⟨.tuple #[],Q,_,_,.inr ⟨?_,rfl⟩,Pre.Ld V (xO.2 ⟨#[],rfl,gZ.2 rfl⟩) rfl⟩;show (execOp a.eval ⟨none,.mapUpdate t m k x,C,O,G,guard⟩).run E.P w=_;simp[execOp,U]
     .cases f
    .cases f
   .cases f
  .cases f
 | insert t m k x =>
  simp only[dS] at f;split at f
  .cases f
  split at f
  .rename_i s z i q y ht hm hq H;split at f
   .rename_i cs T;split at f
    .rename_i b L b1;split at f
     .rename_i hk;cases f;simp only[bQ,Jg,F6] at hk;obtain ⟨Q,U,V⟩:=b2S F ht (F.rd m _ hm).1 T b1 (F.rd k _ hq).1 hk.1 (F.rd x _ H).1 hk.2.1 (fun e=>by simp_all);refine ⟨.tuple #[],Q,_,_,.inr ⟨?_,rfl⟩,Pre.Ld V (xO.2 ⟨#[],rfl,gZ.2 rfl⟩) rfl⟩;show (execOp a.eval ⟨none,.insert t m k x,C,O,G,guard⟩).run E.P w=_;simp[execOp,U]
     .cases f
    .cases f
   .cases f
  .cases f
 | _=>exact b1M F f
end
end Go.Proofs.YtmbehibpfkkjbaaGreatDoor
end

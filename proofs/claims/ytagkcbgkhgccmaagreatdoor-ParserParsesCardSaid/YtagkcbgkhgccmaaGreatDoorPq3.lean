/- A part of the proof. -/
import Derived.Test.YtagkcbgkhgccmaaGreatDoorPq2
import Derived.Test.YtagkcbgkhgccmaaGreatDoorChecked
import Derived.ProofKit
import Derived.SizedLaws
import Derived.Deep.Slices
import Derived.Deep.Fields
import Derived.ChangeArms
import Derived.OpenShut
import Derived.ChangeOld
import Derived.RangeFuncIn
import Derived.OrdersIn
import Derived.TacticsIn
import Derived.LoopNIn
import Derived.RangeFuncRecord
import Derived.RangeFuncLeaves
set_option linter.unusedVariables false
set_option linter.defProp false
set_option linter.unusedSimpArgs false
set_option linter.unnecessarySimpa false
set_option linter.unusedSectionVars false
noncomputable section
namespace Go.Proofs.YtagkcbgkhgccmaaGreatDoor
open Go.RowKit
abbrev R:=Option (PV×aH)
abbrev oW:=FuncId->ai->aH->R
def aB (b:Bool) (A B:R):R:=match b with | true=>A | false=>B
def b_ (b:Bool) (A:R):R:=match b with | true=>A | false=>none
def di (a:ai) (n:Int) (K:PV->R):R:=if 0<=n then (match a[n.toNat]? with | some e=>K e | none=>none) else none
def wV (s:ByteArray) (n:Int) (K:Int->R):R:=if 0<=n then (match s[n.toNat]? with | some b=>K b.toNat | none=>none) else none
mutual
def PV.qK:PV->PV->Bool
 | .int k n,q=>(match q with | .int t j=>decide (k=t)&&decide (n=j) | _=>false)
 | .bool b,q=>(match q with | .bool u=>b==u | _=>false)
 | .str s,q=>(match q with | .str w=>s.data.toList==w.data.toList | _=>false)
 | .nilp,q=>(match q with | .nilp=>true | _=>false)
 | .raw v,q=>(match v,q with | .nilFunc,.raw .nilFunc=>true | .nilIface,.raw .nilIface=>true | _,_=>false)
 | .ptr i o,q=>(match q with | .ptr m h=>Nat.beq i m&&Nat.beq o h | _=>false)
 | .dZ i o,q=>(match q with | .dZ m h=>Nat.beq i m&&Nat.beq o h | _=>false)
 | .cst e,q=>(match q with | .cst x=>PV.qK e x | _=>false)
 | .sl o z l,q=>(match q with | .sl h p d=>(o==h&&Nat.beq z p)&&PV.AB l d | _=>false)
 | .slh i o n z,q=>(match q with | .slh m h j p=>(Nat.beq i m&&Nat.beq o h)&&(Nat.beq n j&&Nat.beq z p) | _=>false)
 | .dn l,q=>(match q with | .dn d=>l==d | _=>false)
 | .iI o n z l,q=>(match q with | .iI h j p d=>((o==h&&Nat.beq n j)&&Nat.beq z p)&&PV.AB l d | _=>false)
 | .mp l,q=>(match q with | .mp d=>PV.AB l d | _=>false)
 | .func f a c,q=>(match q with | .func y A B=>(match f,y with | .func g,.func r=>Nat.beq g r | .yield g,.yield r=>Nat.beq g r | _,_=>false)&&(PV.AB a A&&PV.AB c B) | _=>false)
 | .agg l,q=>(match q with | .agg d=>PV.AB l d | _=>false)
 | .tuple l,q=>(match q with | .tuple d=>PV.AB l d | _=>false)
def PV.AB:ai->ai->Bool
 | [],l=>(match l with | []=>true | _::_=>false)
 | p::a,l=>(match l with | []=>false | q::b=>PV.qK p q&&PV.AB a b)
end
mutual
theorem PV.Yy:∀ {p q:PV},PV.qK p q=true->p=q
 | .int k n,q,h=>by cases q<;>simp[PV.qK] at h; rw[h.1,h.2]
 | .bool b,q,h=>by cases q<;>simp[PV.qK] at h; rw[h]
 | .str s,q,h=>by
  cases q<;>simp[PV.qK] at h
  rename_i g;cases s; cases g; simp only at h; rw[h]
 | .nilp,q,h=>by cases q<;>simp[PV.qK] at h; rfl
 | .raw v,q,h=>by
  unfold PV.qK at h;split at h
  .rfl
  .rfl
  .cases h
 | .ptr i o,q,h=>by cases q<;>simp[PV.qK] at h; rw[h.1,h.2]
 | .dZ i o,q,h=>by cases q<;>simp[PV.qK] at h; rw[h.1,h.2]
 | .cst e,q,h=>by cases q<;>simp[PV.qK] at h; rw[PV.Yy h]
 | .sl o z l,q,h=>by cases q<;>simp[PV.qK] at h; rw[h.1.1,h.1.2,PV.Et h.2]
 | .slh i o n z,q,h=>by cases q<;>simp[PV.qK] at h; rw[h.1.1,h.1.2,h.2.1,h.2.2]
 | .dn l,q,h=>by cases q<;>simp[PV.qK] at h; rw[h]
 | .iI o n z l,q,h=>by cases q<;>simp[PV.qK] at h; rw[h.1.1.1,h.1.1.2,h.1.2,PV.Et h.2]
 | .mp l,q,h=>by cases q<;>simp[PV.qK] at h; rw[PV.Et h]
 | .func f a c,q,h=>by
  cases q<;>simp[PV.qK] at h
  obtain ⟨d,j,m⟩:=h;rw[PV.Et j,PV.Et m];split at d
  .simp at d; rw[d]
  .simp at d; rw[d]
  .cases d
 | .agg l,q,h=>by cases q<;>simp[PV.qK] at h; rw[PV.Et h]
 | .tuple l,q,h=>by cases q<;>simp[PV.qK] at h; rw[PV.Et h]
theorem PV.Et:∀ {l a:ai},PV.AB l a=true->l=a
 | [],a,h=>by cases a<;>simp[PV.AB] at h; rfl
 | p::b,a,h=>by
  cases a<;>simp[PV.AB] at h
  rw[PV.Yy h.1,PV.Et h.2]
end
def Eu:aH->aH->Bool
 | [],l=>(match l with | []=>true | _::_=>false)
 | o::d,l=>(match l with
  | []=>false
  | e::c=>(match o,e with | none,none=>true | some a,some b=>PV.AB a b | _,_=>false)&&Eu d c)
theorem Yx:∀ {l a:aH},Eu l a=true->l=a
 | [],a,h=>by cases a<;>simp[Eu] at h; rfl
 | o::d,a,h=>by
  cases a with
  | nil=>simp[Eu] at h
  | cons e c =>
   simp only[Eu,bH] at h;rw[Yx h.2];have b:=h.1;split at b
   .rfl
   .rw[PV.Et b]
   .cases b
def MO (a b:PV×aH):R:=open Classical in match PV.qK a.1 b.1&&Eu a.2 b.2 with | true=>some a | false=>if a=b then some a else none
theorem b3N (a:PV×aH):MO a a=some a:=by grind [MO]
variable {G:PV×aH}
theorem b3O {b v:PV×aH} (h:MO G b=some v):G=v/\G=b:=by grind [MO,PV.Yy,Yx]
def Jm (a:ai) (K:Bool->R):R:=match K false with
 | some (r,h)=>(match a.isEmpty with | false=>some (r,h) | true=>match K true with | some (b,h')=>MO (r,h) (b,h') | none=>none)
 | none=>none
def WU (a:ai) (n:Nat) (K:PV->R):R:=match a[n]? with | some e=>K e | none=>none
def jk (C:oW) (g:FuncId) (args:ai) (K:PV->R):R:=match C g args [] with | some (r,[])=>K r | _=>none
def BL (C:oW) (g:FuncId) (args:ai) (h:aH) (K:PV->aH->R):R:=match C g args h with | some (r,h')=>K r h' | none=>none
def Ub (p:PV) (K:Bool->R):R:=match p with | .func _ _ _=>K false | .raw .nilFunc=>K true | _=>none
def Q9 (p:PV) (K:FuncId->ai->ai->R):R:=match p with | .func (.func g) first a=>K g first a | _=>none
def UC:ai->Nat->Int->(PV->R)->R
 | [],_,_,_=>none
 | p::r,k,n,K=>aB (n==(k:Int)) (K p) (UC r (k+1) n K)
def Jj (s:Option IntKind) (L:ai) (q:PV) (A:PV->R) (B:R):R:=match yB s L q with
 | some (some p)=>A p
 | some none=>B
 | none=>none
def RI (s:Option IntKind):ai->PV->(PV->R)->R->R
 | k::v::L,q,A,B=>(match qY s q k with | some b=>aB b (A v) (RI s L q A B) | none=>none)
 | [],_,_,B=>B
 | [_],_,_,_=>none
structure XE where
 E:AE
 C:oW
 V:TypeId->PV->(PV->R)->R
 W:FuncId->aH->PV->aH->(PV->aH->R)->R
 L:List Nat->Nat->Code->(AX->ASt->R)->ASt->R
 m0:Nat
def Sv (d:Nat) (v:Bool):gV->gV
 | [] => []
 | (j,q)::l=>bif Nat.beq j d then (j,.bool v)::l else (j,q)::Sv d v l
def ASt.lit (d:Nat) (v:Bool) (a:ASt):ASt := { a with s:=Sv d v a.s }
theorem aEG {d:Nat} {v:Bool}:∀ {s:gV},cu d s=some (.bool v)->Sv d v s=s
 | [],h=>by rfl
 | (j,q)::l,h=>by
  rw[cu] at h;rw[Sv];by_cases e:j=d;simp_all
  .rw[aV e] at h;have a:Nat.beq j d=false:=by
    cases h:Nat.beq j d
    .rfl
    .exact absurd (pI h) e
   rw[a,aEG h]; rfl
def eF (E:AE) (a:Option Nat) (p:PV) (K:ASt->R) (c:ASt):R:=match ASt.put E a p c with | some b=>K b | none=>none
def Wx (E:AE) (a:Option Nat) (p:Option PV) (K:ASt->R) (b:ASt):R:=match p with | some p=>eF E a p K b | none=>none
def qL (X:XE) (o:Oper) (K:ASt->R) (b:ASt):R:=match cO X.E o b with | some (p,a)=>eF X.E o.dst p K a | none=>none
def MX (X:XE) (c:Option Nat) (f:Nat) (e:ai) (g i:Option Operand) (K:ASt->R) (d:ASt):R :=
 match g,i with
 | none,none=>eF X.E c (.sl false f e) K d
 | some l,none=>(match d.rd l with | some (.int _ a)=>b_ (decide (0<=a)&&decide (a<=e.length)) (eF X.E c (.sl false f (e.drop a.toNat)) K d) | _=>none)
 | none,some h=>(match d.rd h with | some (.int _ b)=>b_ (decide (0<=b)&&decide (b<=e.length)) (eF X.E c (.sl false f (e.take b.toNat)) K d) | _=>none)
 | some l,some h=>(match d.rd l,d.rd h with | some (.int _ a),some (.int _ b)=>b_ (decide (0<=a)&&decide (a<=b)&&decide (b<=e.length)) (eF X.E c (.sl false f ((e.take b.toNat).drop a.toNat)) K d) | _,_=>none)
def MZ (X:XE) (c:Option Nat) (s:ByteArray) (e f:Option Operand) (K:ASt->R) (d:ASt):R :=
 match e,f with
 | none,none=>eF X.E c (.str (s.extract 0 s.size)) K d
 | some l,none=>(match d.rd l with | some (.int _ a)=>b_ (decide (0<=a)&&decide (a<=s.size)) (eF X.E c (.str (s.extract a.toNat s.size)) K d) | _=>none)
 | none,some h=>(match d.rd h with | some (.int _ b)=>b_ (decide (0<=b)&&decide (b<=s.size)) (eF X.E c (.str (s.extract 0 b.toNat)) K d) | _=>none)
 | some l,some h=>(match d.rd l,d.rd h with | some (.int _ a),some (.int _ b)=>b_ (decide (0<=a)&&decide (a<=b)&&decide (b<=s.size)) (eF X.E c (.str (s.extract a.toNat b.toNat)) K d) | _,_=>none)
def a7X (X:XE) (a:Option Nat) (t:TypeId) (b:Nat) (c:ai) (n:Int) (K:ASt->R) (d:ASt):R :=
 match xq X.E.P t,kR X.E.P t with
 | some e,some I=>if I.size=b then di c n fun p=>X.V e p fun q=>eF X.E a (.cst q) K d else none
 | _,_=>none
def Pv (X:XE) (a:Option Nat) (k c:IntKind) (b r:Int) (K:ASt->R) (d:ASt):R:=if k=c then b_ (!(b==0)) (eF X.E a (.int k r) K d) else none
def aJE (X:XE) (a:Option Nat) (k:IntKind) (b r:Int) (K:ASt->R) (c:ASt):R:=b_ (decide (0<=b)) (eF X.E a (.int k r) K c)
def YM (P:Program) (t:TypeId):Option (Nat×TypeId):=match P.underlying t with
 | some (.array m e)=>(match ti P e with | some I=>(match Nat.beq I.size 1 && !I.agg with | true=>some (m,e) | false=>none) | none=>none)
 | _=>none
def aQK (E:AE):Operand->Bool
 | .tmp t=>oD E.sy t
 | _=>false
def UW (X:XE) (c:Option Nat) (t:TypeId) (i e n d:Nat) (g j:Option Operand) (K:ASt->R) (f:ASt):R :=
 match kR X.E.P t with
 | some I=>(match Nat.beq I.size d&&Nat.blt 0 d with
  | true=>(match g,j with
   | none,some h=>(match f.rd h with | some (.int _ b)=>b_ (decide (0<=b)&&decide (b<=(n:Int))&&decide (0<n)) (eF X.E c (.slh i e b.toNat d) K f) | _=>none)
   | some l,none=>(match f.rd l with | some (.int _ a)=>b_ (decide (0<=a)&&decide (a<=(n:Int))) (aB (decide (a<(n:Int))) (eF X.E c (.slh i (e+a.toNat*d) (n-a.toNat) d) K f) (eF X.E c (.sl false d []) K f)) | _=>none)
   | _,_=>none)
  | false=>none)
 | none=>none
def Z8 (X:XE) (a:Option Nat) (t:TypeId) (l c:Operand) (K:ASt->R) (b:ASt):R :=
 match kR X.E.P t,b.rd l,b.rd c with
 | some I,some (.int _ n),some (.int _ d)=>(match Nat.blt 0 I.size&&Nat.ble I.bytes 1024 with
  | true=>b_ (decide (n=d)&&decide (0<=n)&&decide (n<=1073741824)) (match dw X.E.mu a with
   | true=>eF X.E a (.slh b.h.length 0 n.toNat I.size) K ⟨b.s,b.h ++ [some (xQ n.toNat I)]⟩
   | false=>(match Nat.beq (wL I).size I.size&&(wL I).okE with | true=>eF X.E a (.sl true I.size (List.replicate n.toNat (wL I))) K b | false=>none))
  | false=>none)
 | _,_,_=>none
def a7W (X:XE) (f:Option Nat) (t:TypeId) (x y:Operand) (K:ASt->R) (c:ASt):R :=
 match kR X.E.P t,c.rd x,c.rd y with
 | some I,some (.slh i a n b),some (.sl _ d o)=>(match c.h[i]? with
  | some (some e)=>(match Nat.beq I.size b&&(Nat.blt 0 b&&(Nat.beq d b||Nat.beq d 0)) with
   | true=>b_ (decide (a+n*b<=e.length)) (eF X.E f (.int .i64 ((Nat.min o.length n:Nat):Int)) K { c with h:=c.h.set i (some (e.take a ++ (gG o).take (Nat.min o.length n*b) ++ e.drop (a+Nat.min o.length n*b))) })
   | false=>none)
  | _=>none)
 | some I,some (.slh i a n b),some (.slh j g m d)=>(match c.h[i]?,c.h[j]? with
  | some (some e),some (some l)=>(match Nat.beq I.size b&&(Nat.blt 0 b&&Nat.beq d b) with
   | true=>b_ (decide (a+n*b<=e.length)&&decide (g+m*b<=l.length)) (eF X.E f (.int .i64 ((Nat.min m n:Nat):Int)) K { c with h:=c.h.set i (some (e.take a ++ (((l.drop g).take (m*b)).map PV.un).take (Nat.min m n*b) ++ e.drop (a+Nat.min m n*b))) })
   | false=>none)
  | _,_=>none)
 | _,_,_=>none
def Z5 (X:XE) (c:Option Nat) (t:TypeId) (x:Operand) (K:ASt->R) (b:ASt):R :=
 match kR X.E.P t,b.rd x,c with
 | some I,some (.slh i a n d),none=>(match b.h[i]? with
  | some (some e)=>(match Nat.beq I.size d with
   | true=>b_ (decide (a+n*d<=e.length)) (K { b with h:=b.h.set i (some (e.take a ++ (xQ n I).map PV.un ++ e.drop (a+n*d))) })
   | false=>none)
  | _=>none)
 | some _,some (.sl _ _ []),none=>K b
 | _,_,_=>none
def Px (X:XE) (a:Option Nat) (t:TypeId) (p:PV) (c:Bool) (K:ASt->R) (d:ASt):R:=match Qm X.E.P t with
 | true=>Ub p fun b=>eF X.E a (.bool (b==c)) K d
 | false=>none
def a7V (X:XE) (c:Option Nat) (e:List TypeId) (s:Operand) (n d:Nat) (f:ai) (b:Nat) (a:ai) (K:ASt->R) (g:ASt):R:=match e with
 | [t,u]=>(match kR X.E.P t with
  | some I=>(match Nat.beq t u&&(Nat.blt 0 I.size&&(Nat.ble I.bytes 1024&&(Nat.beq d I.size&&(Nat.beq b I.size||Nat.beq b 0)))) with
   | true=>b_ (decide (n+a.length<=aO)&&(gG a).all PV.lit) (eF X.E c (.iI true (n+a.length) d (f ++ gG a)) K (g.clr s))
   | false=>none)
  | none=>none)
 | _=>none
def aBW (b:Bool) (a:Nat) (n:Int) (c:Nat):Nat:=match b with
 | true=>a+n.toNat*c
 | false=>(match a,c with | 0,1=>n.toNat | _,_=>a+n.toNat*c)
theorem bUB (b:Bool) (a:Nat) (n:Int) (c:Nat):aBW b a n c=a+n.toNat*c:=by unfold aBW;grind
def bTA (P:Program) (t:TypeId):TypeId:=match P.underlying t with | some (.map _ e)=>e | _=>0
def Z7 (X:XE) (a:Option Nat) (t:TypeId) (c:Bool) (m q:PV) (K:ASt->R) (b:ASt):R :=
 match Di X.E.P t,m with
 | some (s,z),.dZ 0 i=>(match b.h[i]? with
  | some (some d)=>(match Ba d with
   | some (_,L)=>(match zC s q with
    | true=>(match dw X.E.sy a with
     | true=>RI s L q (fun p=>eF X.E a (Dc c z (some p)) K b) (eF X.E a (Dc c z none) K b)
     | false=>Jj s L q (fun p=>X.V (bTA X.E.P t) p fun e=>eF X.E a (Dc c z (some e)) K b) (eF X.E a (Dc c z none) K b))
    | false=>none)
   | none=>none)
  | _=>none)
 | _,_=>none
def Pz (X:XE) (a:Option Nat) (t:TypeId) (m q x:PV) (K:ASt->R) (c:ASt):R :=
 match Di X.E.P t,m,a with
 | some (s,_),.dZ 0 i,none=>(match c.h[i]? with
  | some (some d)=>(match Ba d with
   | some (b,L)=>(match zC s q with
    | true=>b_ (sZ s L q&&(!b||x.flat)) (K { c with h:=c.h.set i (some [pX b (kT s L q x)]) })
    | false=>none)
   | none=>none)
  | _=>none)
 | _,_,_=>none
def Z9 (X:XE) (a:Option Nat) (b:Bool) (q:Option PV) (K:ASt->R) (c:ASt):R:=match b,q with
 | true,some (.dZ T i)=>(match c.h[i]? with
  | some (some d)=>(match Qp d with
   | some (s,p)=>(match Nat.beq T EZ with
    | true=>b_ (decide (0<=p)) (aB (decide (p<(s.size:Int))) (eF X.E a (.tuple [.bool true,.int .i64 p,.int .i32 (a2I s p)]) K { c with h:=c.h.set i (some [AQ s (Qq s p)]) }) (eF X.E a (.tuple [.bool false]) K c))
    | false=>none)
   | none=>none)
  | _=>none)
 | _,_=>none
def Py (X:XE) (o:Oper) (K:ASt->R) (g:ASt):R :=
 match o.op with
 | .convert s d x=>(match g.rd x with
  | some (.sl _ _ A)=>(match Ql X.E.P s&&uk X.E.P d with | true=>b_ (a7E A) (eF X.E o.dst (.str (strOf A)) K g) | false=>none)
  | _=>qL X o K g)
 | .indexAddr t x i=>(match g.rd x,g.rd i with
  | some (.sl _ w A),some (.int _ n)=>a7X X o.dst t w A n K g
  | some (.slh i j m w),some (.int _ n)=>(match dw X.E.sy o.dst with
   | true=>(match kR X.E.P t with
    | some I=>(match Nat.beq I.size w with | true=>b_ (decide (0<=n)&&decide (n<(m:Int))) (eF X.E o.dst (.ptr i (aBW (dw X.E.sy (o.dst.map (8000000 + ·))) j n w)) K g) | false=>none)
    | none=>none)
   | false=>qL X o K g)
  | some (.ptr i j),some (.int _ n)=>(match dw X.E.sy o.dst with
   | true=>(match Gi X.E.P t with
    | some (m,I)=>b_ (decide (0<=n)&&decide (n<(m:Int))) (eF X.E o.dst (.ptr i (j+n.toNat*I.size)) K g)
    | none=>none)
   | false=>qL X o K g)
  | some (.cst (.agg r)),some (.int _ n)=>(match YM X.E.P t with
   | some (m,e)=>b_ (decide (n<(m:Int))) (di r n fun p=>X.V e p fun q=>(match q.one with | true=>eF X.E o.dst (.cst q.un) K g | false=>none))
   | none=>qL X o K g)
  | _,_=>qL X o K g)
 | .load t a=>(match aQK X.E a && !dw X.E.ln o.dst with
  | true=>(match ti X.E.P t,g.rd a with
   | some I,some (.ptr i j)=>(match g.h[i]? with
    | some (some r)=>(match I.agg with
     | true=>b_ (decide (j+I.size<=r.length)) (X.V t (.agg (((r.drop j).take I.size).map PV.un)) fun q=>eF X.E o.dst q K g)
     | false=>(match !dw X.E.mv o.dst with | true=>WU r j fun p=>X.V t p fun q=>eF X.E o.dst q.un K g | false=>none))
    | _=>none)
   | _,_=>none)
  | false=>(match g.rd a,ti X.E.P t with
   | some (.cst e),some I=>b_ (decide (e.isAgg=I.agg)&&decide (e.size=I.size)) (eF X.E o.dst e.un K g)
   | _,_=>qL X o K g))
 | .store t a x=>(match aQK X.E a && !dw X.E.mu (iK a) with
  | true=>(match ti X.E.P t,g.rd a,g.ev x,o.dst with
   | some I,some (.ptr i j),some p,none=>(match g.h[i]? with
    | some (some r)=>(match p with
     | .agg B=>(match Nat.beq B.length I.size&&B.all PV.one with | true=>b_ (decide (j+I.size<=r.length)) (K { g.clr x with h:=(g.clr x).h.set i (some (r.take j ++ B.map PV.un ++ r.drop (j+I.size))) }) | false=>none)
     | p=>(match p.one&&Nat.beq I.size 1 with | true=>b_ (decide (j<r.length)) (K { g.clr x with h:=(g.clr x).h.set i (some (r.set j p)) }) | false=>none))
    | _=>none)
   | _,_,_,_=>none)
  | false=>(match g.ev x with
   | some (.agg B)=>(match ti X.E.P t,g.rd a,o.dst with
    | some I,some (.ptr i j),none=>(match g.h[i]? with
     | some (some r)=>(match SG X.E.mu X.E.ln (iK a) (g.rd a)&&(Nat.beq B.length I.size&&Nat.ble (j+I.size) r.length) with
      | true=>b_ (B.all PV.one) (K { g.clr x with h:=(g.clr x).h.set i (some (r.take j ++ B.map PV.un ++ r.drop (j+I.size))) })
      | false=>none)
     | _=>none)
    | _,_,_=>none)
   | _=>qL X o K g))
 | .index t x i=>(match g.rd x,g.rd i with
  | some (.str s),some (.int _ n)=>(match uk X.E.P t with | true=>wV s n fun b=>eF X.E o.dst (.int .u8 b) K g | false=>none)
  | some (.agg r),some (.int _ n)=>(match dw X.E.sy o.dst with
   | true=>(match YM X.E.P t with
    | some (m,_)=>b_ (decide (0<=n)&&decide (n<(m:Int))) (UC r 0 n fun p=>(match p.one with | true=>eF X.E o.dst p.un K g | false=>none))
    | none=>none)
   | false=>qL X o K g)
  | _,_=>qL X o K g)
 | .pick c a b=>(match g.rd c with
  | some (.bool v)=>aB v (Wx X.E o.dst (g.rd a) K g) (Wx X.E o.dst (g.rd b) K g)
  | _=>none)
 | .slice t x F G none=>(match g.rd x with
  | some (.sl _ w A)=>(match kR X.E.P t with | some I=>if I.size=w then MX X o.dst w A F G K g else none | none=>none)
  | some (.str s)=>(match uk X.E.P t with | true=>MZ X o.dst s F G K g | false=>none)
  | some (.slh i j n w)=>UW X o.dst t i j n w F G K g
  | _=>qL X o K g)
 | .slice t x (some l) (some u) (some m)=>(match g.rd x,g.rd l,g.rd u,g.rd m with
  | some (.sl _ w A),some (.int _ a),some (.int _ b),some (.int _ c)=>(match kR X.E.P t with
   | some I=>(match Nat.beq I.size w with | true=>b_ (decide (0<=a)&&decide (a<=b)&&decide (b<=c)&&decide (c<=(A.length:Int))) (eF X.E o.dst (.sl false w ((A.take b.toNat).drop a.toNat)) K g) | false=>none)
   | none=>none)
  | _,_,_,_=>none)
 | .makeSlice t l c=>Z8 X o.dst t l c K g
 | .lookup t m k L=>(match g.rd m,g.rd k with
  | some D,some q=>Z7 X o.dst t L D q K g
  | _,_=>none)
 | .mapUpdate t m k x=>(match g.rd m,g.rd k,g.rd x with
  | some D,some q,some y=>Pz X o.dst t D q y K g
  | _,_,_=>none)
 | .insert t m k x=>(match a5B X.E.mu X.E.ln (iK m) (g.rd m) with
  | false=>none
  | true=>(match g.rd m,g.rd k,g.rd x with
   | some D,some q,some y=>Pz X o.dst t D q y K g
   | _,_,_=>none))
 | .next x b=>Z9 X o.dst b (g.rd x) K g
 | .fieldAddr s x f=>(match g.rd x,fieldsOf X.E.P s with
  | some (.cst (.agg r)),some M=>(match M[f]? with
   | some (j,z,false)=>(match Nat.beq z 0,r[j]? with
    | false,some p=>b_ p.one (eF X.E o.dst (.cst p.un) K g)
    | _,_=>none)
   | _=>qL X o K g)
  | _,_=>qL X o K g)
 | .box t x=>(match dw X.E.fz o.dst,g.rd x with
  | true,some (.agg B)=>b_ (B.all PV.one&&PV.flats B) (eF X.E o.dst (.cst (.agg (B.map PV.un))) K g)
  | _,_=>qL X o K g)
 | .binOp N t x y _=>(match N,g.rd x,g.rd y with
  | .quo,some (.int k a),some (.int H b)=>Pv X o.dst k H b (k.wrap (a.tdiv b)) K g
  | .rem,some (.int k a),some (.int H b)=>Pv X o.dst k H b (a.tmod b) K g
  | .shl,some (.int k a),some (.int _ b)=>aJE X o.dst k b (k.wrap (a*2 ^ min b.toNat k.bits)) K g
  | .shr,some (.int k a),some (.int _ b)=>aJE X o.dst k b (a.fdiv (2 ^ min b.toNat k.bits)) K g
  | .add,some (.str a),some (.str b)=>b_ (decide (a.size+b.size<=aO)) (eF X.E o.dst (.str (a ++ b)) K g)
  | .eql,some p,some (.raw .nilFunc)=>Px X o.dst t p true K g
  | .neq,some p,some (.raw .nilFunc)=>Px X o.dst t p false K g
  | _,_,_=>qL X o K g)
 | .call c=>(match c.callee with
  | .builtin .clear=>(match c.args.toList,c.argTypes.toList with
   | [x],[t]=>Z5 X o.dst t x K g
   | _,_=>none)
  | .builtin .copy=>(match c.args.toList,c.argTypes.toList with
   | [x,y],[t,_]=>a7W X o.dst t x y K g
   | _,_=>none)
  | .builtin .append=>(match c.args.toList with
   | [s,x]=>(match g.ev s,g.rd x with
    | some (.sl _ _ A),some (.sl _ _ C)=>b_ (decide (A.length+C.length<=aO)) (qL X o K g)
    | some (.sl _ _ A),some (.str b)=>b_ (decide (A.length+b.size<=aO)) (qL X o K g)
    | some (.iI true n w r),some (.sl _ J C)=>a7V X o.dst c.argTypes.toList s n w r J C K g
    | some (.dn l),some (.str b)=>b_ (decide (l.length+b.size<=aO)) (qL X o K g)
    | some (.dn l),some (.sl _ _ C)=>(match Wj C with
     | some c=>b_ (decide (l.length+1<=aO)&&decide (0<=c)&&decide (c<256)) (qL X o K g)
     | none=>none)
    | _,_=>none)
   | _=>none)
  | .builtin _=>qL X o K g
  | _=>none)
 | _=>qL X o K g
def Xf (a:List Nat) (p:PV):PV:=match a.all (Nat.beq · 0) with | true=>p | false=>p.Ap a
def qJ (P:Program):List TypeId->ai->ai
 | t::b,p::a=>Xf (PZ P 8 t) p::qJ P b a
 | _,a=>a
def uG (E:AE) (o:Oper):List TypeId:=match dw E.sy (o.dst.map (9000000 + ·)) with | true => [] | false=>(match o.op with | .call c=>c.argTypes.toList | _ => [])
mutual
def PV.ids:PV->List Nat
 | .ptr i _ => [i]
 | .dZ _ i => [i]
 | .slh i _ _ _ => [i]
 | .func _ a c=>PV.y7 a ++ PV.y7 c
 | .agg b=>PV.y7 b
 | .tuple b=>PV.y7 b
 | _ => []
def PV.y7:ai->List Nat
 | [] => []
 | p::a=>p.ids ++ PV.y7 a
end
def xg (l:List Nat):List Nat->List Nat
 | []=>l
 | i::a=>xg (match oD l i with | true=>l | false=>l ++ [i]) a
def aID (H:aH):List Nat->List Nat
 | [] => []
 | i::l=>(match rC H i with | some a=>PV.y7 a | none => []) ++ aID H l
def JH (H:aH):Nat->List Nat->List Nat
 | 0,l=>l
 | n+1,l=>JH H n (xg l (aID H l))
def aX' (a:List Nat) (H:aH) (b:ai):Bool :=p_ a&&(a.all (fun i=>Nat.blt i H.length)&&(PV.oQ (oD a) b&&a.all fun i=>match rC H i with | some c=>PV.oQ (oD a) c | none=>true))
def AC (X:XE) (d:Option Nat) (g:FuncId) (b:ai) (a:List Nat) (K:ASt->R) (c:ASt):R :=
 match aX' a c.h b with
 | true=>BL X.C g (lL (uy a) b) ((a.map (rC c.h)).map (nH (uy a))) fun r h'=>X.W g ((a.map (rC c.h)).map (nH (uy a))) r h' fun f e=>eF X.E d (kV (sH a c.h.length) f) K ⟨c.s,yx a c.h e⟩
 | false=>none
def nT (p:PV):Bool:=p.one&&p.flat
def Nu:Option (ai)->Bool
 | some a=>a.all nT
 | none=>true
def aEF (a:List Nat) (H h':aH):aH:=uX a (h'.take a.length) H ++ h'.drop a.length
def MV (X:XE) (e:Option Nat) (g:FuncId) (b:ai) (a:List Nat) (K:ASt->R) (c:ASt):R :=
 match p_ a&&(a.all (fun i=>Nat.blt i c.h.length)&&PV.oQ (oD a) b) with
 | true=>b_ ((a.map (rC c.h)).all Nu) (BL X.C g (lL (uy a) b) (a.map (rC c.h)) fun r h'=>X.W g (a.map (rC c.h)) r h' fun f d=>b_ (d.all Nu) (eF X.E e (kV (sH a c.h.length) f) K ⟨c.s,aEF a c.h d⟩))
 | false=>none
def a7Z (X:XE) (b:Option Nat) (r:PV) (K:ASt->R) (c:ASt):R:=match r with
 | .sl true 1 a=>b_ (decide (0<a.length)&&a.all uw) (eF X.E b (.slh c.h.length 0 a.length 1) K ⟨c.s,c.h ++ [some a]⟩)
 | .sl true d a=>aB (decide (0<a.length)) (b_ (a.all (zM d)) (eF X.E b (.slh c.h.length 0 a.length d) K ⟨c.s,c.h ++ [some (gG a)]⟩)) (eF X.E b (.sl true d []) K c)
 | _=>none
def aJB (X:XE) (b:Option Nat) (g:FuncId) (a:ai) (K:ASt->R) (c:ASt):R :=b_ (WG c.h a) (jk X.C g (Kq c.h a) fun r=>X.W g [] r [] fun d _=>(match d.vg with | true=>eF X.E b d K c | false=>none))
def aW7 (l a:List Nat) (n:Nat):Bool:=l.all fun k=>match Nat.ble 1000000 k with
 | true=>Nat.blt (k-1000000) n && !oD a (k-1000000)
 | false=>true
def MS (X:XE) (d:Bool) (o:Oper) (f:Operand) (args:List Operand) (K:ASt->R) (b:ASt):R :=
 match b.rd f,kQ (args.map b.rd) with
 | some (.func (.func g) first a),some c=>(match !d&&(dw X.E.ln o.dst&&dw X.E.sy o.dst) with
  | true=>(match dw X.E.sy (o.dst.map (6000000 + ·)) with
   | true=>MV X o.dst g (first ++ qJ X.E.P (uG X.E o) c ++ a) (xg [] (PV.y7 (first ++ qJ X.E.P (uG X.E o) c ++ a))) K b
   | false=>AC X o.dst g (first ++ qJ X.E.P (uG X.E o) c ++ a) (JH b.h 3 (xg [] (PV.y7 (first ++ qJ X.E.P (uG X.E o) c ++ a)))) K b)
  | false=>match PV.flats (first ++ qJ X.E.P (uG X.E o) c ++ a) with
   | true=>jk X.C g (first ++ qJ X.E.P (uG X.E o) c ++ a) fun r=>X.W g [] r [] fun e _=>(match !d&&dw X.E.mu o.dst with
    | true=>a7Z X o.dst e K b
    | false=>(match PV.flat e with | true=>eF X.E o.dst e K b | false=>none))
   | false=>(match d with
    | true=>match dw X.E.sy o.dst&&aW7 X.E.ln (JH b.h 3 (xg [] (PV.y7 (first ++ qJ X.E.P (uG X.E o) c ++ a)))) b.h.length with
     | true=>AC X o.dst g (first ++ qJ X.E.P (uG X.E o) c ++ a) (JH b.h 3 (xg [] (PV.y7 (first ++ qJ X.E.P (uG X.E o) c ++ a)))) K b
     | false=>none
    | false=>match dw X.E.ln o.dst with
     | true=>aJB X o.dst g (first ++ qJ X.E.P (uG X.E o) c ++ a) K b
     | false=>match dw X.E.sy o.dst with
     | true=>MV X o.dst g (first ++ qJ X.E.P (uG X.E o) c ++ a) (xg [] (PV.y7 (first ++ qJ X.E.P (uG X.E o) c ++ a))) K b
     | false=>AC X o.dst g (first ++ qJ X.E.P (uG X.E o) c ++ a) (JH b.h 3 (xg [] (PV.y7 (first ++ qJ X.E.P (uG X.E o) c ++ a)))) K b))
 | _,_=>none
def Z4 (X:XE) (o:Oper) (f:Operand) (args:List Operand) (K:ASt->R) (b:ASt):R :=
 match b.rd f,kQ (args.map b.rd) with
 | some p,some c=>Q9 p fun g first a=>b_ (PV.flats (first ++ qJ X.E.P (uG X.E o) c ++ a)) (jk X.C g (first ++ qJ X.E.P (uG X.E o) c ++ a) fun r=>X.V o.type r fun d=>(match PV.flat d with | true=>eF X.E o.dst d K b | false=>none))
 | _,_=>none
def JK (X:XE) (a:Bool) (o:Oper) (K:ASt->R) (c:ASt):R :=
 match BV o with
 | some (f,args)=>(match dw X.E.sy (o.dst.map (2000000 + ·)) with | true=>Z4 X o f args K c | false=>MS X a o f args K c)
 | none=>match a with
  | true=>Py X o K c
  | false=>match aBO X.E o c with
   | some (e,d)=>Jm e fun b=>eF X.E o.dst (.bool (b==d)) K c
   | none=>Py X o K c
def JL (X:XE) (a:Bool) (o:Oper) (d:Nat) (b v:Bool) (K:ASt->R) (c:ASt):R :=
 match v==b with
 | true=>JK X a o K (c.lit d v)
 | false=>eF X.E o.dst (.tuple []) K (c.lit d v)
def kS (X:XE) (a:Bool) (c:Array Oper):List Oper->(ASt->R)->ASt->R
 | [],K,e=>K e
 | o::l,K,e=>match o.guard with
  | none=>JK X a o (kS X a c l K) e
  | some (j,f)=>match (c[j]?).bind (·.dst) with
   | none=>eF X.E o.dst (.tuple []) (kS X a c l K) e
   | some d=>match cu d e.s with
    | some (.bool b)=>aB b (JL X a o d f true (kS X a c l K) e) (JL X a o d f false (kS X a c l K) e)
    | some (.tuple [])=>eF X.E o.dst (.tuple []) (kS X a c l K) e
    | _=>none
def xM (k:ASt->R) (K:AX->ASt->R):AX->ASt->R
 | .normal,a=>k a
 | .ret,a=>K .ret a
 | .exit i,a=>K (.exit i) a
def aW (id:Nat) (K:AX->ASt->R):AX->ASt->R
 | .exit i,a=>if i=id then K .normal a else K (.exit i) a
 | .normal,a=>K .normal a
 | .ret,a=>K .ret a
def ASt.keys (E:AE) (a:ASt):List Nat:=(a.keep E.vars).s.map (·.1)
def E5:Code->Nat
 | .region id _ _=>id+1
 | .seq .skip y=>E5 y
 | .seq (.label _) y=>E5 y
 | .seq x _=>E5 x
 | .block _ x=>E5 x
 | .scope x=>E5 x
 | .loop x=>E5 x
 | _=>0
mutual
def PV.aYA:PV->Nat
 | .ptr i _=>i+1
 | .dZ _ i=>i+1
 | .slh i _ _ _=>i+1
 | .func _ f c=>Nat.max (PV.IW f) (PV.IW c)
 | .agg a=>PV.IW a
 | .tuple a=>PV.IW a
 | _=>0
def PV.IW:ai->Nat
 | []=>0
 | p::a=>Nat.max p.aYA (PV.IW a)
end
def aYB:gV->Nat
 | []=>0
 | (_,p)::l=>Nat.max p.aYA (aYB l)
def aER:Nat->aH->Nat
 | 0,_=>0
 | _,[]=>0
 | n+1,o::h=>Nat.max (match o with | some a=>PV.IW a | none=>0) (aER n h)
def aXD:PV->List Nat
 | .slh i _ _ _ => [i]
 | _ => []
def Ey:ai->List Nat
 | [] => []
 | p::a=>xg (aXD p) (Ey a)
def aBT:List Nat->List Nat
 | [] => []
 | k::l=>(match Nat.ble 8500000 k with | true=>(k-8500000)::aBT l | false=>aBT l)
def UY (l:List Nat):gV->List Nat
 | []=>aBT l
 | (k,p)::s=>(match oD l k with | true=>xg (match oD l (7000000+k) with | true=>p.ids | false=>aXD p) (UY l s) | false=>UY l s)
def KP (a:List Nat):Nat->aH->aH
 | _,[] => []
 | j,o::h=>(match oD a j with | true=>none | false=>o)::KP a (j+1) h
def qZ (h:aH):List Nat->Bool
 | []=>true
 | i::a=>(match h[i]? with | some (some b)=>b.all nT | _=>true)&&qZ h a
def WS (d:Nat) (l:List Nat) (c:ASt):Nat :=
 let h:=KP (UY l c.s) 0 c.h
 let a:=Nat.max d (aYB (c.keep l).s)
 let b:=Nat.max a (aER a h)
 Nat.max b (aER b h)
def I9 (l:List Nat) (m:Nat) (a:ASt):Bool:=qZ (a.gc l m).h (UY l (a.gc l m).s)
def F8 (l:List Nat) (m:Nat) (a:ASt):Bool:=(a.gc l m).s.all (fun b=>b.2.blw m)&&BK m (KP (UY l (a.gc l m).s) 0 (a.gc l m).h)
theorem aXA (b:List Nat):∀ (h:aH) (j k:Nat) (o:Option (ai)),h[k]? = some o->(KP b j h)[k]? = some (match oD b (j+k) with | true=>none | false=>o)
 | [],_,_,_,h=>by simp at h
 | a::h,j,0,o,e=>by grind [KP]
 | a::h,j,k+1,o,e=>by rw[KP,Dq,aXA b h (j+1) k o (by grind),show j+1+k=j+(k+1) by omega]
def aVI {h:aH}:∀ {b:List Nat} {i:Nat} {c:ai},qZ h b=true->i∈b->h[i]? = some (some c)->c.all nT=true
 | a::b,i,c,d,f,e=>by
  simp only[qZ,bH] at d;rcases jr.1 f with rfl | f
  .have:=d.1; rw[e] at this; exact this
  .exact aVI d.2 f e
def aVJ (m:Nat):∀ {a:ai},a.all nT=true->PV.blws m a=true
 | [],_=>rfl
 | p::a,h=>by simp only[CO,bH,nT] at h;simp only[PV.blws,aJZ m p h.1.2,aVJ m h.2,LD]
variable {b:Nat} {a':aH} {b0:List Nat}
theorem aH' (c:qZ a' b0=true) (a:BK b (KP b0 0 a')=true):BK b a'=true:=by
 unfold BK at a ⊢;rw[ja] at a ⊢;intro o d;obtain ⟨k,hk⟩:=zg.1 d;have f:=aXA b0 a' 0 k o hk;cases e:oD b0 k with
 | true =>
  cases o with
  | none=>rfl
  | some g=>exact aVJ b (aVI c (Sz.1 e) hk)
 | false =>grind
def a9N {c:ASt} (d:I9 b0 b c=true) (a:F8 b0 b c=true):F7 b0 b c=true:=by unfold F8 at a;unfold F7;rw[bH] at a ⊢;exact ⟨a.1,aH' d a.2⟩
def FD (E:AE) (b:Nat) (y:Code) (k:ASt->R) (a:ASt):R:=match E.jt.lookup (E5 y) with
 | some l=>b_ (I9 l (WS b l a) a) (match decide (b<=WS b l a)&&F8 l (WS b l a) a with | true=>k (a.gc l (WS b l a)) | false=>none)
 | none=>k a
def oC (k:ASt->R):List Nat->ASt->R
 | [],a=>k a
 | d::b,a=>match Nat.ble 9000000 d with
  | true=>(match cu (d-9000000) a.s with
   | some (.ptr i 0)=>(match a.h[i]? with
    | some (some c)=>b_ (decide (0<c.length)&&c.all fun p=>p.one&&p.flat) (oC k b ⟨iy (d-9000000) (.cst ((mX c.length c 1).headD .nilp)) a.s,a.h.set i none⟩)
    | _=>oC k b a)
   | _=>oC k b a)
  | false=>match Nat.ble 5000000 d with
  | true=>(match cu ((d-5000000) / 100) a.s with
   | some (.ptr g 0)=>(match a.h[g]? with
    | some (some f)=>(match f[(d-5000000) % 100]? with
     | some (.slh i 0 n e)=>(match a.h[i]? with
      | some (some c)=>b_ (decide (n*e<=c.length)&&decide (0<e)&&c.all (fun p=>p.one&&p.flat) && !Nat.beq i g) (oC k b ⟨a.s,(a.h.set i none).set g (some (f.set ((d-5000000) % 100) (.sl false e (mX e c n))))⟩)
      | _=>oC k b a)
     | _=>oC k b a)
    | _=>oC k b a)
   | _=>oC k b a)
  | false=>match Nat.ble 4000000 d with
  | true=>(match cu ((d-4000000) / 100) a.s with
   | some (.ptr i 0)=>(match a.h[i]? with
    | some (some f)=>(match f[(d-4000000) % 100]? with
     | some (.iI true n e c)=>aB (Nat.ble 1 n) (oC k b ⟨a.s,a.h.set i (some (f.set ((d-4000000) % 100) (.slh a.h.length 0 n e))) ++ [some c]⟩) (oC k b ⟨a.s,a.h.set i (some (f.set ((d-4000000) % 100) (.sl false e [])))⟩)
     | _=>oC k b a)
    | _=>oC k b a)
   | _=>oC k b a)
  | false=>match Nat.ble 3000000 d with
  | true=>(match cu ((d-3000000) % 500000) a.s with
   | some (.iI true n e c)=>(match Nat.ble 3500000 d with
    | true=>b_ (Nat.ble 1 n) (oC k b ⟨iy ((d-3000000) % 500000) (.slh a.h.length 0 n e) a.s,a.h ++ [some c]⟩)
    | false=>aB (Nat.ble 1 n) (oC k b ⟨iy ((d-3000000) % 500000) (.slh a.h.length 0 n e) a.s,a.h ++ [some c]⟩) (oC k b ⟨iy ((d-3000000) % 500000) (.sl false e []) a.s,a.h⟩))
   | _=>oC k b a)
  | false=>match Nat.ble 1000000 d with
   | true=>(match cu (d-1000000) a.s with
    | some (.slh i 0 n e)=>(match a.h[i]? with
     | some (some c)=>b_ (decide (n*e<=c.length)&&decide (0<e)&&c.all fun p=>p.one&&p.flat) (oC k b ⟨iy (d-1000000) (.sl false e (mX e c n)) a.s,a.h.set i none⟩)
     | _=>oC k b a)
    | _=>oC k b a)
   | false=>oC k b (xy d a)
def wu (E:AE) (a:Nat) (y:Code) (k:ASt->R) (b:ASt):R:=match E.ft.lookup (E5 y) with
 | some c=>oC (FD E a y k) c b
 | none=>FD E a y k b
def mG (E:AE) (b:Nat) (x:Code) (a:ASt):List Nat×Nat:=match E.lt.lookup (E5 x) with
 | some l=>(l,WS b l a)
 | none=>(a.keys E,a.h.length)
open Classical in
def bf (a b:R):R:=match a with
 | some (r,h)=>(match b with | some (c,h')=>(match PV.qK r c&&Eu h h' with | true=>some (r,h) | false=>if r=c/\h=h' then some (r,h) else none) | none=>none)
 | none=>none
theorem uD (a:R):bf a a=a:=by unfold bf;grind
theorem a'X {a b:R} (h:bf a b=some G):a=some G/\b=some G:=by unfold bf at h;grind [PV.Yy,Yx]
def YF:List R->R
 | []=>none
 | x::l=>match l with | []=>x | _::_=>bf x (YF l)
def Gt (X:XE) (a:Array Oper) (K:ASt->R):Nat->Array Bool->ASt->R
 | 0,L,b=>(match Region.ready .any a L with | []=>K b | _::_=>none)
 | fuel+1,L,b=>(match Region.ready .any a L with
  | []=>K b
  | i::c=>YF ((match JM X.E a L (i::c) with | some j => [j] | none=>i::c).map fun i=>match a[i]? with
   | none=>none
   | some o=>kS X true a [o] (Gt X a K fuel (L.setIfInBounds i true)) b))
def aJ5 (X:XE) (a:Array Oper) (K:ASt->R) (b:ASt):R:=Gt X a K a.size (Array.replicate a.size false) b
def aHE {v:PV×aH}:∀ {l:List R},YF l=some v->∀ x,x∈l->x=some v
 | [],_,x,a=>by cases a
 | y::l,h,x,a=>by
  cases l with
  | nil=>rw[TE] at a; subst a; exact h
  | cons z d =>
   obtain ⟨b,c⟩:=a'X h;rcases jr.1 a with a | a
   .subst a; exact b
   .exact aHE c x a
def bC (X:XE):Code->(AX->ASt->R)->ASt->R
 | .skip,K,a=>K .normal a
 | .label _,K,a=>K .normal a
 | .exit id,K,a=>K (.exit id) a
 | .ret,K,a=>K .ret a
 | .region _ e f,K,a=>(match f with
  | true=>(match C_ X.E e with | true=>kS X true e e.toList (K .normal) (a.head X.E) | false=>aJ5 X e (K .normal) (a.head X.E))
  | false=>kS X false e e.toList (K .normal) (a.head X.E))
 | .seq x y,K,a=>bC X x (xM (wu X.E X.m0 y (bC X y K)) K) a
 | .cond c x y,K,a=>(match a.rd c with
  | some (.bool b)=>(match c with
   | .tmp d=>aB b (bC X x K (a.lit d true)) (bC X y K (a.lit d false))
   | _=>aB b (bC X x K a) (bC X y K a))
  | _=>none)
 | .block id x,K,a=>bC X x (aW id K) a
 | .scope x,K,a=>bC X x K a
 | .loop x,K,a=>X.L (mG X.E X.m0 x a).1 (mG X.E X.m0 x a).2 x K (a.gc (mG X.E X.m0 x a).1 (mG X.E X.m0 x a).2)
 | _,_,_=>none
section
variable {ι:Type} (Good:(ι->R)->Prop)
structure La:Prop where
 const:∀ c:R,Good fun _=>c
 bind:∀ (c:ι->R) (k:ι->PV->aH->R),Good c->(∀ r h,Good fun i=>k i r h)->Good fun i=>match c i with | some (r,h)=>k i r h | none=>none
variable {Good} (F:La Good)
theorem La.no (F:La Good):Good fun _=>none:=F.const none
include F
variable {r:Bool}
theorem iP {A:ι->R} (h:Good A):Good fun i=>b_ r (A i):=by
 cases r
 .exact F.no
 .exact h
theorem BQ {A B:ι->R} (h:Good A) (h':Good B):Good fun i=>aB r (A i) (B i):=by
 cases r
 .exact h'
 .exact h
open Classical in
theorem bO7 {A B:ι->R} (h:Good A) (h':Good B):Good fun i=>bf (A i) (B i) :=
 F.bind A (fun i r a=>match B i with | some (b,h')=>(match PV.qK r b&&Eu a h' with | true=>some (r,a) | false=>if r=b/\a=h' then some (r,a) else none) | none=>none) h
  (fun r a=>F.bind B (fun _ b h'=>(match PV.qK r b&&Eu a h' with | true=>some (r,a) | false=>if r=b/\a=h' then some (r,a) else none)) h' fun b h'=>F.const _)
theorem aPD {b:Type} {f:ι->b->R} (h:∀ a,Good fun i=>f i a):∀ l:List b,Good fun i=>YF (l.map (f i))
 | []=>F.no
 | x::l=>by
  cases l with
  | nil=>exact h x
  | cons y l=>exact bO7 F (h x) (aPD h (y::l))
variable {b1:AE} {p:PV}
theorem iG {a:Option Nat} {K:ι->ASt->R} {σ:ASt} (h:∀ σ,Good fun i=>K i σ):Good fun i=>eF b1 a p (K i) σ:=by
 unfold eF; split
 .exact h _
 .exact F.no
variable {d8:Option PV}
theorem aPN {a:Option Nat} {K:ι->ASt->R} {σ:ASt} (h:∀ σ,Good fun i=>K i σ):Good fun i=>Wx b1 a d8 (K i) σ:=by
 cases d8
 .exact F.no
 .exact iG F h
variable {f:ai} {b5:Int}
theorem aPK {K:ι->PV->R} (h:∀ p,Good fun i=>K i p):Good fun i=>di f b5 (K i):=by
 unfold di; split
 .split
  .exact h _
  .exact F.no
 .exact F.no
theorem bOI {n:Nat} {K:ι->PV->R} (h:∀ p,Good fun i=>K i p):Good fun i=>WU f n (K i):=by
 unfold WU; split
 .exact h _
 .exact F.no
theorem bOG {s:Option IntKind} {l:ai} {A:ι->PV->R} {B:ι->R} (h:∀ a,Good fun i=>A i a) (h':Good B):Good fun i=>Jj s l p (A i) (B i):=by
 unfold Jj; split
 .exact h _
 .exact h'
 .exact F.no
theorem aPL {s:Option IntKind} {q:PV} {A:ι->PV->R} {B:ι->R} (h:∀ p,Good fun i=>A i p) (h':Good B):∀ (l:ai),Good fun i=>RI s l q (A i) (B i)
 | k::v::L=>by
  simp only[RI];split
  .exact BQ F (h _) (aPL h h' L)
  .exact F.no
 | []=>h'
 | [_]=>F.no
theorem bOJ {K:ι->Bool->R} (h:∀ b,Good fun i=>K i b):Good fun i=>Jm f (K i):=by
 have:=F.bind (fun i=>K i false) (fun i r a=>match f.isEmpty with | false=>some (r,a) | true=>match K i true with | some (c,h')=>MO (r,a) (c,h') | none=>none) (h false) (fun r a=>by
  cases f.isEmpty
  .exact F.const _
  .exact F.bind (fun i=>K i true) (fun _ c h'=>MO (r,a) (c,h')) (h true) fun c h'=>F.const _)
 exact this
variable {c3:ByteArray}
theorem bO8 {K:ι->Int->R} (h:∀ p,Good fun i=>K i p):Good fun i=>wV c3 b5 (K i):=by
 unfold wV; split
 .split
  .exact h _
  .exact F.no
 .exact F.no
theorem a9S {C:ι->oW} {g:FuncId} {args:ai} {K:ι->PV->R} (hC:∀ g args h,Good fun i=>C i g args h) (h:∀ p,Good fun i=>K i p):Good fun i=>jk (C i) g args (K i):=by
 have:=F.bind (fun i=>C i g args []) (fun i r h=>match h with | []=>K i r | _=>none) (hC _ _ _) (fun r a=>by
  cases a
  .exact h r
  .exact F.no)
 grind [jk]
theorem a1Z {C:ι->oW} {g:FuncId} {args:ai} {K:ι->PV->aH->R} (hC:∀ g args h,Good fun i=>C i g args h) (h:∀ p q,Good fun i=>K i p q):Good fun i=>BL (C i) g args a' (K i) :=F.bind (fun i=>C i g args a') K (hC _ _ _) h
def XE.up (X:XE) (C:oW) (L:List Nat->Nat->Code->(AX->ASt->R)->ASt->R):XE := { X with C:=C,L:=L }
def zV (V:TypeId->PV->(PV->R)->R):Prop:=∀ t p,(∀ K,V t p K=K p)\/(∀ K,V t p K=none)
def uq (W:FuncId->aH->PV->aH->(PV->aH->R)->R):Prop:=∀ g h r h',(∀ K,W g h r h' K=K r h')\/(∀ K,W g h r h' K=none)
variable {X:XE} {C:ι->oW} {L:ι->List Nat->Nat->Code->(AX->ASt->R)->ASt->R} (hV:zV X.V) (hW:uq X.W) (hC:∀ g args h,Good fun i=>C i g args h)
 (hL:∀ (l:List Nat) (m:Nat) (x:Code) (K:ι->AX->ASt->R) (σ:ASt),(∀ e σ,Good fun i=>K i e σ)->Good fun i=>L i l m x (K i) σ)
theorem aPI {K:ι->Bool->R} (h:∀ b,Good fun i=>K i b):Good fun i=>Ub p (K i):=by
 unfold Ub;split
 .exact h _
 .exact h _
 .exact F.no
theorem bOD {K:ι->FuncId->ai->ai->R} (h:∀ g a b,Good fun i=>K i g a b):Good fun i=>Q9 p (K i):=by
 unfold Q9;split;simp_all
 .exact F.no
theorem aPE {n:Int} {K:ι->PV->R} (h:∀ p,Good fun i=>K i p):∀ (a:ai) (k:Nat),Good fun i=>UC a k n (K i)
 | [],_=>F.no
 | p::r,k=>BQ F (h p) (aPE h r (k+1))
theorem bOC {o:Oper} {K:ι->ASt->R} {σ:ASt} (h:∀ σ,Good fun i=>K i σ):Good fun i=>qL (X.up (C i) (L i)) o (K i) σ:=by
 show Good fun i=>match cO X.E o σ with | some (p,a)=>eF X.E o.dst p (K i) a | none=>none
 split
 .exact iG F h
 .exact F.no
variable {y:TypeId}
include hV in
theorem Qc {K:ι->PV->R} (h:∀ p,Good fun i=>K i p):Good fun i=>X.V y p (K i):=by
 rcases hV y p with e | e
 .simp only[e]; exact h p
 .simp only[e]; exact F.no
include hW in
theorem Qd {g:FuncId} {h':aH} {K:ι->PV->aH->R} (h:∀ a q,Good fun i=>K i a q):Good fun i=>X.W g a' p h' (K i):=by
 rcases hW g a' p h' with e | e
 .simp only[e]; exact h _ _
 .simp only[e]; exact F.no
variable {b6 b7:Option Operand}
theorem bOM {a:Option Nat} {b:Nat} {K:ι->ASt->R} {σ:ASt} (h:∀ σ,Good fun i=>K i σ):Good fun i=>MX (X.up (C i) (L i)) a b f b6 b7 (K i) σ:=by
 cases b6<;>cases b7<;>simp only[MX]
 .exact iG F h
 all_goals
  split
  .exact iP F (iG F h)
  .exact F.no
theorem bON {a:Option Nat} {K:ι->ASt->R} {σ:ASt} (h:∀ σ,Good fun i=>K i σ):Good fun i=>MZ (X.up (C i) (L i)) a c3 b6 b7 (K i) σ:=by
 cases b6<;>cases b7<;>simp only[MZ]
 .exact iG F h
 all_goals
  split
  .exact iP F (iG F h)
  .exact F.no
theorem bOL {a:Option Nat} {i b n c:Nat} {K:ι->ASt->R} {σ:ASt} (h:∀ σ,Good fun i=>K i σ):Good fun j=>UW (X.up (C j) (L j)) a y i b n c b6 b7 (K j) σ:=by
 simp only[UW,XE.up];split
 .split
  .split
   .split
    .exact iP F (iG F h)
    .exact F.no
   .split
    .exact iP F (BQ F (iG F h) (iG F h))
    .exact F.no
   .exact F.no
  .exact F.no
 .exact F.no
variable {I:Operand}
theorem bOF {a:Option Nat} {l:Operand} {K:ι->ASt->R} {σ:ASt} (h:∀ σ,Good fun i=>K i σ):Good fun j=>Z8 (X.up (C j) (L j)) a y l I (K j) σ:=by
 simp only[Z8,XE.up];split
 .split
  .refine iP F ?_;split
   .exact iG F h
   .split
    .exact iG F h
    .exact F.no
  .exact F.no
 .exact F.no
theorem bO9 {a:Option Nat} {x:Operand} {K:ι->ASt->R} {σ:ASt} (h:∀ σ,Good fun i=>K i σ):Good fun j=>Z5 (X.up (C j) (L j)) a y x (K j) σ:=by
 simp only[Z5,XE.up];split
 .split
  .split
   .exact iP F (h _)
   .exact F.no
  .exact F.no
 .exact h _
 .exact F.no
theorem aPO {a:Option Nat} {m x:PV} {K:ι->ASt->R} {σ:ASt} (h:∀ σ,Good fun i=>K i σ):Good fun j=>Pz (X.up (C j) (L j)) a y m p x (K j) σ:=by
 simp only[Pz,XE.up];split
 .split
  .split
   .split
    .exact iP F (h _)
    .exact F.no
   .exact F.no
  .exact F.no
 .exact F.no
theorem bOH {a:Option Nat} {K:ι->ASt->R} {σ:ASt} (h:∀ σ,Good fun i=>K i σ):Good fun j=>Z9 (X.up (C j) (L j)) a r d8 (K j) σ:=by
 simp only[Z9];split
 .split
  .split
   .split
    .exact iP F (BQ F (iG F h) (iG F h))
    .exact F.no
   .exact F.no
  .exact F.no
 .exact F.no
include hV in
theorem bOE {b:Option Nat} {m:PV} {K:ι->ASt->R} {σ:ASt} (h:∀ σ,Good fun i=>K i σ):Good fun j=>Z7 (X.up (C j) (L j)) b y r m p (K j) σ:=by
 simp only[Z7,XE.up];split
 .split
  .split
   .split
    .split
     .exact aPL F (fun a=>iG F h) (iG F h) _
     .exact bOG F (fun a=>Qc F hV fun p=>iG F h) (iG F h)
    .exact F.no
   .exact F.no
  .exact F.no
 .exact F.no
include hV in
theorem aPG {o:Oper} {K:ι->ASt->R} {σ:ASt} (h:∀ σ,Good fun i=>K i σ):Good fun i=>Py (X.up (C i) (L i)) o (K i) σ:=by
 have a:=fun {σ:ASt}=>bOC F (X:=X) (C:=C) (L:=L) (o:=o) (σ:=σ) h
 unfold Py;simp only[XE.up];split
 .split
  .split
   .exact iP F (iG F h)
   .exact F.no
  .exact a
 .split
  .simp only[a7X];split
   .split
    .exact aPK F fun p=>Qc F hV fun q=>iG F h
    .exact F.no
   .exact F.no
  .split
   .split
    .split
     .exact iP F (iG F h)
     .exact F.no
    .exact F.no
   .exact a
  .split
   .split
    .exact iP F (iG F h)
    .exact F.no
   .exact a
  .split
   .refine iP F (aPK F fun p=>Qc F hV fun q => ?_);split
    .exact iG F h
    .exact F.no
   .exact a
  .exact a
 .split
  .split
   .split
    .split
     .exact iP F (Qc F hV fun q=>iG F h)
     .split
      .exact bOI F fun p=>Qc F hV fun q=>iG F h
      .exact F.no
    .exact F.no
   .exact F.no
  .split
   .exact iP F (iG F h)
   .exact a
 .split
  .split
   .split
    .split
     .split
      .exact iP F (h _)
      .exact F.no
     .split
      .exact iP F (h _)
      .exact F.no
    .exact F.no
   .exact F.no
  .split
   .split
    .split
     .split
      .exact iP F (h _)
      .exact F.no
     .exact F.no
    .exact F.no
   .exact a
 .split
  .split
   .exact bO8 F fun p=>iG F h
   .exact F.no
  .split
   .split
    .refine iP F (aPE F (fun p => ?_) _ _);split
     .exact iG F h
     .exact F.no
    .exact F.no
   .exact a
  .exact a
 .split
  .exact BQ F (aPN F h) (aPN F h)
  .exact F.no
 .split
  .split
   .split
    .exact bOM F h
    .exact F.no
   .exact F.no
  .split
   .exact bON F h
   .exact F.no
  .exact bOL F h
  .exact a
 .split
  .split
   .split
    .exact iP F (iG F h)
    .exact F.no
   .exact F.no
  .exact F.no
 .exact bOF F h
 .split
  .exact bOE F hV h
  .exact F.no
 .split
  .exact aPO F h
  .exact F.no
 .split
  .exact F.no
  .split
   .exact aPO F h
   .exact F.no
 .exact bOH F h
 .split
  .split
   .split
    .exact iP F (iG F h)
    .exact F.no
   .exact a
  .exact a
 .split
  .exact iP F (iG F h)
  .exact a
 .split
  .simp only[Pv]; split
   .exact iP F (iG F h)
   .exact F.no
  .simp only[Pv]; split
   .exact iP F (iG F h)
   .exact F.no
  .exact iP F (iG F h)
  .exact iP F (iG F h)
  .exact iP F (iG F h)
  .simp only[Px]; split
   .exact aPI F fun b=>iG F h
   .exact F.no
  .simp only[Px]; split
   .exact aPI F fun b=>iG F h
   .exact F.no
  .exact a
 .split
  .split
   .exact bO9 F h
   .exact F.no
  .split
   .simp only[a7W];split
    .split
     .split
      .exact iP F (iG F h)
      .exact F.no
     .exact F.no
    .split
     .split
      .exact iP F (iG F h)
      .exact F.no
     .exact F.no
    .exact F.no
   .exact F.no
  .split
   .split
    .exact iP F a
    .exact iP F a
    .simp only[a7V];split
     .split
      .split
       .exact iP F (iG F h)
       .exact F.no
      .exact F.no
     .exact F.no
    .exact iP F a
    .split
     .exact iP F a
     .exact F.no
    .exact F.no
   .exact F.no
  .exact a
  .exact F.no
 .exact a
variable {U:Oper}
include hW hC in
theorem bOB {args:List Operand} {K:ι->ASt->R} {σ:ASt} (h:∀ σ,Good fun i=>K i σ):Good fun i=>MS (X.up (C i) (L i)) r U I args (K i) σ:=by
 have e:∀ {c:Option Nat} {g:FuncId} {b:ai} {d:List Nat},Good fun i=>AC (X.up (C i) (L i)) c g b d (K i) σ:=fun {c g b d}=>by
  simp only[AC];split
  .exact a1Z F hC fun a h'=>Qd F hW fun p q=>iG F h
  .exact F.no
 unfold MS;simp only[XE.up] at e ⊢;have j:∀ {c:Option Nat} {g:FuncId} {b:ai} {d:List Nat},Good fun i=>MV (X.up (C i) (L i)) c g b d (K i) σ:=fun {c g b d}=>by
  simp only[MV];split
  .exact iP F (a1Z F hC fun a h'=>Qd F hW fun p q=>iP F (iG F h))
  .exact F.no
 simp only[XE.up] at j;split
 .split
  .split
   .exact j
   .exact e
  split
  .refine a9S F hC fun a=>Qd F hW fun p q => ?_
   cases (!r&&dw X.E.mu U.dst)
   .cases PV.flat p
    .exact F.no
    .exact iG F h
   .simp only[a7Z];split
    .exact iP F (iG F h)
    .exact BQ F (iP F (iG F h)) (iG F h)
    .exact F.no
  .cases r
   .cases dw X.E.ln U.dst
    .cases dw X.E.sy U.dst
     .exact e
     .simp only[MV];split
      .exact iP F (a1Z F hC fun a h'=>Qd F hW fun p q=>iP F (iG F h))
      .exact F.no
    .simp only[aJB];refine iP F (a9S F hC fun a=>Qd F hW fun p q => ?_);cases PV.vg p
     .exact F.no
     .exact iG F h
   .dsimp only;split
    .exact e
    .exact F.no
 .exact F.no
include hV hW hC in
theorem aPF {K:ι->ASt->R} {σ:ASt} (h:∀ σ,Good fun i=>K i σ):Good fun i=>JK (X.up (C i) (L i)) r U (K i) σ:=by
 unfold JK;split
 .simp only[XE.up];split
  .simp only[Z4];split
   .refine bOD F fun g a b=>iP F (a9S F hC fun c=>Qc F hV fun d => ?_)
    split
    .exact iG F h
    .exact F.no
   .exact F.no
  .exact bOB F hW hC h
 .cases r
  .simp only[XE.up];split
   .exact bOJ F fun b=>iG F h
   .exact aPG F hV h
  .exact aPG F hV h
include hV hW hC in
theorem Va {a:Bool} {b:Array Oper}:∀ (l:List Oper) {K:ι->ASt->R} {σ:ASt},(∀ σ,Good fun i=>K i σ)->Good fun i=>kS (X.up (C i) (L i)) a b l (K i) σ
 | [],K,σ,h=>h σ
 | o::l,K,σ,h=>by
  have f:∀ σ,Good fun i=>kS (X.up (C i) (L i)) a b l (K i) σ:=fun σ=>Va l h
  have g:∀ {p:PV} {σ:ASt},Good fun i=>eF X.E o.dst p (kS (X.up (C i) (L i)) a b l (K i)) σ:=iG F f
  have e:∀ (d:Nat) (c v:Bool),Good fun i=>JL (X.up (C i) (L i)) a o d c v (kS (X.up (C i) (L i)) a b l (K i)) σ:=fun d c v=>by
   unfold JL;split
   .exact aPF F hV hW hC f
   .exact g
  simp only[kS];split
  .exact aPF F hV hW hC f
  .split
   .exact g
   .split
    .exact BQ F (e _ _ _) (e _ _ _)
    .exact g
    .exact F.no
omit F in
theorem Vb {k:ι->ASt->R} {K:ι->AX->ASt->R} (h:∀ σ,Good fun i=>k i σ) (h':∀ e σ,Good fun i=>K i e σ) (e:AX) (σ:ASt):Good fun i=>xM (k i) (K i) e σ:=by
 cases e
 .exact h σ
 .exact h' _ _
 .exact h' _ _
omit F in
theorem a9R {id:Nat} {K:ι->AX->ASt->R} (h':∀ e σ,Good fun i=>K i e σ) (e:AX) (σ:ASt):Good fun i=>aW id (K i) e σ:=by
 cases e with
 | normal=>exact h' _ _
 | ret=>exact h' _ _
 | exit j =>
  simp only[aW]; split
  .exact h' _ _
  .exact h' _ _
theorem qO {k:ι->ASt->R} (h:∀ σ,Good fun i=>k i σ):∀ (b:List Nat) {σ:ASt},Good fun i=>oC (k i) b σ
 | [],σ=>h σ
 | d::a,σ=>by
  simp only[oC];split
  .split
   .split
    .exact iP F (qO h a)
    .exact qO h a
   .exact qO h a
  split
  .split
   .split
    .split
     .split
      .exact iP F (qO h a)
      .exact qO h a
     .exact qO h a
    .exact qO h a
   .exact qO h a
  split
  .split
   .split
    .split
     .exact BQ F (qO h a) (qO h a)
     .exact qO h a
    .exact qO h a
   .exact qO h a
  split
  .split
   .split
    .exact iP F (qO h a)
    .exact BQ F (qO h a) (qO h a)
   .exact qO h a
  split
  .split
   .split
    .exact iP F (qO h a)
    .exact qO h a
   .exact qO h a
  .exact qO h a
include hV hW hC in
theorem aPH {a:Array Oper} {K:ι->ASt->R} (h:∀ σ,Good fun i=>K i σ):∀ (fuel:Nat) (B:Array Bool) (σ:ASt),Good fun i=>Gt (X.up (C i) (L i)) a (K i) fuel B σ
 | 0,B,σ=>by
  unfold Gt;cases Region.ready .any a B with
  | nil=>exact h σ
  | cons _ _=>exact F.no
 | fuel+1,B,σ=>by
  unfold Gt;cases Region.ready .any a B with
  | nil=>exact h σ
  | cons j b =>
   refine aPD F (f:=fun i k=>match a[k]? with
    | none=>none
    | some o=>kS (X.up (C i) (L i)) true a [o] (Gt (X.up (C i) (L i)) a (K i) fuel (B.setIfInBounds k true)) σ) (fun k => ?_) (match JM X.E a B (j::b) with | some j => [j] | none=>j::b)
   cases a[k]? with
   | none=>exact F.no
   | some o=>exact Va F hV hW hC [o] fun σ=>aPH h fuel _ σ
include hV hW hC hL in
theorem F9:∀ (c:Code) {K:ι->AX->ASt->R} {σ:ASt},(∀ e σ,Good fun i=>K i e σ)->Good fun i=>bC (X.up (C i) (L i)) c (K i) σ
 | .skip,K,σ,h=>h _ _
 | .label _,K,σ,h=>h _ _
 | .exit _,K,σ,h=>h _ _
 | .ret,K,σ,h=>h _ _
 | .region _ a b,K,σ,h=>by
  simp only[bC];cases b
  .exact Va F hV hW hC a.toList (σ:=σ.head X.E) fun σ=>h .normal σ
  .show Good fun i=>match C_ X.E a with | true=>kS (X.up (C i) (L i)) true a a.toList (K i .normal) (σ.head X.E) | false=>aJ5 (X.up (C i) (L i)) a (K i .normal) (σ.head X.E)
   split
   .exact Va F hV hW hC a.toList (σ:=σ.head X.E) fun σ=>h .normal σ
   .exact aPH F hV hW hC (fun σ=>h .normal σ) _ _ _
 | .seq x y,K,σ,h=>by
  simp only[bC];refine F9 x fun e σ=>Vb (fun σ => ?_) h e σ
  show Good fun i=>wu X.E X.m0 y (bC (X.up (C i) (L i)) y (K i)) σ
  have d:∀ σ,Good fun i=>FD X.E X.m0 y (bC (X.up (C i) (L i)) y (K i)) σ:=fun σ=>by
   unfold FD;split
   .refine iP F ?_;split
    .exact F9 y h
    .exact F.no
   .exact F9 y h
  unfold wu;split
  .exact qO F d _
  .exact d _
 | .cond c x y,K,σ,h=>by
  simp only[bC];split
  .split
   .exact BQ F (F9 x h) (F9 y h)
   .exact BQ F (F9 x h) (F9 y h)
  .exact F.no
 | .block id x,K,σ,h=>by simp only[bC]; exact F9 x fun e σ=>a9R h e σ
 | .scope x,K,σ,h=>by simp only[bC]; exact F9 x h
 | .loop x,K,σ,h=>hL (mG X.E X.m0 x σ).1 (mG X.E X.m0 x σ).2 x K (σ.gc (mG X.E X.m0 x σ).1 (mG X.E X.m0 x σ).2) h
 | .rangeFunc _ _ _ _,K,σ,h=>F.no
 | .goto _,K,σ,h=>F.no
 | .refuse _,K,σ,h=>F.no
end
section
variable {X:XE} {K:ASt->R} {σ:ASt} {v:PV×aH} {o:Oper} {ops:Array Oper} {b1:AE} {b2:Option Nat}
theorem vC {p:PV} (h:eF b1 b2 p K σ=some v):jZ b1 b2 p σ fun a=>K a=some v:=by grind [eF,jZ]
variable {r:Bool}
theorem iF {A:R} (h:b_ r A=some v):r=true/\A=some v:=by
 cases r
 .cases h
 .exact ⟨rfl,h⟩
theorem jG {p:PV} {σ1:ASt} (h:cO b1 o σ=some (p,σ1)) (b:kL b1 o σ) (c:eF b1 o.dst p K σ1=some v):zO b1 o (fun a=>K a=some v) σ:=by grind [zO,vC]
theorem sQ (b:kL X.E o σ) (h:qL X o K σ=some v):zO X.E o (fun a=>K a=some v) σ:=by grind [qL,jG]
def a4L (h:σ.rd (.tmp b)=some (.bool r)):σ.lit b r=σ:=by
 have:cu b σ.s=some (.bool r):=by
  simp only[ASt.rd,ASt.ev] at h;cases a:cu b σ.s with
  | none=>rw[a] at h; cases h
  | some p =>
   rw[a] at h;cases p<;>simp[PV.un] at h
   rw[h]
 unfold ASt.lit; rw[aEG this]
variable {y:TypeId}
theorem Si {V:TypeId->PV->(PV->R)->R} (a:zV V) {p:PV} {K:PV->R} (h:V y p K=some v):K p=some v:=by
 rcases a y p with e | e
 simp_all;simp_all
variable {u:FuncId}
theorem Wl {W:FuncId->aH->PV->aH->(PV->aH->R)->R} (b:uq W) {a h':aH} {r:PV} {K:PV->aH->R} (h:W u a r h' K=some v):K r h'=some v:=by
 rcases b u a r h' with e | e
 simp_all;simp_all
variable {f:ai} {b5:Int}
theorem aSO {K:PV->R} (h:di f b5 K=some v):0<=b5/\∃ e,f[b5.toNat]? = some e/\K e=some v:=by grind [di]
theorem bTX {K:PV->R} (h:WU f b K=some v):∃ e,f[b]? = some e/\K e=some v:=by grind [WU]
theorem bT' {K:Bool->R} (h:Jm f K=some v):K false=some v/\(f = []->K true=some v):=by grind [Jm,b3O]
theorem aK1 {p:PV} {K:Bool->R} (h:Ub p K=some v):∃ b,K b=some v/\((b=false/\∃ f a c,p = .func f a c)\/(b=true/\p = .raw .nilFunc)):=by unfold Ub at h;grind
theorem b55 {p:PV} {K:FuncId->ai->ai->R} (h:Q9 p K=some v):∃ g a c,p = .func (.func g) a c/\K g a c=some v:=by unfold Q9 at h;grind
theorem aHT {n:Int} {K:PV->R}:∀ {a:ai} {k:Nat},UC a k n K=some v->∃ j p,n=((k+j:Nat):Int)/\a[j]? = some p/\K p=some v
 | [],_,h=>by cases h
 | p::r,k,h=>by
  rw[UC] at h;cases b:n==(k:Int) with
  | true=>rw[b] at h; exact ⟨0,p,by grind,rfl,h⟩
  | false =>rw[b] at h;obtain ⟨j,q,d,e,c⟩:=aHT h;exact ⟨j+1,q,by omega,by grind,c⟩
variable {Z:Program}
def aK2 {p:PV} (e:Qm Z y=true) (g:(r=false/\∃ f a c,p = .func f a c)\/(r=true/\p = .raw .nilFunc)) (d:Bool):Eg Z (match d with | true => .eql | false => .neq) y p (.raw .nilFunc)=some (.bool (r==d)):=by rcases g with ⟨rfl,f,a,c,rfl⟩|⟨rfl,rfl⟩<;>cases d<;>simp[e]
variable {c3:ByteArray}
theorem b09 {K:Int->R} (h:wV c3 b5 K=some v):0<=b5/\∃ b,c3[b5.toNat]? = some b/\K b.toNat=some v:=by grind [wV]
def aTA {s:Option IntKind} {q:PV} {A:PV->R} {B:R} {v:PV×aH}:∀ {L:ai},RI s L q A B=some v->(∃ p,yB s L q=some (some p)/\A p=some v)\/(yB s L q=some none/\B=some v)
 | k::x::L,h=>by
  simp only[RI] at h;split at h
  .rename_i b a;cases b with
   | true=>exact .inl ⟨x,by simp only[yB,a],h⟩
   | false =>
    rcases aTA h with ⟨p,c,d⟩|⟨c,d⟩
    .exact .inl ⟨p,by simp only[yB,a]; exact c,d⟩
    .exact .inr ⟨by simp only[yB,a]; exact c,d⟩
  .cases h
 | [],h => .inr ⟨rfl,h⟩
 | [_],h=>by cases h
theorem bZF (a:∀ c,o.op ≠ .call c) (E:AE):kL E o σ:=by simp
variable {b6 b7:Option Operand} {I:Operand}
theorem bZS {c:TI} (i:kR X.E.P y=some c) (j:c.size=b) (g:σ.rd I=some (.sl r b f)) (h:MX X b2 b f b6 b7 K σ=some v) :
 ∃ p,pop X.E.P σ.rd (.slice y I b6 b7 none)=some p/\eF X.E b2 p K σ=some v:=by
 have e:(kR X.E.P y).map TI.size=some b:=by rw[i]; simp[j]
 cases b6 with
 | none =>
  cases b7 with
  | none=>exact ⟨_,by simp only[pop,g,xI]; rw[ah ⟨e,by omega,by omega,by omega⟩]; simp,h⟩
  | some d =>grind [MX,iF,pop,xI]
 | some a =>
  cases b7 with
  | none =>
   simp only[MX] at h;split at h
   .rename_i k n l;obtain ⟨m,o⟩:=iF h;simp only[bH,pJ] at m;exact ⟨_,by simp only[pop,g,l,Ot,xI]; rw[ah ⟨e,by omega,by omega,by omega⟩]; simp,o⟩
   .cases h
  | some d =>grind [MX,iF,pop,xI]
theorem bZT (c:uk X.E.P y=true) (d:σ.rd I=some (.str c3)) (h:MZ X b2 c3 b6 b7 K σ=some v) :
 ∃ p,pop X.E.P σ.rd (.slice y I b6 b7 none)=some p/\eF X.E b2 p K σ=some v:=by
 cases b6 with
 | none =>grind [pop,xI,MZ,iF]
 | some a =>
  cases b7 with
  | none =>grind [MZ,iF,pop,xI]
  | some b =>grind [MZ,iF,pop,xI]
theorem bZR {d n g:Nat} (o:σ.rd I=some (.slh b d n g)) (h:UW X b2 y b d n g b6 b7 K σ=some v) :
 ∃ p,pop X.E.P σ.rd (.slice y I b6 b7 none)=some p/\eF X.E b2 p K σ=some v:=by
 unfold UW at h;split at h
 .rename_i c q;split at h
  .rename_i j;simp only[bH,EP] at j;have l:=pI j.1;have r:(kR X.E.P y).map TI.size=some g:=by rw[q]; simp[l]
   split at h
   grind [iF,pop,xI]
   .split at h
    .rename_i k a u;obtain ⟨m,e⟩:=iF h;simp only[bH,pJ] at m;simp only[pop,o,u,Ot,xI];rw[ah ⟨r,m.1,m.2,Int.le_refl _,j.2⟩];by_cases f:a<(n:Int)
     .rw[decide_eq_true f] at e;exact ⟨_,by rw[ah f]; simp,e⟩
     .rw[decide_eq_false f] at e;exact ⟨_,by rw[aV f],e⟩
    .cases h
   .cases h
  .cases h
 .cases h
theorem aHU {e:TypeId} (h:YM Z y=some (b,e)):∃ I,Gi Z y=some (b,I)/\I.size=1/\I.agg=false:=by unfold YM at h;grind [Gi,Nat.eq_of_beq_eq_true]
theorem aJC (hV:zV X.V) (U:BV o=none) (h:Py X o K σ=some v):zO X.E o (fun c0=>K c0=some v) σ:=by
 obtain ⟨F,op,O,G,Q,g⟩:=o;unfold Py at h;simp only at h;split at h
 .rename_i s d x;have A:kL X.E ⟨F,.convert s d x,O,G,Q,g⟩ σ:=trivial;split at h
  .rename_i ow Z es H;split at h
   .rename_i Y;simp only[bH] at Y;obtain ⟨D,C⟩:=iF h;exact jG (by grind [cO,pop,UN]) A C
   .cases h
  .exact sQ A h
 .rename_i t x i;have A:kL X.E ⟨F,.indexAddr t x i,O,G,Q,g⟩ σ:=trivial;split at h
  .rename_i ow Z es k n H hi;unfold a7X at h;split at h
   .rename_i e I D C;split at h
    .rename_i hI;obtain ⟨hn,p,hp,h⟩:=aSO h;have h:=Si hV h;exact jG (by grind [cO,pop]) A h
    .cases h
   .cases h
  .rename_i M B m Z k n H hi;split at h
   .split at h
    .rename_i I hI;split at h
     .rename_i S;rw[bUB] at h;obtain ⟨D,C⟩:=iF h;simp only[bH,pJ] at D;exact jG (p := .ptr M (B+n.toNat*Z)) (by grind [cO,pop,Nat.eq_of_beq_eq_true]) A C
     .cases h
    .cases h
   .exact sQ A h
  .rename_i M B k n H hi;split at h
   .split at h
    .rename_i m I hI;obtain ⟨D,C⟩:=iF h;simp only[bH,pJ] at D;exact jG (p := .ptr M (B+n.toNat*I.size)) (by grind [cO,pop]) A C
    .cases h
   .exact sQ A h
  .rename_i J k n H hi;split at h
   .rename_i m e Y;obtain ⟨D,C⟩:=iF h;obtain ⟨hn,p,hp,h⟩:=aSO C;have h:=Si hV h;obtain ⟨I,hI,d4,b7⟩:=aHU Y;split at h
    .rename_i ho;refine jG (p := .cst p.un) (by simp only[cO,pop,H,hi,hI];rw[ah ⟨hn,by grind⟩];simp_all) A h
    .cases h
   .exact sQ A h
  .exact sQ A h
 .rename_i t a;have A:kL X.E ⟨F,.load t a,O,G,Q,g⟩ σ:=trivial;split at h
  .rename_i b0;have d5:dw X.E.ln F=false:=by simp_all
   split at h
   .rename_i I M B hI ha;split at h
    .rename_i J N;split at h
     .rename_i b7;obtain ⟨D,C⟩:=iF h;have h:=Si hV C;exact jG (σ1:=σ) (by grind [cO,pV]) A h
     .rename_i b7;split at h
      .rename_i U;simp only[Ij] at U;obtain ⟨q,hq,h⟩:=bTX h;have h:=Si hV h;exact jG (p:=q.un) (σ1:=σ) (by grind [cO,pV]) A h
      .cases h
    .cases h
   .cases h
  .split at h
   .rename_i e I ha hI;obtain ⟨D,C⟩:=iF h;simp only[bH,pJ] at D;refine jG (p:=e.un) (σ1:=σ) ?_ A C;grind [cO,aUK,pV]
   .exact sQ A h
 .rename_i t a x;have A:kL X.E ⟨F,.store t a x,O,G,Q,g⟩ σ:=trivial;split at h
  .rename_i b0;have b5:∀ r,SG X.E.mu X.E.ln (iK a) r=true:=fun r=>by simp only[bH,Ij] at b0;unfold SG;rw[b0.2]
   split at h
   .rename_i I M B q hI ha H;split at h
    .rename_i J N;have c6:(σ.clr x).h=σ.h:=by cases x<;>simp only[ASt.clr]<;>split<;>rfl
     split at h
     .rename_i ds;split at h
      .rename_i U;simp only[bH] at U;obtain ⟨D,C⟩:=iF h;have b8:zQ I (.ptr M B) (.agg ds) (σ.clr x)=some { σ.clr x with h:=(σ.clr x).h.set M (some (J.take B ++ ds.map PV.un ++ J.drop (B+I.size))) }:=by simp_all
       exact jG (p := .tuple []) (σ1 := { σ.clr x with h:=(σ.clr x).h.set M (some (J.take B ++ ds.map PV.un ++ J.drop (B+I.size))) }) (by grind [cO]) A (by grind [eF,ASt.put])
      .cases h
     .rename_i q' d6;split at h
      .rename_i U;simp only[bH] at U;obtain ⟨D,C⟩:=iF h;have b8:zQ I (.ptr M B) q (σ.clr x)=some { σ.clr x with h:=(σ.clr x).h.set M (some (J.set B q)) }:=by simp_all
       exact jG (p := .tuple []) (σ1 := { σ.clr x with h:=(σ.clr x).h.set M (some (J.set B q)) }) (by grind [cO]) A (by grind [eF,ASt.put])
      .cases h
    .cases h
   .cases h
  .split at h
   .rename_i ds H;split at h
    .rename_i I M B hI ha;split at h
     .rename_i J N;split at h
      .rename_i U;simp only[bH,Nat.ble_eq] at U;obtain ⟨b5,d7,d8⟩:=U;obtain ⟨D,C⟩:=iF h;have c6:(σ.clr x).h=σ.h:=by cases x<;>simp only[ASt.clr]<;>split<;>rfl
       have b8:zQ I (.ptr M B) (.agg ds) (σ.clr x)=some { σ.clr x with h:=(σ.clr x).h.set M (some (J.take B ++ ds.map PV.un ++ J.drop (B+I.size))) }:=by simp_all
       exact jG (p := .tuple []) (σ1 := { σ.clr x with h:=(σ.clr x).h.set M (some (J.take B ++ ds.map PV.un ++ J.drop (B+I.size))) }) (by grind [cO]) A (by grind [eF,ASt.put])
      .cases h
     .cases h
    .cases h
   .exact sQ A h
 .rename_i t x i;have A:kL X.E ⟨F,.index t x i,O,G,Q,g⟩ σ:=trivial;split at h
  .rename_i s k n H hi;split at h
   .rename_i Y;obtain ⟨hn,b,hb,h⟩:=b09 h;exact jG (by grind [cO,pop]) A h
   .cases h
  .rename_i J k n H hi;split at h
   .split at h
    .rename_i m e hm;obtain ⟨c1,h⟩:=iF h;simp only[bH,pJ] at c1;obtain ⟨I,D,C,h3⟩:=aHU hm;obtain ⟨j,p,e1,e2,h⟩:=aHT h;split at h
     .rename_i ho;have ej:n.toNat=j:=by omega
      exact jG (p:=p.un) (σ1:=σ) (by grind [cO,pop,yK]) A h
     .cases h
    .cases h
   .exact sQ A h
  .exact sQ A h
 .rename_i c a b;have A:kL X.E ⟨F,.pick c a b,O,G,Q,g⟩ σ:=trivial;split at h
  .rename_i w hw;cases w with
   | true =>
    have h:Wx X.E F (σ.rd a) K σ=some v:=h;cases ha:σ.rd a with
    | none=>rw[ha] at h; cases h
    | some p =>rw[ha] at h;exact jG (by grind [cO,pop]) A h
   | false =>
    have h:Wx X.E F (σ.rd b) K σ=some v:=h;cases ha:σ.rd b with
    | none=>rw[ha] at h; cases h
    | some p =>rw[ha] at h;exact jG (by grind [cO,pop]) A h
  .cases h
 .rename_i t x lo hi;have A:kL X.E ⟨F,.slice t x lo hi none,O,G,Q,g⟩ σ:=trivial;split at h
  .rename_i ow Z es H;split at h
   .rename_i I hI;split at h
    .rename_i S;obtain ⟨p,D,C⟩:=bZS hI S H h;exact jG (by grind [cO]) A C
    .cases h
   .cases h
  .rename_i s H;split at h
   .rename_i Y;obtain ⟨p,D,C⟩:=bZT Y H h;exact jG (by grind [cO]) A C
   .cases h
  .rename_i M B m Z H;obtain ⟨p,D,C⟩:=bZR H h;exact jG (by grind [cO]) A C
  .exact sQ A h
 .rename_i t x l u m;have A:kL X.E ⟨F,.slice t x (some l) (some u) (some m),O,G,Q,g⟩ σ:=trivial;split at h
  .rename_i ow Z es k1 a k2 b k3 c H hl hu hm;split at h
   .rename_i I hI;split at h
    .rename_i S;obtain ⟨D,C⟩:=iF h;simp only[bH,pJ] at D;obtain ⟨⟨⟨b1,b2⟩,b3⟩,b4⟩:=D;exact jG (σ1:=σ) (by grind [cO,pop,a4X,Nat.eq_of_beq_eq_true]) A C
    .cases h
   .cases h
  .cases h
 .rename_i t l c;have A:kL X.E ⟨F,.makeSlice t l c,O,G,Q,g⟩ σ:=trivial;unfold Z8 at h;split at h
  .rename_i I k n k' n' hT hl U;split at h
   .rename_i S;simp only[bH,EP,Nat.ble_eq] at S;obtain ⟨D,C⟩:=iF h;simp only[bH,pJ] at D;have c8:n=n'/\0<=n/\n<=1073741824/\0<I.size/\I.bytes<=1024:=⟨D.1.1,D.1.2,D.2,S.1,S.2⟩;split at C
    .rename_i hm;exact jG (σ1:=⟨σ.s,σ.h ++ [some (xQ n.toNat I)]⟩) (by grind [cO]) A C
    .rename_i hm;split at C
     .rename_i c9;simp only[bH] at c9;exact jG (σ1:=σ) (by grind [cO,Nat.eq_of_beq_eq_true]) A C
     .cases C
   .cases h
  .cases h
 .rename_i t m k ok;have A:kL X.E ⟨F,.lookup t m k ok,O,G,Q,g⟩ σ:=trivial;split at h
  .rename_i pm q hm hq;unfold Z7 at h;split at h
   .rename_i s z i Y;split at h
    .rename_i J N;split at h
     .rename_i b L b6;split at h
      .rename_i b9;split at h
       .rcases aTA h with ⟨p,hg,h⟩|⟨hg,h⟩
        .exact jG (σ1:=σ) (p:=Dc ok z (some p)) (by grind [cO]) A h
        .exact jG (σ1:=σ) (p:=Dc ok z none) (by grind [cO]) A h
       .unfold Jj at h;split at h
        .rename_i p hg;have h:=Si hV h;exact jG (σ1:=σ) (p:=Dc ok z (some p)) (by grind [cO]) A h
        .rename_i hg;exact jG (σ1:=σ) (p:=Dc ok z none) (by grind [cO]) A h
        .cases h
      .cases h
     .cases h
    .cases h
   .cases h
  .cases h
 .rename_i t m k x;have A:kL X.E ⟨F,.mapUpdate t m k x,O,G,Q,g⟩ σ:=trivial;split at h
  .rename_i pm q y hm hq hy;unfold Pz at h;split at h
   .rename_i s z i Y;split at h
    .rename_i J N;split at h
     .rename_i b L b6;split at h
      .rename_i b9;obtain ⟨D,C⟩:=iF h;exact jG (p := .tuple []) (σ1 := { σ with h:=σ.h.set i (some [pX b (kT s L q y)]) }) (by grind [cO]) A (by grind [eF,ASt.put])
      .cases h
     .cases h
    .cases h
   .cases h
  .cases h
 .rename_i t m k x;have A:kL X.E ⟨F,.insert t m k x,O,G,Q,g⟩ σ:=trivial;split at h
  .cases h
  rename_i b5;split at h
  .rename_i pm q y hm hq hy;unfold Pz at h;split at h
   .rename_i s z i Y;split at h
    .rename_i J N;split at h
     .rename_i b L b6;split at h
      .rename_i b9;obtain ⟨D,C⟩:=iF h;exact jG (p := .tuple []) (σ1 := { σ with h:=σ.h.set i (some [pX b (kT s L q y)]) }) (by rw[hm] at b5; grind [cO]) A (by grind [eF,ASt.put])
      .cases h
     .cases h
    .cases h
   .cases h
  .cases h
 .rename_i x b;have A:kL X.E ⟨F,.next x b,O,G,Q,g⟩ σ:=trivial;unfold Z9 at h;split at h
  .rename_i T i H;split at h
   .rename_i J N;split at h
    .rename_i s p b6;split at h
     .rename_i hT;obtain ⟨D,C⟩:=iF h;cases hp:decide (p<(s.size:Int)) with
      | true =>rw[hp] at C;exact jG (p := .tuple [.bool true,.int .i64 p,.int .i32 (a2I s p)]) (σ1 := { σ with h:=σ.h.set i (some [AQ s (Qq s p)]) }) (by grind [cO]) A C
      | false =>rw[hp] at C;exact jG (p := .tuple [.bool false]) (σ1:=σ) (by grind [cO]) A C
     .cases h
    .cases h
   .cases h
  .cases h
 .rename_i s x f;have A:kL X.E ⟨F,.fieldAddr s x f,O,G,Q,g⟩ σ:=trivial;split at h
  .rename_i J fs H c';split at h
   .rename_i B z hf;split at h
    .rename_i p S hp;obtain ⟨D,C⟩:=iF h;have S:z≠0:=fun e=>by simp_all
     exact jG (p := .cst p.un) (σ1:=σ) (by simp only[cO,pop,c',H,hf,Ot,aV S,XM,yK,hp,D,CQ,TA,if_false,Xt]) A C
    .cases h
   .exact sQ A h
  .exact sQ A h
 .rename_i t x;have A:kL X.E ⟨F,.box t x,O,G,Q,g⟩ σ:=trivial;split at h
  .rename_i ds hf H;obtain ⟨D,C⟩:=iF h;rw[bH] at D;exact jG (p := .cst (.agg (ds.map PV.un))) (σ1:=σ) (by simp only[cO,hf,H,Ot,CQ]; rw[show Q8 (.agg ds)=some (.agg (ds.map PV.un)) by grind [Q8,PV.newCells,PV.flat]]; rfl) A C
  .exact sQ A h
 .rename_i Yb t x y t';have A:kL X.E ⟨F,.binOp Yb t x y t',O,G,Q,g⟩ σ:=trivial;split at h
  .rename_i k a k' b H hy;unfold Pv at h;split at h
   .rename_i e;obtain ⟨D,C⟩:=iF h;have D:b≠0:=by grind
    exact jG (by grind [cO,pop,Eg,Qj]) A C
   .cases h
  .rename_i k a k' b H hy;unfold Pv at h;split at h
   .rename_i e;obtain ⟨D,C⟩:=iF h;have D:b≠0:=by grind
    exact jG (by grind [cO,pop,Eg,Qj]) A C
   .cases h
  .rename_i k a k' b H hy;obtain ⟨D,C⟩:=iF h;have D:¬ b<0:=by grind
   exact jG (by grind [cO,pop,Eg,Rz]) A C
  .rename_i k a k' b H hy;obtain ⟨D,C⟩:=iF h;have D:¬ b<0:=by grind
   exact jG (by grind [cO,pop,Eg,Rz]) A C
  .rename_i a b H hy;obtain ⟨D,C⟩:=iF h;have D:=TM D;exact jG (by grind [cO,pop,Eg,XL]) A C
  .rename_i p H hy;unfold Px at h;split at h
   .rename_i Y;obtain ⟨b,D,C⟩:=aK1 h;exact jG (σ1:=σ) (by simp only[cO,pop,H,hy]; rw[aK2 Y C true]; rfl) A D
   .cases h
  .rename_i p H hy;unfold Px at h;split at h
   .rename_i Y;obtain ⟨b,D,C⟩:=aK1 h;exact jG (σ1:=σ) (by simp only[cO,pop,H,hy]; rw[aK2 Y C false]; rfl) A D
   .cases h
  .exact sQ A h
 .rename_i c;split at h
  .rename_i b';split at h
   .rename_i x t D C;have A:kL X.E ⟨F,.call c,O,G,Q,g⟩ σ:=by simp_all
    unfold Z5 at h;split at h
    .rename_i I M B m Z hT H;split at h
     .rename_i J N;split at h
      .rename_i S;obtain ⟨c1,c2⟩:=iF h;exact jG (p := .tuple []) (σ1 := { σ with h:=σ.h.set M (some (J.take B ++ (xQ m I).map PV.un ++ J.drop (B+m*Z))) }) (by grind [cO,Nat.eq_of_beq_eq_true]) A (by grind [eF,ASt.put])
      .cases h
     .cases h
    .rename_i I o' z' hT H;exact jG (p := .tuple []) (σ1:=σ) (by grind [cO]) A (by grind [eF,ASt.put])
    .cases h
   .cases h
  .rename_i b';split at h
   .rename_i x y t u D C;have A:kL X.E ⟨F,.call c,O,G,Q,g⟩ σ:=by simp_all
    unfold a7W at h;split at h
    .rename_i I M B n Z o' a' es hT H hy;split at h
     .rename_i J N;split at h
      .rename_i S;simp only[bH,EP] at S;obtain ⟨z1,z2,z3⟩:=S;obtain ⟨c1,c2⟩:=iF h;exact jG (p := .int .i64 ((Nat.min es.length n:Nat):Int)) (σ1 := { σ with h:=σ.h.set M (some (J.take B ++ (gG es).take (Nat.min es.length n*Z) ++ J.drop (B+Nat.min es.length n*Z))) }) (by grind [cO,Gp,Nat.eq_of_beq_eq_true]) A c2
      .cases h
     .cases h
    .rename_i I M B n Z j0 d1 m a' hT H hy;split at h
     .rename_i J d2 N d3;split at h
      .rename_i S;simp only[bH,EP] at S;obtain ⟨z1,z2,z3⟩:=S;have z3:=pI z3;subst z3;obtain ⟨c1,c2⟩:=iF h;simp only[bH,pJ] at c1;exact jG (p := .int .i64 ((Nat.min m n:Nat):Int)) (σ1 := { σ with h:=σ.h.set M (some (J.take B ++ (((d2.drop d1).take (m*a')).map PV.un).take (Nat.min m n*a') ++ J.drop (B+Nat.min m n*a'))) }) (by grind [Gp,cO,Nat.eq_of_beq_eq_true]) A c2
      .cases h
     .cases h
    .cases h
   .cases h
  .rename_i b';split at h
   .rename_i s x d9;split at h
    grind [iF,sQ,kL]
    grind [iF,sQ,kL]
    .rename_i n1 z1 J o2 z2 d' he H;unfold a7V at h;split at h
     .rename_i t u e0;split at h
      .rename_i I hT;split at h
       .rename_i U;simp only[bH,EN,EP,Nat.ble_eq] at U;obtain ⟨c1,c2,c3,c4,c5⟩:=U;obtain ⟨D,C⟩:=iF h;simp only[bH] at D;have c1:=pI c1;have c4:=pI c4;have c5:z2=I.size\/z2=0:=c5.imp (fun e=>pI e) fun e=>pI e
        subst c1; subst c4;exact jG (σ1:=σ.clr s) (by grind [cO]) (by grind [kL]) C
       .cases h
      .cases h
     .cases h
    grind [iF,sQ,kL]
    grind [iF,sQ,kL]
    .cases h
   .cases h
  grind [sQ,kL]
  .cases h
 grind [sQ,bZF]
def pU (P:Program) (C:oW):Prop:=∀ g args h r h',C g args h=some (r,h')->Ev P g args h r h'
theorem YL {M:Mem} {B:aS} {P:Program}:∀ {c:List TypeId} {a:ai} {b:List Value},au M B a b->au M B (qJ P c a) b
 | [],a,b,h=>by cases a<;>exact h
 | t::c,[],b,h=>h
 | t::c,p::a,b,h=>by obtain ⟨u,e,rfl,d,f⟩:=dO.1 h;exact dO.2 ⟨u,e,rfl,by unfold Xf; split<;>first | exact d | exact X7 _ d,YL f⟩
theorem Zt {M:Mem} {B:aS}:∀ {e d:ai} {c:List Value},au M B (e ++ d) c->∃ f g,c=f ++ g/\au M B e f/\au M B d g
 | [],d,c,h=>⟨[],c,rfl,fA.2 rfl,h⟩
 | p::e,d,c,h=>by obtain ⟨u,f,rfl,i,j⟩:=dO.1 h;obtain ⟨a,b,rfl,l,m⟩:=Zt j;exact ⟨u::a,b,rfl,dO.2 ⟨u,a,rfl,i,l⟩,m⟩
variable {d':CP} {b8:ai}
def uB.args {h:aH} {r:PV} {h':aH} (k:uB Z d' u b8 h r h') (d:∀ (M:Mem) (B:aS) (c:List Value),au M B f c->au M B b8 c):uB Z d' u f h r h' :=⟨k.1,fun b M B w a e i j l m=>k.2 b M B w a e i j l (d _ _ _ m)⟩
def Ev.args {h:aH} {r:PV} {h':aH} (k:Ev Z u b8 h r h') (b:∀ (M:Mem) (B:aS) (a:List Value),au M B f a->au M B b8 a):Ev Z u f h r h':=uB.args k b
def UB {P:Program}:∀ {e:List TypeId} {b:ai},PV.flats (qJ P e b)=PV.flats b
 | [],b=>by cases b<;>rfl
 | t::e,[]=>rfl
 | t::e,p::b=>by
  have f:∀ z (p:PV),(p.Fb z).flat=p.flat:=fun z p=>by
   cases p with
   | sl o s l =>
    rw[PV.Fb];split
    .unfold Hz; split<;>rfl
    .rfl
   | _=>rfl
  have g:∀ d (a:ai),PV.flats (X9 d a)=PV.flats a:=by
   intro d;induction d with
   | nil=>intro a; cases a<;>rfl
   | cons z d h =>
    intro a;cases a with
    | nil=>rfl
    | cons c a=>rw[X9,PV.flats,PV.flats,f,h]
  have i:(p.Ap (PZ P 8 t)).flat=p.flat:=by
   cases p with
   | agg a=>simp only[PV.Ap,PV.flat,g]
   | _=>simp only[PV.Ap,f]
  have j:(Xf (PZ P 8 t) p).flat=p.flat:=by unfold Xf; split<;>first | rfl | exact i
  rw[qJ,PV.flats,PV.flats,j,UB]
def vX:∀ {a b:ai},PV.flats (a ++ b)=(PV.flats a&&PV.flats b)
 | [],b=>by rfl
 | p::a,b=>by simp[vX,Bool.and_assoc]
theorem aJ8 (c:TR d') (m:uq X.W) (n:∀ u args h r h',X.C u args h=some (r,h')->uB X.E.P d' u args h r h') (a:∀ (M:Mem) (B:aS) (j:List Value),au M B b8 j->au M B f j) (h:AC X b2 u f b0 K σ=some v) :
 ∃ r h',uB X.E.P d' u b8 σ.h r (yx b0 σ.h h')/\jZ X.E b2 r { σ with h:=yx b0 σ.h h' } (fun d=>K d=some v):=by
 simp only[AC] at h;split at h
 .rename_i b;unfold BL at h;split at h
  .rename_i r h' o;have h:=Wl m h;simp only[aX',bH] at b;obtain ⟨k1,k2,k3,k4⟩:=b;have he:=(uB.sub c (n _ _ _ _ _ o) k1 (fun i l=>by
    simp_all) k3 (fun i p l e=>by
    have:=ja.1 k4 i l;rw[a9Q.2 e] at this; exact this)).args a
   grind [vC]
  .cases h
 .cases h
def aJ7 (d:uq X.W) (e:pU X.E.P X.C) (a:∀ (M:Mem) (B:aS) (c:List Value),au M B b8 c->au M B f c) (h:AC X b2 u f b0 K σ=some v) :
 ∃ r h',Ev X.E.P u b8 σ.h r (yx b0 σ.h h')/\jZ X.E b2 r { σ with h:=yx b0 σ.h h' } (fun b=>K b=some v):=aJ8 (a7H _) d e a h
theorem aJ9 (d:uq X.W) (e:pU X.E.P X.C) (a:∀ (M:Mem) (B:aS) (c:List Value),au M B b8 c->au M B f c) (h:AC X b2 u f b0 K σ=some v) :
 UJ X.E u b8 b2 (fun b=>K b=some v) σ:=by
 obtain ⟨r,h',i,j⟩:=aJ7 d e a h;exact ⟨r,_,i,j⟩
theorem bYF {H:aH} (h:aW7 b1.ln b0 H.length=true) (h':aH):Fe b1 (yx b0 H h') H:=by
 intro i f;have b:1000000+i∈b1.ln:=by simp_all
 have:=ja.1 h _ b;rw[show Nat.ble 1000000 (1000000+i)=true by rw[Nat.ble_eq]; omega,RY] at this;simp only[bH] at this;obtain ⟨g,a⟩:=this;have c:i<H.length:=by simp_all
 have d:i∉b0:=fun e=>by rw[Sz.2 e] at a; cases a
 grind [yx,OG,XF]
theorem b4C (m:uq X.W) (n:pU X.E.P X.C) {args:List Operand} (h:MS X true o I args K σ=some v) :
 ∃ g first a c,σ.rd I=some (.func (.func g) first a)/\kQ (args.map σ.rd)=some c/\a7F X.E g (first ++ c ++ a) o.dst (fun i=>K i=some v) σ:=by
 unfold MS at h;split at h
 .rename_i g first a c p q
  try simp only[uY,Xn] at h
  have b:∀ (M:Mem) (B:aS) (j:List Value),au M B (first ++ c ++ a) j->au M B (first ++ qJ X.E.P (uG X.E o) c ++ a) j:=fun M B j hv=>by grind [Zt,Fa,YL]
  split at h
  .rename_i e;unfold jk at h;split at h
   .rename_i r t;have h:=Wl m h;split at h
    .rename_i l;exact ⟨g,first,a,c,p,q,aI3 ((n _ _ _ _ _ t).args b) l (by rw[vX,vX,UB] at e; rw[vX,vX]; exact e) (vC h)⟩
    .cases h
   .cases h
  .split at h
   .rename_i d;rw[bH] at d;obtain ⟨r,h',u,w⟩:=aJ7 m n b h;exact ⟨g,first,a,c,p,q,.inr ⟨d.1,r,_,u,bYF d.2 h',w⟩⟩
   .cases h
 .cases h
def aVT (f:Nat->Nat):∀ {a:ai},a.all nT=true->lL f a=a
 | [],_=>by simp[lL]
 | p::a,h=>by rw[CO,bH] at h;have b:=h.1;unfold nT at b;rw[bH] at b;rw[lL,aVS f p b.2,aVT f h.2]
def bXR (f:Nat->Nat) {o:Option (ai)} (h:Nu o=true):nH f o=o:=by
 cases o with
 | none=>rfl
 | some a=>simp only[nH]; rw[aVT f h]
def a4M (f:Nat->Nat):∀ {h:aH},h.all Nu=true->h.map (nH f)=h
 | [],_=>rfl
 | o::h,e=>by rw[CO,bH] at e;rw[wM,bXR f e.1,a4M f e.2]
def aHG (D:Nat->Bool):∀ {a:ai},a.all nT=true->PV.oQ D a=true
 | [],_=>by rfl
 | p::a,h=>by rw[CO,bH] at h;have b:=h.1;unfold nT at b;rw[bH] at b;rw[PV.oQ,aHH p b.2,aHG D h.2]; rfl
def a_V (a:List Nat) (H:aH) {h':aH} (e:h'.all Nu=true):yx a H h'=aEF a H h':=by
 unfold yx aEF;have c:(h'.take a.length).all Nu=true:=ja.2 fun x b=>ja.1 e x (TD b)
 have d:(h'.drop a.length).all Nu=true:=ja.2 fun x b=>ja.1 e x (List.mem_of_mem_drop b)
 rw[a4M _ c,a4M _ d]
theorem aJA (n:uq X.W) (o:pU X.E.P X.C) (a:∀ (M:Mem) (B:aS) (e:List Value),au M B b8 e->au M B f e) (h:MV X b2 u f b0 K σ=some v):UJ X.E u b8 b2 (fun c=>K c=some v) σ:=by
 simp only[MV] at h;split at h
 .rename_i b;obtain ⟨j,h⟩:=iF h;unfold BL at h;split at h
  .rename_i r h' l;have h:=Wl n h;obtain ⟨p,h⟩:=iF h;simp only[bH] at b;obtain ⟨k1,k2,k3⟩:=b;rw[<- a4M (uy _) j] at l;have he:=(Ev.sub (o _ _ _ _ _ l) k1 (fun i m=>by
    simp_all) k3 (fun i q m d=>by
    have:=ja.1 j (rC σ.h i) (List.mem_map_of_mem m);rw[a9Q.2 d] at this;exact aHG _ this)).args a
   rw[a_V _ _ p] at he;exact ⟨_,_,he,vC h⟩
  .cases h
 .cases h
theorem b4B (x:uq X.W) (m:pU X.E.P X.C) {args:List Operand} (h:MS X false o I args K σ=some v) :
 ∃ g first a e,σ.rd I=some (.func (.func g) first a)/\kQ (args.map σ.rd)=some e/\UJ X.E g (first ++ e ++ a) o.dst (fun q=>K q=some v) σ:=by
 unfold MS at h;split at h
 .rename_i g first a e n p
  have b:∀ (M:Mem) (B:aS) (t:List Value),au M B (first ++ e ++ a) t->au M B (first ++ qJ X.E.P (uG X.E o) e ++ a) t:=fun M B t hv=>by grind [Zt,Fa,YL]
  split at h
  grind [aJA,aJ9]
  split at h
  .rename_i c;unfold jk at h;split at h
   .rename_i r l;have h:=Wl x h;split at h
    .unfold a7Z at h;split at h
     .obtain ⟨j,d⟩:=iF h;simp only[bH,pJ] at j;exact ⟨g,first,a,e,n,p,_,_,(Ev.thaw (m _ _ _ _ _ l) c j.1 j.2).args b,vC d⟩
     .rename_i A y _ _;by_cases i:0<y.length
      .rw[decide_eq_true i] at h;obtain ⟨j,d⟩:=iF h;exact ⟨g,first,a,e,n,p,_,_,(Ev.b'L (m _ _ _ _ _ l) c i j).args b,vC d⟩
      .have z:y = []:=qg (by omega);subst z;exact ⟨g,first,a,e,n,p,a7G ((m _ _ _ _ _ l).args b) rfl (by rw[vX,vX,UB] at c; rw[vX,vX]; exact c) (vC h)⟩
     .cases h
    .split at h
     .rename_i u;exact ⟨g,first,a,e,n,p,a7G ((m _ _ _ _ _ l).args b) u (by rw[vX,vX,UB] at c; rw[vX,vX]; exact c) (vC h)⟩
     .cases h
   .cases h
  .split at h
   simp_all
   .split at h
    .obtain ⟨j,d⟩:=iF h;unfold jk at d;split at d
     .rename_i r l;have d:=Wl x d;split at d
      .rename_i w;exact ⟨g,first,a,e,n,p,_,_,(Ev.bSG (m _ _ _ _ _ l) w j).args b,vC d⟩
      .cases d
     .cases d
    grind [aJA,aJ9]
 .cases h
theorem aJ6 (l:zV X.V) (m:pU X.E.P X.C) {args:List Operand} (h:Z4 X o I args K σ=some v) :
 ∃ g first a b r,σ.rd I=some (.func (.func g) first a)/\kQ (args.map σ.rd)=some b/\Ev X.E.P g (first ++ b ++ a) [] r []/\r.flat=true/\PV.flats (first ++ b ++ a)=true/\jZ X.E o.dst r σ (fun e=>K e=some v):=by
 unfold Z4 at h;split at h
 .rename_i p b n q;obtain ⟨g,first,a,rfl,h⟩:=b55 h;obtain ⟨d,h⟩:=iF h;have c:∀ (M:Mem) (B:aS) (i:List Value),au M B (first ++ b ++ a) i->au M B (first ++ qJ X.E.P (uG X.E o) b ++ a) i:=fun M B i hv=>by grind [Zt,Fa,YL]
  unfold jk at h;split at h
  .rename_i r t;have h:=Si l h;split at h
   .rename_i j;exact ⟨g,first,a,b,r,n,q,(m _ _ _ _ _ t).args c,j,by rw[vX,vX,UB] at d; rw[vX,vX]; exact d,vC h⟩
   .cases h
  .cases h
 .cases h
theorem aJ1 (d:zV X.V) (i:uq X.W) (j:pU X.E.P X.C) (h:JK X false o K σ=some v):xk X.E o (fun a=>K a=some v) σ:=by
 unfold JK at h;split at h
 grind [aJ6,a7G,b4B,xk]
 .rename_i c;rw[a_E c];simp_all
  .split at h
   .rename_i l e f;refine .inr ?_;unfold WV;rw[f];intro b m;obtain ⟨g,n⟩:=bT' h;cases b
    .exact vC g
    grind [vC]
   .exact .inl (aJC d c h)
theorem aJ2 (b:zV X.V) (c:uq X.W) (d:pU X.E.P X.C) (h:JK X true o K σ=some v):DI X.E o (fun a=>K a=some v) σ:=by grind [JK,DI,aJ6,aI3,b4C,aJC]
theorem aSS (h:cu b σ.s=some (.bool r)):σ.lit b r=σ:=by unfold ASt.lit; rw[aEG h]
theorem UU (e:zV X.V) (f:uq X.W) (g:pU X.E.P X.C):∀ (l:List Oper) {K:ASt->R} {σ:ASt},kS X false ops l K σ=some v->mV X.E ops l (fun a=>K a=some v) σ
 | [],K,σ,h=>h
 | o::l,K,σ,h=>by
  have m:∀ σ,kS X false ops l K σ=some v->mV X.E ops l (fun a=>K a=some v) σ:=fun σ h=>UU e f g l h
  rw[kS] at h;rw[mV];split at h
  grind [YR,aJ1]
  .rename_i j c n;simp only[BU];split at h
   grind [yM,vC]
   .rename_i d p;split at h
    .rename_i b q;have i:JL X false o d c b (kS X false ops l K) σ=some v:=by
      cases b
      .exact h
      .exact h
     grind [JL,aSS,YR,aJ1,yM,vC]
    grind [yM,vC]
    .cases h
theorem a7Y (e:zV X.V) (f:uq X.W) (g:pU X.E.P X.C):∀ (l:List Oper) {K:ASt->R} {σ:ASt},kS X true ops l K σ=some v->uF X.E ops l (fun a=>K a=some v) σ
 | [],K,σ,h=>h
 | o::l,K,σ,h=>by
  have m:∀ σ,kS X true ops l K σ=some v->uF X.E ops l (fun a=>K a=some v) σ:=fun σ h=>a7Y e f g l h
  rw[kS] at h;rw[uF];split at h
  grind [YQ,aJ2]
  .rename_i j c n;simp only[BU];split at h
   grind [yM,vC]
   .rename_i d p;split at h
    .rename_i b q;have i:JL X true o d c b (kS X true ops l K) σ=some v:=by
      cases b
      .exact h
      .exact h
     grind [JL,aSS,YQ,aJ2,yM,vC]
    grind [yM,vC]
    .cases h
def Jh (X:XE):Prop:=∀ l m x (K:AX->ASt->R) σ v,X.L l m x K (σ.gc l m)=some v->aS' X.m0 (eu X.E X.m0 x) (fun e a=>K e a=some v) σ
def aJD (g:zV X.V) (j:uq X.W) (m:pU X.E.P X.C) {K:ASt->R}:∀ (fuel:Nat) {L:Array Bool} {σ:ASt},Gt X ops K fuel L σ=some v->LY X.E ops (fun b=>K b=some v) fuel L σ
 | 0,L,σ,h=>by
  unfold Gt at h;split at h
  .rename_i c; exact ⟨c,h⟩
  .cases h
 | fuel+1,L,σ,h=>by
  unfold Gt at h;split at h
  .rename_i c; exact ⟨fun _=>h,fun i d=>by rw[c] at d; simp[JM] at d⟩
  .rename_i a l c;refine ⟨fun e=>(by rw[c] at e; cases e),fun i d => ?_⟩;rw[c] at d;have f:=aHE h _ (zh.2 ⟨i,d,rfl⟩);cases n:ops[i]? with
   | none=>rw[n] at f; cases f
   | some o =>rw[n] at f;obtain ⟨b,p,q⟩:=a_F (a7Y g j m [o] f);exact ⟨o,rfl,b,p,aJD g j m fuel q⟩
def qN {k:ASt->R}:∀ (z:List Nat) {σ:ASt} {v:PV×aH},oC k z σ=some v->∃ a,k (zA a σ)=some v
 | [],σ,v,h=>⟨[],h⟩
 | d::b,σ,v,h=>by
  unfold oC at h;split at h
  .rename_i g;split at h
   .rename_i i j;split at h
    .rename_i p o;obtain ⟨r,t⟩:=iF h;obtain ⟨a,c⟩:=qN b t;refine ⟨d::a,?_⟩;have:xy d σ=⟨iy (d-9000000) (.cst ((mX p.length p 1).headD .nilp)) σ.s,σ.h.set i none⟩:=by simp only[xy,g,ZK,j,o,r]
     rw[zA,this]; exact c
    .exact qN b h
   .exact qN b h
  rename_i e;split at h
  .rename_i g;split at h
   .rename_i A j;split at h
    .rename_i u o;split at h
     .rename_i i n q x;split at h
      .rename_i w B;obtain ⟨r,t⟩:=iF h;obtain ⟨a,c⟩:=qN b t;refine ⟨d::a,?_⟩;have:xy d σ=⟨σ.s,(σ.h.set i none).set A (some (u.set ((d-5000000) % 100) (.sl false q (mX q w n))))⟩:=by simp only[xy,e,g,ZI,j,o,x,B,r]
       rw[zA,this]; exact c
      .exact qN b h
     .exact qN b h
    .exact qN b h
   .exact qN b h
  rename_i f;split at h
  .rename_i g;split at h
   .rename_i i j;split at h
    .rename_i u o;split at h
     .rename_i n q w x;cases l:Nat.ble 1 n with
      | true =>rw[l] at h;obtain ⟨a,c⟩:=qN b h;refine ⟨d::a,?_⟩;rw[zA];simp only[xy,e,f,g,XQ,j,o,x,l];exact c
      | false =>rw[l] at h;obtain ⟨a,c⟩:=qN b h;refine ⟨d::a,?_⟩;rw[zA];simp only[xy,e,f,g,XQ,j,o,x,l];exact c
     .exact qN b h
    .exact qN b h
   .exact qN b h
  rename_i m;split at h
  .rename_i g;split at h
   .rename_i n q w j;split at h
    .obtain ⟨l,h⟩:=iF h;obtain ⟨a,c⟩:=qN b h;refine ⟨d::a,?_⟩;rw[zA];simp only[xy,e,f,m,g,SI,j,l];exact c
    cases l:Nat.ble 1 n with
    | true =>rw[l] at h;obtain ⟨a,c⟩:=qN b h;refine ⟨d::a,?_⟩;rw[zA];simp only[xy,e,f,m,g,SI,j,l];exact c
    | false =>rw[l] at h;obtain ⟨a,c⟩:=qN b h;refine ⟨d::a,?_⟩;rw[zA];simp only[xy,e,f,m,g,SI,j,l];exact c
   .exact qN b h
  rename_i y;split at h
  .rename_i g;split at h
   .rename_i i n q j;split at h
    .rename_i w o;obtain ⟨r,t⟩:=iF h;obtain ⟨a,c⟩:=qN b t;refine ⟨d::a,?_⟩;have:xy d σ=⟨iy (d-1000000) (.sl false q (mX q w n)) σ.s,σ.h.set i none⟩:=by simp only[xy,e,f,m,y,g,ZL,j,o,r]
     rw[zA,this]; exact c
    .exact qN b h
   .exact qN b h
  .obtain ⟨a,c⟩:=qN b h;exact ⟨d::a,c⟩
theorem wZ (d:zV X.V) (f:uq X.W) (g:pU X.E.P X.C) (j:Jh X):∀ (c:Code) {K:AX->ASt->R} {σ:ASt},bC X c K σ=some v->eu X.E X.m0 c (fun e a=>K e a=some v) σ
 | .skip,K,σ,h=>h
 | .label _,K,σ,h=>h
 | .exit _,K,σ,h=>h
 | .ret,K,σ,h=>h
 | .region _ ops o,K,σ,h=>by
  simp only[bC] at h;rw[eu];cases o with
  | false=>grind [UU]
  | true =>
   cases n:C_ X.E ops with
   | true =>simp only[n] at h;exact .inl ⟨n,a7Y d f g _ h⟩
   | false =>simp only[n] at h;exact .inr (aJD d f g _ h)
 | .seq x y,K,σ,h=>by
  refine yw x (fun e a he => ?_) (wZ d f g j x h);cases e with
  | normal =>
   have t:∀ a,FD X.E X.m0 y (bC X y K) a=some v->eu X.E X.m0 y (fun e σ=>K e σ=some v) a\/∃ l m,X.m0<=m/\F7 l m a=true/\eu X.E X.m0 y (fun e σ=>K e σ=some v) (a.gc l m):=fun a he=>by
    unfold FD at he;cases u:X.E.jt.lookup (E5 y) with
    | none=>rw[u] at he; exact .inl (wZ d f g j y he)
    | some l =>
     rw[u] at he;obtain ⟨p,he⟩:=iF he;split at he
     .rename_i q;simp only[bH,pJ] at q;exact .inr ⟨l,_,q.1,a9N p q.2,wZ d f g j y he⟩
     .cases he
   unfold wu at he;split at he
   .obtain ⟨w,he⟩:=qN _ he;exact ⟨w,t _ he⟩
   .exact ⟨[],t _ he⟩
  | ret=>exact he
  | exit i=>exact he
 | .cond c x y,K,σ,h=>by
  simp only[bC] at h;rw[eu];split at h
  .rename_i b r;simp only[r];split at h
   .cases b with
    | true =>rw[a4L r] at h;exact ⟨fun _=>wZ d f g j x h,fun e=>by cases e⟩
    | false =>rw[a4L r] at h;exact ⟨fun e=>(by cases e),fun _=>wZ d f g j y h⟩
   .cases b with
    | true=>exact ⟨fun _=>wZ d f g j x h,fun e=>by cases e⟩
    | false=>exact ⟨fun e=>(by cases e),fun _=>wZ d f g j y h⟩
  .cases h
 | .block id x,K,σ,h=>by
  refine yw x (fun e a he => ?_) (wZ d f g j x h);cases e with
  | normal=>exact he
  | ret=>exact he
  | exit i =>
   simp only[aW] at he;simp only[PX];split at he
   .rename_i e; rw[ah e]; exact he
   .rename_i e; rw[aV e]; exact he
 | .scope x,K,σ,h=>by exact wZ d f g j x h
 | .loop x,K,σ,h=>by exact j _ _ _ _ _ _ h
 | .rangeFunc _ _ _ _,K,σ,h=>by simp[bC] at h
 | .goto _,K,σ,h=>by simp[bC] at h
 | .refuse _,K,σ,h=>by simp[bC] at h
end
structure xY where
 vars:List Nat
 mv:List Nat
 mu:List Nat
 sz:List (Nat×List Nat)
 jt:List (Nat×List Nat)
 lt:List (Nat×List Nat)
 pt:List (Nat×List Nat)
 fz:List Nat
 ro:List (List Nat×Bool)
 ft:List (Nat×List Nat) := []
 sy:List Nat := []
 ln:List Nat := []
 df:Bool:=false
abbrev yf:=AE->Nat->List Nat->Nat->Code->(AX->ASt->R)->ASt->R
structure SE where
 P:Program
 iq:FuncId->xY
 V:TypeId->PV->(PV->R)->R
 W:FuncId->aH->PV->aH->(PV->aH->R)->R
 C0:oW
def SE.ae (S:SE) (g:FuncId) (n:Nat):AE:=⟨S.P,n,(S.iq g).vars,(S.iq g).mv,(S.iq g).mu,(S.iq g).sz,(S.iq g).jt,(S.iq g).lt,(S.iq g).pt,(S.iq g).fz,(S.iq g).ft,(S.iq g).sy,(S.iq g).ln⟩
def SE.xe (S:SE) (C:oW) (L:yf) (E:AE) (a:Nat):XE:=⟨E,C,S.V,S.W,L E a,a⟩
def OM:PV->Nat
 | .ptr i _=>i+1
 | .tuple a=>PV.IW a
 | _=>0
def aW5 (P:Program) (rs:List ResultVar) (a:ASt):Option PV:=match rs with
 | [x]=>resV P a x
 | rs=>(kQ (rs.map (resV P a))).map fun b=>PV.tuple (b.map PV.un)
def aXE:PV->List Nat
 | .tuple a=>Ey a
 | _ => []
def IK (P:Program) (d:List ResultVar) (e:List (List Nat×Bool)) (a:Nat) (c:List Nat) (b:ASt):R:=match aW5 P d b with
 | some r=>b_ (qZ (b.h.take (Nat.max a (OM r))) (xg c (aXE r))) (match decide (Nat.max a (OM r)<=b.h.length)&&(r.blw (Nat.max a (OM r))&&BK (Nat.max a (OM r)) (KP (xg c (aXE r)) 0 (b.h.take (Nat.max a (OM r))))) with
  | true=>some (xx e r,b.h.take (Nat.max a (OM r)))
  | false=>none)
 | none=>none
def IJ (P:Program) (b:List ResultVar) (c:List (List Nat×Bool)) (d:Nat) (e:List Nat):AX->ASt->R
 | .normal,a=>IK P b c d e a
 | .ret,a=>IK P b c d e a
 | .exit _,_=>none
def bPQ (o:Oper):Bool:=match o.op with | .defer _=>true | _=>false
def FB:Code->Bool
 | .region _ b a => !a&&b.toList.any bPQ
 | .seq x y=>FB x||FB y
 | .cond _ x y=>FB x||FB y
 | .block _ x=>FB x
 | _=>false
def a5A:List Oper->Option (List Oper×Oper×Call×List Oper)
 | []=>none
 | o::l=>match o.op with
  | .defer c=>some ([],o,c,l)
  | _=>(match a5A l with | some (a,d,c,b)=>some (o::a,d,c,b) | none=>none)
abbrev PK:=Nat->FuncId->ai->AX->ASt->R
def Yp (e:Nat) (o:Oper) (c:Call) (K:Nat->FuncId->ai->ASt->R) (d:ASt):R:=match o.guard,o.dst,c.callee with
 | none,none,.value f=>(match d.rd f,kQ (c.args.toList.map d.rd) with
  | some (.func (.func g) first a),some b=>(match PV.blws (Nat.max e (PV.IW (first ++ b ++ a))) (first ++ b ++ a) with
   | true=>K (Nat.max e (PV.IW (first ++ b ++ a))) g (first ++ b ++ a) d
   | false=>none)
  | _,_=>none)
 | _,_,_=>none
def SE.uh (S:SE) (C:oW) (L:yf) (E:AE) (a:Nat):Code->(AX->ASt->R)->PK->ASt->R
 | .seq x y,f,h,e=>(match FB x with
  | true=>S.uh C L E a x (xM (wu E a y (bC (S.xe C L E a) y f)) f) (fun m g j=>xM (wu E m y (bC (S.xe C L E m) y (h m g j))) (h m g j)) e
  | false=>bC (S.xe C L E a) x (xM (S.uh C L E a y f h) f) e)
 | .cond c x y,f,h,e=>(match e.rd c with
  | some (.bool b)=>(match c with
   | .tmp d=>aB b (match FB x with | true=>S.uh C L E a x f h (e.lit d true) | false=>bC (S.xe C L E a) x f (e.lit d true)) (match FB y with | true=>S.uh C L E a y f h (e.lit d false) | false=>bC (S.xe C L E a) y f (e.lit d false))
   | _=>none)
  | _=>none)
 | .block id x,f,h,e=>S.uh C L E a x (aW id f) (fun m g j=>aW id (h m g j)) e
 | .region _ i l,_,h,e=>(match l with
  | true=>none
  | false=>(match a5A i.toList with
   | some (pre,o,c,post)=>kS (S.xe C L E a) false i pre (Yp a o c fun m g j=>kS (S.xe C L E a) false i post (h m g j .normal)) (e.head E)
   | none=>none))
 | _,_,_,_=>none
def SE.CD (S:SE) (C:oW):oW:=fun g args h=>match S.C0 g args h with
 | some _=>none
 | none=>(match (S.iq g).df with | true=>none | false=>C g args h)
def SE.XA (S:SE) (C:oW) (L:yf) (E:AE) (d:List ResultVar) (f:List (List Nat×Bool)) (a:Nat) (i:List Nat):PK:=fun _ g b e c=>match e with
 | .exit _=>none
 | _=>AC (S.xe (S.CD C) L E a) none g b (JH c.h 3 (xg [] (PV.y7 b))) (IK S.P d f a i) c
def SE.run (S:SE) (C:oW) (L:yf) (g:FuncId) (args:ai) (h:aH):R:=match S.P.funcs[g]? with
 | some a=>(match a.body with
  | some c=>(match decide (args.length<=a.ntmps)&&(a.name != "runtime.NumGoroutine") with
   | true=>(match (S.iq g).df with
    | false=>bC (S.xe C L (S.ae g a.ntmps) h.length) c (IJ S.P a.results.toList (S.iq g).ro h.length (Ey args)) ⟨nJ 0 args,h⟩
    | true=>S.uh C L (S.ae g a.ntmps) h.length c (IJ S.P a.results.toList (S.iq g).ro h.length (Ey args)) (S.XA C L (S.ae g a.ntmps) a.results.toList (S.iq g).ro h.length (Ey args)) ⟨nJ 0 args,h⟩)
   | false=>none)
  | none=>none)
 | none=>none
def SE.wp (S:SE) (E:AE):AE := { E with P:=S.P }
def SE.turn (S:SE) (C:oW) (L:yf):yf:=fun E a l m x K b =>
 b_ (I9 l m b) (match decide (a<=m)&&F8 l m b with
 | true=>bC (S.xe C L (S.wp E) a) x (xM (fun c=>L E a l m x K (c.gc l m)) K) (b.gc l m)
 | false=>none)
def I5 (a b:R):R:=match a with | some x=>some x | none=>b
def SE.bD (S:SE):Nat->oW×yf
 | 0=>(S.C0,fun _ _ _ _ _ _ _=>none)
 | n+1=>(fun g args h=>I5 (S.C0 g args h) (S.run (S.bD n).1 (S.bD n).2 g args h),S.turn (S.bD n).1 (S.bD n).2)
open Classical in
def lim (f:Nat->R):R:=if h:∃ n v,f n=some v then some (Classical.choose (Classical.choose_spec h)) else none
def SE.CC (S:SE):oW:=fun g args h=>lim fun n=>(S.bD n).1 g args h
def SE.LL (S:SE):yf:=fun E a l m x K b=>lim fun n=>(S.bD n).2 E a l m x K b
structure SE.OK (S:SE):Prop where
 V:zV S.V
 W:uq S.W
section
variable {S:SE}
theorem a9O (l:List Nat) (m:Nat) (σ:ASt):(σ.gc l m).gc l m=σ.gc l m:=by grind [ASt.gc,List.filter_filter]
def bO3 (l:List Nat) (m:Nat) (σ:ASt):F8 l m (σ.gc l m)=F8 l m σ:=by unfold F8; rw[a9O]
def bX3 (l:List Nat) (m:Nat) (σ:ASt):I9 l m (σ.gc l m)=I9 l m σ:=by unfold I9; rw[a9O]
def b'Z (C:oW) (L:yf) (E:AE) (m0:Nat) (l:List Nat) (m:Nat) (x:Code) (K:AX->ASt->R) (σ:ASt):S.turn C L E m0 l m x K (σ.gc l m)=S.turn C L E m0 l m x K σ:=by unfold SE.turn; rw[bO3,bX3,a9O]
variable {ι:Type} {Good:(ι->R)->Prop} (F:La Good) (hS:S.OK) {C:ι->oW} {L:ι->yf} (hC:∀ g args h,Good fun i=>C i g args h)
 (hL:∀ (E:AE) (m0:Nat) (l:List Nat) (m:Nat) (x:Code) (K:ι->AX->ASt->R) (σ:ASt),(∀ e σ,Good fun i=>K i e σ)->Good fun i=>L i E m0 l m x (K i) σ)
include F hS hC hL in
theorem NE {E:AE} {m0:Nat} (c:Code) {K:ι->AX->ASt->R} {σ:ASt} (h:∀ e σ,Good fun i=>K i e σ):Good fun i=>bC (S.xe (C i) (L i) E m0) c (K i) σ :=F9 F (X:=S.xe (fun _ _ _=>none) (fun _ _ _ _ _ _ _=>none) E m0) (C:=C) (L:=fun i=>L i E m0) hS.V hS.W hC (fun l m x K σ h=>hL E m0 l m x K σ h) c h
include F hS hC hL in
theorem aPM {E:AE} {m0:Nat} {a:Array Oper} (l:List Oper) {K:ι->ASt->R} {σ:ASt} (h:∀ σ,Good fun i=>K i σ):Good fun i=>kS (S.xe (C i) (L i) E m0) false a l (K i) σ :=Va F (X:=S.xe (fun _ _ _=>none) (fun _ _ _ _ _ _ _=>none) E m0) (C:=C) (L:=fun i=>L i E m0) hS.V hS.W hC l h
include F hS hC hL in
theorem aPJ {E:AE} {m0:Nat} {y:Code} {K:ι->AX->ASt->R} {σ:ASt} (h:∀ e σ,Good fun i=>K i e σ):Good fun i=>wu E m0 y (bC (S.xe (C i) (L i) E m0) y (K i)) σ:=by
 have a:∀ σ,Good fun i=>FD E m0 y (bC (S.xe (C i) (L i) E m0) y (K i)) σ:=fun σ=>by
  unfold FD;split
  .refine iP F ?_;split
   .exact NE F hS hC hL y h
   .exact F.no
  .exact NE F hS hC hL y h
 unfold wu;split
 .exact qO F a _
 .exact a _
include F in
theorem bOA {m0:Nat} {o:Oper} {c:Call} {K:ι->Nat->FuncId->ai->ASt->R} {σ:ASt} (h:∀ m g a σ,Good fun i=>K i m g a σ):Good fun i=>Yp m0 o c (K i) σ:=by
 unfold Yp;split
 .split
  .split
   .exact h _ _ _ _
   .exact F.no
  .exact F.no
 .exact F.no
include F hS hC hL in
theorem Qe {E:AE} {m0:Nat}:∀ (c:Code) {a:ι->AX->ASt->R} {b:ι->PK} {σ:ASt},(∀ e σ,Good fun i=>a i e σ)->(∀ m g d e σ,Good fun i=>b i m g d e σ)->Good fun i=>S.uh (C i) (L i) E m0 c (a i) (b i) σ
 | .seq x y,a,b,σ,h,h'=>by
  simp only[SE.uh];split
  .exact Qe x (fun e σ=>Vb (fun σ=>aPJ F hS hC hL h) h e σ) (fun m g d e σ=>Vb (fun σ=>aPJ F hS hC hL (h' m g d)) (h' m g d) e σ)
  .exact NE F hS hC hL x fun e σ=>Vb (fun σ=>Qe y h h') h e σ
 | .cond c x y,a,b,σ,h,h'=>by
  simp only[SE.uh];split
  .split
   .refine BQ F ?_ ?_
    .split
     .exact Qe x h h'
     .exact NE F hS hC hL x h
    .split
     .exact Qe y h h'
     .exact NE F hS hC hL y h
   .exact F.no
  .exact F.no
 | .block id x,a,b,σ,h,h'=>by simp only[SE.uh];exact Qe x (fun e σ=>a9R h e σ) (fun m g d e σ=>a9R (h' m g d) e σ)
 | .region _ j f,a,b,σ,h,h'=>by
  simp only[SE.uh];split
  .exact F.no
  .split
   .exact aPM F hS hC hL _ fun σ=>bOA F fun m g d σ=>aPM F hS hC hL _ fun σ=>h' m g d .normal σ
   .exact F.no
 | .skip,a,b,σ,h,h'=>F.no
 | .label _,a,b,σ,h,h'=>F.no
 | .exit _,a,b,σ,h,h'=>F.no
 | .ret,a,b,σ,h,h'=>F.no
 | .scope _,a,b,σ,h,h'=>F.no
 | .loop _,a,b,σ,h,h'=>F.no
 | .rangeFunc _ _ _ _,a,b,σ,h,h'=>F.no
 | .goto _,a,b,σ,h,h'=>F.no
 | .refuse _,a,b,σ,h,h'=>F.no
include F hS hC in
theorem bOK {E:AE} {c:List ResultVar} {d:List (List Nat×Bool)} {m0:Nat} {f:List Nat} (m:Nat) (g:FuncId) (a:ai) (e:AX) (σ:ASt):Good fun i=>S.XA (C i) (L i) E c d m0 f m g a e σ:=by
 have b:∀ g args h,Good fun i=>S.CD (C i) g args h:=fun g args h=>by
  unfold SE.CD;split
  .exact F.no
  .split
   .exact F.no
   .exact hC _ _ _
 have j:Good fun i=>AC (S.xe (S.CD (C i)) (L i) E m0) none g a (JH σ.h 3 (xg [] (PV.y7 a))) (IK S.P c d m0 f) σ:=by
  simp only[AC];split
  .exact a1Z F b fun r h'=>Qd (X:=S.xe (fun _ _ _=>none) (fun _ _ _ _ _ _ _=>none) E m0) F hS.W fun p q=>iG F fun σ=>F.const _
  .exact F.no
 unfold SE.XA;cases e
 .exact j
 .exact j
 .exact F.no
include F hS hC hL in
theorem a9U {g:FuncId} {args:ai} {h:aH}:Good fun i=>S.run (C i) (L i) g args h:=by
 unfold SE.run;split
 .split
  .split
   .split
    .exact NE F hS hC hL _ fun e σ=>F.const _
    .exact Qe F hS hC hL _ (fun e σ=>F.const _) fun m g a e σ=>bOK F hS hC m g a e σ
   .exact F.no
  .exact F.no
 .exact F.no
include F hS hC hL in
theorem Oc {E:AE} {m0:Nat} {l:List Nat} {m:Nat} {x:Code} {K:ι->AX->ASt->R} {σ:ASt} (h:∀ e σ,Good fun i=>K i e σ):Good fun i=>S.turn (C i) (L i) E m0 l m x (K i) σ:=by
 unfold SE.turn;refine iP F ?_;split
 .exact NE F hS hC hL _ fun e σ=>Vb (fun σ=>hL _ _ _ _ _ _ _ h) h e σ
 .exact F.no
include F in
theorem a9T {a:R} {f:ι->R} (h:Good f):Good fun i=>I5 a (f i):=by
 cases a
 .exact h
 .exact F.const _
theorem a9V (F:La Good) (hS:S.OK):∀ (n:Nat) (E:AE) (m0:Nat) (l:List Nat) (m:Nat) (x:Code) (K:ι->AX->ASt->R) (σ:ASt),(∀ e σ,Good fun i=>K i e σ)->Good fun i=>(S.bD n).2 E m0 l m x (K i) σ
 | 0,_,_,_,_,_,_,_,_=>F.no
 | n+1,_,_,_,_,_,_,_,h=>Oc F hS (C:=fun _=>(S.bD n).1) (fun _ _ _=>F.const _) (a9V F hS n) h
def ER (F:Bool->R):Prop:=∀ v,F false=some v->F true=some v
theorem Md:La ER:=⟨fun _ _ h=>h,fun c k b hk v h=>by
 have h:(match c false with | some (r,h)=>k false r h | none=>none)=some v:=h;show (match c true with | some (r,h)=>k true r h | none=>none)=some v;cases a:c false with
 | none=>rw[a] at h; cases h
 | some x =>obtain ⟨r,d⟩:=x;rw[a] at h;rw[b _ a];exact hk r d v h⟩
theorem IM (hS:S.OK):∀ n,(∀ g args h v,(S.bD n).1 g args h=some v->(S.bD (n+1)).1 g args h=some v) /\
 (∀ E m0 l m x (K a:AX->ASt->R) σ v,(∀ e σ v,K e σ=some v->a e σ=some v)->(S.bD n).2 E m0 l m x K σ=some v->(S.bD (n+1)).2 E m0 l m x a σ=some v)
 | 0=>⟨fun g args h v hv=>by show I5 (S.C0 g args h) _=some v; rw[show S.C0 g args h=some v from hv]; rfl,fun _ _ _ _ _ _ _ _ _ _ h=>by cases h⟩
 | n+1=>by
  obtain ⟨b,c⟩:=IM hS n;have hC:∀ g args h,ER fun i=>(bif i then (S.bD (n+1)).1 else (S.bD n).1) g args h:=fun g args h v hv=>b g args h v hv
  have hL:∀ (E:AE) (m0:Nat) (l:List Nat) (m:Nat) (x:Code) (K:Bool->AX->ASt->R) (σ:ASt),(∀ e σ,ER fun i=>K i e σ)->ER fun i=>(bif i then (S.bD (n+1)).2 else (S.bD n).2) E m0 l m x (K i) σ :=fun E m0 l m x K σ d v hv=>c E m0 l m x _ _ σ v (fun e σ v h=>d e σ v h) hv
  refine ⟨fun g args h v hv => ?_,fun E m0 l m x K a σ v d hv => ?_⟩
  .exact a9T Md (a9U Md hS hC hL) v hv
  .exact Oc Md hS hC hL (K:=fun i=>bif i then a else K) (fun e σ v h=>d e σ v h) v hv
theorem bSZ (hS:S.OK) {E:AE} {m0:Nat} {l:List Nat} {m:Nat} {x:Code} {K:AX->ASt->R} {σ:ASt} {n k:Nat} (hk:n<=k) (hv:(S.bD n).2 E m0 l m x K σ=some G):(S.bD k).2 E m0 l m x K σ=some G:=by
 induction hk with
 | refl=>exact hv
 | step _ a=>exact (IM hS _).2 _ _ _ _ _ _ _ _ _ (fun _ _ _ h=>h) a
theorem aT1 (hS:S.OK) (n:Nat) {E:AE} {m0:Nat} {l:List Nat} {m:Nat} {x:Code} {K a:AX->ASt->R} {σ:ASt} (b:∀ e σ G,K e σ=some G->a e σ=some G) (hv:(S.bD n).2 E m0 l m x K σ=some G):(S.bD n).2 E m0 l m x a σ=some G :=a9V Md hS n E m0 l m x (fun i=>bif i then a else K) σ (fun e σ G h=>b e σ G h) G hv
theorem aBA {f:Nat->R} (c:∀ n G,f n=some G->f (n+1)=some G):lim f=some G↔∃ n,f n=some G:=by
 have a:∀ {n k:Nat} {G:PV×aH},n<=k->f n=some G->f k=some G:=fun hk hv=>by
  induction hk with
  | refl=>exact hv
  | step _ d=>grind
 unfold lim;constructor
 .intro h;split at h
  grind
  .cases h
 .intro ⟨n,b⟩;have e:∃ n G,f n=some G:=⟨n,G,b⟩;grind
structure P5 (F:Option Nat->R):Prop where
 mono:∀ n v,F (some n)=some v->F (some (n+1))=some v
 lim:∀ v,F none=some v↔∃ n,F (some n)=some v
theorem P5.le {F:Option Nat->R} (h:P5 F) {n k:Nat} (hk:n<=k) (hv:F (some n)=some G):F (some k)=some G:=by
 induction hk with
 | refl=>exact hv
 | step _ a=>exact h.mono _ _ a
theorem Q3:La P5:=⟨fun c=>⟨fun _ _ h=>h,fun v=>⟨fun h=>⟨0,h⟩,fun ⟨_,h⟩=>h⟩⟩,fun c k d hk=>by
 refine ⟨fun n v h => ?_,fun v=>⟨fun h => ?_,fun ⟨n,h⟩ => ?_⟩⟩
 .cases a:c (some n) with
  | none=>rw[a] at h; cases h
  | some x =>obtain ⟨r,b⟩:=x;rw[a] at h;rw[d.mono _ _ a];exact (hk r b).mono _ _ h
 .cases a:c none with
  | none=>rw[a] at h; cases h
  | some x =>obtain ⟨r,b⟩:=x;rw[a] at h;obtain ⟨e,g⟩:=(d.lim _).1 a;obtain ⟨f,i⟩:=((hk r b).lim v).1 h;refine ⟨max e f,?_⟩;rw[d.le (Nat.le_max_left e f) g];exact (hk r b).le (Nat.le_max_right e f) i
 .cases a:c (some n) with
  | none=>rw[a] at h; cases h
  | some x =>obtain ⟨r,b⟩:=x;rw[a] at h;rw[(d.lim _).2 ⟨n,a⟩];exact ((hk r b).lim v).2 ⟨n,h⟩⟩
def SE.b1C (S:SE):Option Nat->oW | none=>S.CC | some n=>(S.bD n).1
def SE.bS' (S:SE):Option Nat->yf | none=>S.LL | some n=>(S.bD n).2
theorem UK (hS:S.OK) (g:FuncId) (args:ai) (h:aH):P5 fun i=>S.b1C i g args h :=⟨fun n v hv=>(IM hS n).1 g args h v hv,fun _=>aBA fun n v hv=>(IM hS n).1 g args h v hv⟩
theorem aBG (hS:S.OK) (E:AE) (m0:Nat) (l:List Nat) (m:Nat) (x:Code) (K:Option Nat->AX->ASt->R) (σ:ASt) (a:∀ e σ,P5 fun i=>K i e σ):P5 fun i=>S.bS' i E m0 l m x (K i) σ:=by
 have b:∀ v,S.LL E m0 l m x (K none) σ=some v↔∃ n,(S.bD n).2 E m0 l m x (K none) σ=some v:=fun v=>aBA fun n v hv=>(IM hS n).2 _ _ _ _ _ _ _ _ _ (fun _ _ _ h=>h) hv
 refine ⟨fun n v hv=>(IM hS n).2 _ _ _ _ _ _ _ _ _ (fun e σ v h=>(a e σ).mono n v h) hv,fun v=>⟨fun h => ?_,fun ⟨n,h⟩ => ?_⟩⟩
 .obtain ⟨n,c⟩:=(b v).1 h;obtain ⟨k,hk⟩:=((a9V Q3 hS n E m0 l m x K σ a).lim v).1 c;refine ⟨max n k,?_⟩;exact bSZ hS (Nat.le_max_left n k) (aT1 hS n (fun e σ v h=>(a e σ).le (Nat.le_max_right n k) h) hk)
 .exact (b v).2 ⟨n,aT1 hS n (fun e σ v h=>((a e σ).lim v).2 ⟨n,h⟩) h⟩
theorem LZ (hS:S.OK) (g:FuncId) (args:ai) (h:aH):S.CC g args h=I5 (S.C0 g args h) (S.run S.CC S.LL g args h):=by
 have c:=a9T Q3 (a:=S.C0 g args h) (a9U Q3 hS (UK hS) (aBG hS) (g:=g) (args:=args) (h:=h));refine Option.ext fun v => ?_
 have d:S.CC g args h=some v↔∃ n,(S.bD n).1 g args h=some v:=(UK hS g args h).lim v;have e:I5 (S.C0 g args h) (S.run S.CC S.LL g args h)=some v↔∃ n,(S.bD (n+1)).1 g args h=some v:=c.lim v;rw[d,e];exact ⟨fun ⟨n,b⟩=>⟨n,(IM hS n).1 _ _ _ _ b⟩,fun ⟨n,b⟩=>⟨n+1,b⟩⟩
theorem aH0 (hS:S.OK) (E:AE) (m0:Nat) (l:List Nat) (m:Nat) (x:Code) (K:AX->ASt->R) (σ:ASt):S.LL E m0 l m x K σ=S.turn S.CC S.LL E m0 l m x K σ:=by
 have b:=Oc Q3 hS (UK hS) (aBG hS) (E:=E) (m0:=m0) (l:=l) (m:=m) (x:=x) (K:=fun _=>K) (σ:=σ) fun e σ=>Q3.const _
 refine Option.ext fun v => ?_
 have c:S.LL E m0 l m x K σ=some v↔∃ n,(S.bD n).2 E m0 l m x K σ=some v:=(aBG hS E m0 l m x (fun _=>K) σ fun e σ=>Q3.const _).lim v;have d:S.turn S.CC S.LL E m0 l m x K σ=some v↔∃ n,(S.bD (n+1)).2 E m0 l m x K σ=some v:=b.lim v;rw[c,d];exact ⟨fun ⟨n,a⟩=>⟨n,(IM hS n).2 _ _ _ _ _ _ _ _ _ (fun _ _ _ h=>h) a⟩,fun ⟨n,a⟩=>⟨n+1,a⟩⟩
theorem Ea (hS:S.OK) {E:AE} {m0:Nat} {l:List Nat} {m:Nat} {x:Code} {K:AX->ASt->R} {σ:ASt} (b:m0<=m) (c:F8 l m σ=true) (d:S.wp E=E) :
 S.LL E m0 l m x K σ=b_ (I9 l m σ) (bC (S.xe S.CC S.LL E m0) x (xM (fun a=>S.LL E m0 l m x K (a.gc l m)) K) (σ.gc l m)):=by
 rw[aH0 hS]; grind [SE.turn]
theorem uZ (hS:S.OK) {g:FuncId} {args:ai} {h:aH} (a:S.C0 g args h=none):S.CC g args h=S.run S.CC S.LL g args h:=by rw[LZ hS,a]; rfl
variable {p:PV}
theorem aDW {P:Program} {d:List ResultVar} {e:List (List Nat×Bool)} {m0:Nat} {i:List Nat} {σ:ASt} {h':aH} (h:IK P d e m0 i σ=some (p,h')):∃ f,O3 P d m0 f h' σ/\xx e f=p:=by
 unfold IK at h;split at h
 .rename_i q hq;obtain ⟨b,h⟩:=iF h;split at h
  .rename_i g;injection h with h
   injection h with j c
   subst j;simp only[bH,pJ] at g;obtain ⟨n,l,m⟩:=g;have a:h'.length=Nat.max m0 (OM q):=by rw[<- c,vK]; omega
   refine ⟨q,⟨by grind,by rw[a]; exact c,by rw[a]; exact l,by rw[a,<- c]; exact aH' b m,?_⟩,rfl⟩;grind [aW5]
  .cases h
 .cases h
theorem aXJ:∀ {l:List Oper} {a:List Oper} {o:Oper} {c:Call} {b:List Oper},a5A l=some (a,o,c,b)->l=a ++ o::b/\o.op = .defer c
 | [],_,_,_,_,h=>by cases h
 | x::l,a,o,c,b,h=>by
  unfold a5A at h;split at h
  .rename_i d; cases h; exact ⟨rfl,d⟩
  .split at h
   .rename_i i j m n e;cases h;obtain ⟨f,g⟩:=aXJ e;exact ⟨by rw[f]; rfl,g⟩
   .cases h
def TT (M:Mem) (B:aS) (m:Nat) (g:FuncId) (c:ai) (d:Deferred):Prop:=∃ b a,d.target = .fn (.func g) b/\d.args ++ b=a/\au M (B.take m) c a.toList
section
variable {n:Nat} {out:Nat->Nat} {m m0:Nat} {M M':Mem} {B B':aS} {σ σ':ASt} {t t':Array Value} {w w':World} {g:FuncId} {ps:ai} {d:Deferred}
theorem TT.mono (h:TT M B m g ps d) (j:dS n out m M B σ t w M' B' σ' t' w'):TT M' B' m g ps d:=by
 obtain ⟨f,a,l,o,p⟩:=h;refine ⟨f,a,l,o,p.mono ⟨j.mem,fun i c e => ?_⟩⟩;rw[nN] at e ⊢;split at e
 .rename_i b; rw[ah b]; exact j.pre i c b e
 .cases e
theorem dS.lessM (h:dS n out m M B σ t w M' B' σ' t' w') (a:m0<=m):dS n out m0 M B σ t w M' B' σ' t' w':=⟨h.inv,h.mem,fun i c b e=>h.pre i c (TJ b a) e,h.fr,h.own⟩
end
def WL (E:AE) (b:Nat->Nat) (m0:Nat) (M:Mem) (B:aS) (σ:ASt) (t:Array Value) (w:World) (v:PV×aH) (l:AX->ASt->R) (o:PK) (e:Exit) (c:Act) (p:World):Prop :=∃ f a h i,e=f.toExit/\dS E.n b m0 M B σ t w h i a c.tmps p/\((l f a=some v/\c.defers = [])\/∃ m g j d,m0<=m/\c.defers = [d]/\TT h i m g j d/\o m g j f a=some v)
variable {D:Mem} {A:aS} {O:Array Value} {a:World}
theorem bSM {E:AE} {b:Nat->Nat} {m0:Nat} {f:Mem} {g:aS} {σ c:ASt} {i:Array Value} {w1:World} {j:AX->ASt->R} {l:PK} (h:dS E.n b m0 D A σ O a f g c i w1) {e:Exit} {m:Act} {o:World} (k:WL E b m0 f g c i w1 G j l e m o):WL E b m0 D A σ O a G j l e m o:=by obtain ⟨p,d,q,r,u,x,y⟩:=k;exact ⟨p,d,q,r,u,h.trans x,y⟩
theorem aQZ {E:AE} {n:Nat} {c:Nat->Nat} {m0:Nat} {σ:ASt} {y:Code} {k:ASt->R} (j:Inv n D A c σ O a) (h:wu E m0 y k σ=some G) :
 ∃ e f b,dS n c m0 D A σ O a e f b O a/\k b=some G:=by
 have q:∀ {m:Mem} {o:aS} {d:ASt},dS n c m0 D A σ O a m o d O a->FD E m0 y k d=some G->∃ e f b,dS n c m0 D A σ O a e f b O a/\k b=some G:=fun {m o d} p he=>by
  unfold FD at he;cases r:E.jt.lookup (E5 y) with
  | none=>grind
  | some l =>
   rw[r] at he;obtain ⟨g,he⟩:=iF he;split at he
   .rename_i i;simp only[bH,pJ] at i;exact ⟨_,_,_,p.trans (H9 p.inv i.1 (a9N g i.2)),he⟩
   .cases he
 unfold wu at h;split at h
 .obtain ⟨u,he⟩:=qN _ h;obtain ⟨e,f,x⟩:=ZJ (m0:=m0) u j;grind
 .exact q (dS.refl j) h
theorem Pq {C:oW} {L:yf} {E:AE} {F:Nat->Nat} {m0:Nat} {v:PV×aH} (N:E.P.follows .mixedOrders=true) (hS:S.OK) (hC:pU E.P C) (hL:∀ m,Jh (S.xe C L E m)):∀ (c:Code) {G:AX->ASt->R} {K:PK} {M:Mem} {B:aS} {σ:ASt} {a:Act} {w:World},
 S.uh C L E m0 c G K σ=some v->Inv E.n M B F σ a.tmps w->a.defers = []->c.wp E.P (WL E F m0 M B σ a.tmps w v G K) a w
 | .seq x y,G,K,M,B,σ,a,w,h,O,l=>by
  simp only[SE.uh] at h;split at h
  .refine wp_seq (wp_mono (Pq N hS hC hL x h O l) fun e a' w' q => ?_);obtain ⟨X,j,A,D,rfl,p,q⟩:=q;rcases q with ⟨hq,t⟩|⟨m,g,ps,d,Q,t,hD,hq⟩
   .cases X with
    | normal =>
     obtain ⟨M2,B2,U,Y,hk⟩:=aQZ p.inv hq;refine wp_mono (xm N y Y.inv (wZ hS.V hS.W hC (hL m0) y hk)) fun e a2 w2 r => ?_
     obtain ⟨Z,H,M3,B3,rfl,I,J,z⟩:=r;exact ⟨Z,H,M3,B3,rfl,(p.trans Y).trans z,.inl ⟨I,by rw[J,t]⟩⟩
    | ret=>exact ⟨.ret,j,A,D,rfl,p,.inl ⟨hq,t⟩⟩
    | exit i=>exact ⟨.exit i,j,A,D,rfl,p,.inl ⟨hq,t⟩⟩
   .cases X with
    | normal =>
     obtain ⟨M2,B2,U,Y,hk⟩:=aQZ p.inv hq;refine wp_mono (xm N y Y.inv (wZ hS.V hS.W hC (hL m) y hk)) fun e a2 w2 r => ?_
     obtain ⟨Z,H,M3,B3,rfl,I,J,z⟩:=r;exact ⟨Z,H,M3,B3,rfl,p.trans ((Y.trans z).lessM Q),.inr ⟨m,g,ps,d,Q,by rw[J,t],hD.mono (Y.trans z),I⟩⟩
    | ret=>exact ⟨.ret,j,A,D,rfl,p,.inr ⟨m,g,ps,d,Q,t,hD,hq⟩⟩
    | exit i=>exact ⟨.exit i,j,A,D,rfl,p,.inr ⟨m,g,ps,d,Q,t,hD,hq⟩⟩
  .refine wp_seq (wp_mono (xm N x O (wZ hS.V hS.W hC (hL m0) x h)) fun e a' w' q => ?_);obtain ⟨X,j,A,D,rfl,hq,t,p⟩:=q;cases X with
   | normal=>exact wp_mono (Pq N hS hC hL y hq p.inv (by rw[t,l])) fun e a2 w2 r=>bSM p r
   | ret=>exact ⟨.ret,j,A,D,rfl,p,.inl ⟨hq,by rw[t,l]⟩⟩
   | exit i=>exact ⟨.exit i,j,A,D,rfl,p,.inl ⟨hq,by rw[t,l]⟩⟩
 | .cond c x y,G,K,M,B,σ,a,w,h,O,l=>by
  have hx:∀ (x:Code),(∀ {T:ASt},S.uh C L E m0 x G K T=some v->Inv E.n M B F T a.tmps w->x.wp E.P (WL E F m0 M B T a.tmps w v G K) a w)->(match FB x with | true=>S.uh C L E m0 x G K σ | false=>bC (S.xe C L E m0) x G σ)=some v->x.wp E.P (WL E F m0 M B σ a.tmps w v G K) a w:=fun x ih hh=>by
   cases t:FB x with
   | true=>grind
   | false =>
    rw[t] at hh;refine wp_mono (xm N x O (wZ hS.V hS.W hC (hL m0) x hh)) fun e a2 w2 r => ?_
    obtain ⟨Z,H,M3,B3,rfl,I,J,z⟩:=r;exact ⟨Z,H,M3,B3,rfl,z,.inl ⟨I,by rw[J,l]⟩⟩
  simp only[SE.uh] at h;split at h
  .rename_i b hb;have he:=kw.1 (O.rd _ _ hb).1;split at h
   .cases b with
    | true =>simp only[a4L hb] at h;exact wp_cond_split he (fun _=>hx x (fun k1 k2=>Pq N hS hC hL x k1 k2 l) h) (fun e=>by cases e)
    | false =>simp only[a4L hb] at h;exact wp_cond_split he (fun e=>by cases e) (fun _=>hx y (fun k1 k2=>Pq N hS hC hL y k1 k2 l) h)
   .cases h
  .cases h
 | .block id x,G,K,M,B,σ,a,w,h,O,l=>by
  refine wp_block (wp_mono (Pq N hS hC hL x h O l) fun e a' w' q => ?_);obtain ⟨X,j,A,D,rfl,p,q⟩:=q;cases X with
  | normal=>exact ⟨.normal,j,A,D,rfl,p,q⟩
  | ret=>exact ⟨.ret,j,A,D,rfl,p,q⟩
  | exit i =>
   simp only[AX.toExit,Exit.inBlock];simp only[aW] at q;split
   .rename_i e; simp only[ah e] at q; exact ⟨.normal,j,A,D,rfl,p,q⟩
   .rename_i e; simp only[aV e] at q; exact ⟨.exit i,j,A,D,rfl,p,q⟩
 | .region id b8 b7,G,K,M,B,σ,a,w,h,O,l=>by
  simp only[SE.uh] at h;split at h
  .cases h
  .split at h
   .rename_i pre o c post hs;obtain ⟨q,ho⟩:=aXJ hs;have hk:=OD (E:=E) O;refine wp_region_list ?_;rw[q];refine a7A pre hk.inv (UU hS.V hS.W hC pre h) fun T M1 B1 a1 w1 hq p t => ?_
    unfold Yp at hq;split at hq
    .rename_i f hg b0 b9;split at hq
     .rename_i g first b1 az hf has
      split at hq
      .rename_i b5;obtain ⟨f',c',e1,r1,r2⟩:=Am.1 (p.inv.rd _ _ hf).1;obtain ⟨ra,_⟩:=O0 p.inv.rd has;unfold wpList;rw[ah (by simp[Region.wanted,hg])];refine .inl ?_;unfold Oper.wp;have b2:(execOp a1.eval o).run E.P w1 = .ok (.defer { target := .fn (.func g) c',args:=f' ++ c.args.map a1.eval }) w1:=by grind [execOp,resolve,Deferred.ofValue,Sem.run_pure]
       rw[b2,Oper.upon_defer];have b3:∀ (a:Act) (u:Value),a.put o.dst u=a:=fun a u=>by rw[b0]; rfl
       rw[b3];refine UE post p.inv (UU hS.V hS.W hC post hq) fun U M2 B2 a2 w2 b6 b4 b' => ?_
       refine ⟨.normal,U,M2,B2,rfl,((hk.trans p).trans b4).c,.inr ⟨_,g,_,{ target := .fn (.func g) c',args:=f' ++ c.args.map a1.eval },Nat.le_max_left _ _,by simp_all,TT.mono ?_ b4.c,b6⟩⟩;refine ⟨c',_,rfl,rfl,?_⟩;have hr:au M1 B1 (first ++ az ++ b1) (f' ++ c.args.map a1.eval ++ c').toList:=by simpa using Fa (Fa r1 ra) r2
       exact hr.blw b5
      .cases hq
     .cases hq
    .cases hq
   .cases h
 | .skip,_,_,_,_,_,_,_,h,_,_=>by cases h
 | .label _,_,_,_,_,_,_,_,h,_,_=>by cases h
 | .exit _,_,_,_,_,_,_,_,h,_,_=>by cases h
 | .ret,_,_,_,_,_,_,_,h,_,_=>by cases h
 | .scope _,_,_,_,_,_,_,_,h,_,_=>by cases h
 | .loop _,_,_,_,_,_,_,_,h,_,_=>by cases h
 | .rangeFunc _ _ _ _,_,_,_,_,_,_,_,h,_,_=>by cases h
 | .goto _,_,_,_,_,_,_,_,h,_,_=>by cases h
 | .refuse _,_,_,_,_,_,_,_,h,_,_=>by cases h
theorem Ev.bUA {C:oW} {L:yf} {g:FuncId} {a:Func} {c:Code} (hm:S.P.follows .mixedOrders=true) (hS:S.OK) (hC:pU S.P C) (V:∀ g args h p h',S.CD C g args h=some (p,h')->uB S.P (CD S.P) g args h p h') (hL:∀ m,Jh (S.xe C L (S.ae g a.ntmps) m))
 (hf:S.P.funcs[g]? = some a) (X:a.body=some c) (hn:(a.name != "runtime.NumGoroutine")=true) {args:ai} {h h':aH} (F:args.length<=a.ntmps)
 (hA:S.uh C L (S.ae g a.ntmps) h.length c (IJ S.P a.results.toList (S.iq g).ro h.length (Ey args)) (S.XA C L (S.ae g a.ntmps) a.results.toList (S.iq g).ro h.length (Ey args)) ⟨nJ 0 args,h⟩=some (p,h')):Ev S.P g args h p h':=by
 refine ⟨by grind [m_],fun f M B w t G j H I hv => ?_⟩;have hI:=aQG F G j H I hv;refine calls_of_wp_defers hf X (wp_mono (Pq hm hS hC hL c hA hI rfl) fun e z u Y => ?_);obtain ⟨ax,A,n,o,rfl,Z,Y⟩:=Y;have J:∀ {M2 B2 q w2},dS a.ntmps f h.length M B ⟨nJ 0 args,h⟩ (t ++ Array.replicate (a.ntmps-t.size) undef) w M2 B2 q z.tmps w2->IK S.P a.results.toList (S.iq g).ro h.length (Ey args) q=some (p,h')->∃ v,(results a z.tmps).run S.P w2 = .ok v w2/\∃ K n o,Ending.returned v = .returned K/\Post h B f M w p h' K n o w2:=fun {M2 B2 q w2} D hk=>by obtain ⟨r0,N,rfl⟩:=aDW hk;obtain ⟨v,b2,b3,b4,b0⟩:=aJR (ro:=(S.iq g).ro) j D N;grind
 rcases Y with ⟨hk,hd⟩|⟨m,U,ps,d,b5,hd,hD,hk⟩
 .have l:IK S.P a.results.toList (S.iq g).ro h.length (Ey args) A=some (p,h')->Leaves S.P a z.tmps (fun e u=>∃ v n o,e = .returned v/\Post h B f M w p h' v n o u) z.defers .returning u:=fun hk=>by rw[hd]; exact J Z hk
  cases ax with
  | normal=>exact l hk
  | ret=>exact l hk
  | exit i=>cases hk
 .have l:AC (S.xe (S.CD C) L (S.ae g a.ntmps) h.length) none U ps (JH A.h 3 (xg [] (PV.y7 ps))) (IK S.P a.results.toList (S.iq g).ro h.length (Ey args)) A=some (p,h')->Leaves S.P a z.tmps (fun e u=>∃ v n o,e = .returned v/\Post h B f M w p h' v n o u) z.defers .returning u:=fun hk=>by
   obtain ⟨r1,h1,hE,hp⟩:=aJ8 (aIC S.P) hS.W V (fun _ _ _ x=>x) hk;unfold jZ at hp;split at hp
   .rename_i q O;obtain ⟨b1,vs,y,b6,Qh⟩:=hD;have Qh:au n o ps vs.toList:=Qh.mono ⟨fun _ _ _ x=>x,fun i c hi=>by rw[nN] at hi;simp_all⟩;have b:=hE.1;unfold m_ at b;split at b
    .rename_i E Q;have T:(invoke d.target d.args).run S.P u = .ok (.enter U vs) u:=by
      rw[y];have b7:S.P.funcs[U]? = some E:=Q;simp only[invoke,callFunc,run_program,nO,xU];have b8:E.body.isNone=false:=by cases X:E.body<;>simp[X] at b ⊢
      grind [Sem.run_pure]
     rw[hd];refine ⟨by simp,_,b1,U,vs,y,T,?_⟩;refine CallsD.mono (aI4 (aIC S.P) Z.inv Qh hE O (R:=fun e w2=>∃ v,e = .returned v/\∃ v2,(results a z.tmps).run S.P w2 = .ok v2 w2/\∃ K n o,Ending.returned v2 = .returned K/\Post h B f M w p h' K n o w2) fun v M2 B2 w2 D => ?_) fun e u' w2 hh => ?_
     .exact ⟨v,rfl,J (Z.trans D.c) hp⟩
     .obtain ⟨rfl,v,rfl,hh⟩:=hh;exact hh
    grind
   simp_all
  cases ax with
  | normal=>exact l hk
  | ret=>exact l hk
  | exit i=>cases hk
theorem aEE (B:S.P.follows .mixedOrders=true) (hS:S.OK) (C:pU S.P S.C0):∀ n,(pU S.P (S.bD n).1/\∀ g args h r h',S.CD (S.bD n).1 g args h=some (r,h')->uB S.P (CD S.P) g args h r h') /\
 ∀ E m0 l m x (K:AX->ASt->R) σ v,S.wp E=E->(S.bD n).2 E m0 l m x K (σ.gc l m)=some v->OA m0 (eu E m0 x) (fun e f=>K e f=some v) n σ
 | 0=>by
  refine ⟨⟨C,fun g args h r h' hv => ?_⟩,fun _ _ _ _ _ _ _ _ _ h=>by cases h⟩;unfold SE.CD at hv;split at hv
  .cases hv
  .rename_i b;split at hv
   .cases hv
   .rw[show (S.bD 0).1 g args h=S.C0 g args h from rfl,b] at hv; cases hv
 | n+1=>by
  obtain ⟨⟨q,D⟩,A⟩:=aEE B hS C n;have t:∀ E m0,S.wp E=E->Jh (S.xe (S.bD n).1 (S.bD n).2 E m0):=fun E m0 y l m x K σ v hv=>by refine ⟨n,?_⟩;exact A E m0 l m x K σ v y hv
  have j:∀ {F:CP} (g:FuncId) (args:ai) (h:aH) (r:PV) (h':aH),(∀ (z:Func) (c:Code),S.P.funcs[g]? = some z->z.body=some c->∀ (d:Array Value) (w:World) (R:Ending->World->Prop),c.wp S.P (bodyPost S.P z R) { tmps:=d ++ Array.replicate (z.ntmps-d.size) undef,defers := [] } w->F g d w R) ->
   (S.iq g).df=false->S.run (S.bD n).1 (S.bD n).2 g args h=some (r,h')->uB S.P F g args h r h':=fun {F} g args h r h' G a hv=>by
   unfold SE.run at hv;split at hv
   .rename_i z o;split at hv
    .rename_i c p;split at hv
     .rename_i u;rw[a] at hv;simp only[bH,pJ] at u;have H:=wZ hS.V hS.W q (t _ _ rfl) c hv;refine uB.aBV (fun k=>G _ _ o p _ _ _ k) B o p u.2 (S.iq g).vars (S.iq g).mv (S.iq g).mu (S.iq g).sz (S.iq g).jt (S.iq g).lt (S.iq g).pt (S.iq g).fz (S.iq g).ro (S.iq g).ft (S.iq g).sy (S.iq g).ln u.1 (yw c (fun e f he => ?_) H);cases e with
      | normal=>exact ⟨trivial,aDW he⟩
      | ret=>exact ⟨trivial,aDW he⟩
      | exit i=>cases he
     .cases hv
    .cases hv
   .cases hv
  refine ⟨⟨fun g args h r h' hv => ?_,fun g args h r h' hv => ?_⟩,fun E m0 l m x K σ v y hv => ?_⟩
  .have hv:I5 (S.C0 g args h) (S.run (S.bD n).1 (S.bD n).2 g args h)=some (r,h'):=hv;cases b:S.C0 g args h with
   | some x=>rw[b] at hv; injection hv with hv; subst hv; exact C _ _ _ _ _ b
   | none =>
    rw[b] at hv;cases a:(S.iq g).df with
    | false=>exact j g args h r h' (fun _ _ o p _ _ _ k=>calls_of_wp o p k) a hv
    | true =>
     unfold SE.run at hv;split at hv
     .rename_i z o;split at hv
      .rename_i c p;split at hv
       .rename_i u;rw[a] at hv;simp only[bH,pJ] at u;exact Ev.bUA B hS q D (fun m=>t _ _ rfl) o p u.2 u.1 hv
       .cases hv
      .cases hv
     .cases hv
  .unfold SE.CD at hv;split at hv
   .cases hv
   .rename_i b;split at hv
    .cases hv
    .rename_i a;have hv:I5 (S.C0 g args h) (S.run (S.bD n).1 (S.bD n).2 g args h)=some (r,h'):=hv;rw[b] at hv;exact j g args h r h' (fun _ _ o p _ _ _ k=>callsD_of_wp o p k) a hv
  .have hv:S.turn (S.bD n).1 (S.bD n).2 E m0 l m x K (σ.gc l m)=some v:=hv;rw[b'Z] at hv;obtain ⟨I,hv⟩:=iF hv;split at hv
   .rename_i b;simp only[bH,pJ] at b;rw[y] at hv;refine ⟨l,m,b.1,a9N I b.2,yw x (fun e f he => ?_) (wZ hS.V hS.W (by rw[<- y]; exact q) (t _ _ y) x hv)⟩;cases e with
    | normal=>exact A E m0 l m x K f v y he
    | ret=>exact he
    | exit i=>exact he
   .cases hv
theorem aG4 (hS:S.OK) (n:Nat) {g:FuncId} {args:ai} {h:aH} (e:(S.bD n).1 g args h=some G):S.CC g args h=some G:=((UK hS g args h).lim G).2 ⟨n,e⟩
theorem Ox (a:S.P.follows .mixedOrders=true) (hS:S.OK) (b:pU S.P S.C0):pU S.P S.CC:=fun g args h r h' hv=>by obtain ⟨n,c⟩:=((UK hS g args h).lim _).1 hv;exact (aEE a hS b n).1.1 g args h r h' c
end
def vI (k:IntKind) (p:PV) (K:Int->R):R:=match p with | .int a n=>(match decide (a=k) with | true=>K n | false=>none) | _=>none
def vB (p:PV) (K:Bool->R):R:=match p with | .bool b=>K b | _=>none
def vS (p:PV) (K:ByteArray->R):R:=match p with | .str b=>K b | _=>none
def vL (o:Bool) (z:Nat) (p:PV) (K:ai->R):R:=match p with | .sl a b c=>(match a==o&&Nat.beq b z with | true=>K c | false=>none) | _=>none
def w0 (p:PV) (K:R):R:=match p with | .tuple []=>K | _=>none
@[simp] theorem zU (k : IntKind) (n : Int) (K : Int -> R) : vI k (.int k n) K = K n := by simp [vI]
@[simp] theorem Aw (b : Bool) (K : Bool -> R) : vB (.bool b) K = K b := rfl
@[simp] def kG (b : ByteArray) (K : ByteArray -> R) : vS (.str b) K = K b := rfl
@[simp] def a5N (o : Bool) (z : Nat) (a : ai) (K : ai -> R) : vL o z (.sl o z a) K = K a := by simp [vL]
@[simp] theorem c5H (K : R) : w0 (.tuple []) K = K := rfl
theorem tZ (k:IntKind) (p:PV):(∀ K:PV->R,vI k p (fun n=>K (.int k n))=K p)\/(∀ K:PV->R,vI k p (fun n=>K (.int k n))=none):=by unfold vI; grind
theorem Kr (p:PV):(∀ K:PV->R,vB p (fun n=>K (.bool n))=K p)\/(∀ K:PV->R,vB p (fun n=>K (.bool n))=none):=by unfold vB; grind
theorem Xc (p:PV):(∀ K:PV->R,vS p (fun n=>K (.str n))=K p)\/(∀ K:PV->R,vS p (fun n=>K (.str n))=none):=by unfold vS; grind
theorem Bz (o:Bool) (z:Nat) (p:PV):(∀ K:PV->R,vL o z p (fun n=>K (.sl o z n))=K p)\/(∀ K:PV->R,vL o z p (fun n=>K (.sl o z n))=none):=by unfold vL; grind [Nat.eq_of_beq_eq_true]
theorem c07 (p:PV) (h:aH):(∀ K:PV->aH->R,w0 p (K (.tuple []) h)=K p h)\/(∀ K:PV->aH->R,w0 p (K (.tuple []) h)=none):=by grind [w0]
variable {d6:(PV->R)->R} {p:PV}
theorem Aj (a:(∀ K:PV->R,d6 K=K p)\/(∀ K:PV->R,d6 K=none)) (h:aH):(∀ K:PV->aH->R,d6 (fun q=>K q h)=K p h)\/(∀ K:PV->aH->R,d6 (fun q=>K q h)=none):=by grind
variable {r:Bool}
def lh {g:(PV->R)->R} (a:(∀ K:PV->R,d6 K=K p)\/(∀ K:PV->R,d6 K=none)) (c:(∀ K:PV->R,g K=K p)\/(∀ K:PV->R,g K=none)) :
 (∀ K:PV->R,aB r (d6 K) (g K)=K p)\/(∀ K:PV->R,aB r (d6 K) (g K)=none):=by
 cases r
 .exact c
 .exact a
def uP {f g:(PV->aH->R)->R} (a:(∀ K:PV->aH->R,f K=K p a')\/(∀ K:PV->aH->R,f K=none)) (c:(∀ K:PV->aH->R,g K=K p a')\/(∀ K:PV->aH->R,g K=none)) :
 (∀ K:PV->aH->R,aB r (f K) (g K)=K p a')\/(∀ K:PV->aH->R,aB r (f K) (g K)=none):=by
 cases r
 .exact c
 .exact a
def rU (f:Func):Code:=match f.body with | some c=>c | none => .skip
def Code.sub:List Bool->Code->Code
 | [],c=>c
 | b::p,.seq x y=>match b with | true=>Code.sub p y | false=>Code.sub p x
 | b::p,.cond _ x y=>match b with | true=>Code.sub p y | false=>Code.sub p x
 | b::p,.rangeFunc _ _ x y=>match b with | true=>Code.sub p y | false=>Code.sub p x
 | _::p,.block _ x=>Code.sub p x
 | _::p,.scope x=>Code.sub p x
 | _::p,.loop x=>Code.sub p x
 | _,c=>c
@[simp] theorem aI (A B : R) : aB true A B = A := rfl
@[simp] theorem aF (A B : R) : aB false A B = B := rfl
theorem PY (b:Bool) (A B:R):aB b A B=if b=true then A else B:=by cases b<;>rfl
theorem aQ {b:Bool} {A:R} (h:b=true):b_ b A=A:=by subst h; rfl
variable {f:ai} {b5:Int} {d7:PV->R}
theorem nD {e:PV} (a:0<=b5) (h:f[b5.toNat]? = some e):di f b5 d7=d7 e:=by grind [di]
theorem Gl {s:ByteArray} {K:Int->R} {b:UInt8} (a:0<=b5) (h:s[b5.toNat]? = some b):wV s b5 K=K b.toNat:=by grind [wV]
theorem qw {C:oW} {g:FuncId} {args:ai} (h:C g args []=some (p,[])):jk C g args d7=d7 p:=by unfold jk; rw[h]
theorem aU6 {K:Bool->R} (a:K false=some G) (b:f = []->K true=some G):Jm f K=some G:=by grind [Jm,b3N]
section
variable {E:AE} {ops:Array Oper} {K:ASt->Prop}
end
end Go.Proofs.YtagkcbgkhgccmaaGreatDoor
namespace Go.Proofs.YtagkcbgkhgccmaaGreatDoor
open Go.RowKit Go.ChangeShapes Go.WideShapes Go.ChangeAt
def a5P (w:World) (b o:Nat):Option Value:=match w.cell? ⟨b,o,none⟩ with | some v=>if v.oneCell' then some v else none | none=>none
variable {a:World} {b J:Nat} {e3:Value}
theorem aFL:a5P a b J=some e3↔a.cell? ⟨b,J,none⟩=some e3/\e3.oneCell'=true:=by grind [a5P]
def GW (w:World):Prop:=∃ m,∀ b o v,CW m b o=some v->a5P w b o=some v
def whole (w:World) (h:GW w):Mem:=⟨Classical.choose h,a5P w,Classical.choose_spec h⟩
def aFM {c:GW a}:whole a c b J=some e3↔a.cell? ⟨b,J,none⟩=some e3/\e3.oneCell'=true:=aFL
def c0V (w:World) (a:GW w):Ae (whole w a) w:=fun _ _ _ h=>aFM.1 h
variable {Z:Program}
theorem Ev.top {g:FuncId} {args:ai} {r:PV} {j:GW a} {c:Array Value} (h:Ev Z g args [] r []) (o:au (whole a j) [] args c.toList) :
 Calls Z g c a fun e l=>∃ v f,e = .returned v/\eU f [] r v/\Ae f l/\Below a.heap.size a l:=by
 have m:∀ a b,aT a [] [] b=0:=fun a b=>by simp[aT]
 refine (h.2 (fun _=>0) (whole a j) [] a c (c0V a j) ⟨rfl,fun i t p=>by simp at p⟩ (fun b=>by rw[m]; omega) (fun b _=>by rw[m]) o).mono fun e l he => ?_
 obtain ⟨v,f,q,rfl,d⟩:=he;have n:q = []:=qg (by have:=d.heap.1; simp_all);subst n;exact ⟨v,f,rfl,d.rep,d.mem,d.fr.os,d.fr.tape,d.fr.output,d.fr.size,fun k hk=>(d.fr.blk k hk (m a k)).1⟩
def JB (P:Program) (t:TypeId):Bool:=match P.underlying t with | some (.struct _) | some (.array ..)=>true | _=>false
def Gq (P:Program) (t:TypeId) (a:ai):PV:=if JB P t then .agg a else a.headD .nilp
def iD (P:Program) (t:TypeId):List (Nat×TypeId):=match P.underlying t with
 | some (.struct a)=>a.toList.map fun f=>(f.offset,f.type)
 | some (.array n e)=>(List.range n).map fun i=>(i*P.cellsOf e,e)
 | _ => []
def yh (P:Program):Nat->TypeId->ai->Prop
 | 0,_,_=>False
 | fuel+1,t,a=>match P.underlying t with
  | some .bool=>∃ b,a = [.bool b]
  | some (.int k)=>∃ n,a = [.int k n]/\(Lit.int k n).wf=true
  | some .string=>∃ s:ByteArray,a = [.str s]/\s.size<=reachBytes
  | some (.slice e)=>∃ c:ai,a = [.sl false (P.cellsOf e) c]/\c.length*P.bytesOf e<=reachBytes/\∀ p,p∈c->∃ d,yh P fuel e d/\p=Gq P e d
  | some (.struct _) | some (.array ..)=>a.length=P.cellsOf t/\∀ x,x∈iD P t->yh P fuel x.2 ((a.drop x.1).take (P.cellsOf x.2))
  | _=>False
def IV (P:Program) (a:Nat):Nat->List (Nat×TypeId)->Bool
 | off,[]=>off==a
 | off,x::l=>x.1==off&&IV P a (off+P.cellsOf x.2) l
def a7M (P:Program) (l:List TypeId):Bool:=l.all fun t=>match P.underlying t with
 | some .bool=>P.cellsOf t==1
 | some (.int _)=>P.cellsOf t==1
 | some .string=>P.cellsOf t==1
 | some (.slice e)=>l.contains e&&decide (0<P.cellsOf e)&&P.cellsOf t==1
 | some (.struct _)=>(iD P t).all (fun x=>l.contains x.2)&&IV P (P.cellsOf t) 0 (iD P t)
 | some (.array ..)=>(iD P t).all (fun x=>l.contains x.2)&&IV P (P.cellsOf t) 0 (iD P t)
 | _=>false
theorem aVZ {M:Mem} {B:aS}:∀ {d b:ai} {c a:List Value},au M B d c->au M B b a->au M B (d ++ b) (c ++ a)
 | [],b,c,a,h,k=>by rw[fA] at h; simp_all
 | p::d,b,c,a,h,k=>by obtain ⟨u,e,rfl,f,g⟩:=dO.1 h;exact dO.2 ⟨u,e ++ a,rfl,f,aVZ g k⟩
theorem aY4 {P:Program} {a:Nat}:∀ {l:List (Nat×TypeId)} {b:Nat},IV P a b l=true->b<=a/\∀ x,x∈l->b<=x.1
 | [],b,h=>by grind [IV]
 | x::l,b,h=>by simp only[IV,bH,qG] at h;obtain ⟨c,d⟩:=aY4 h.2;grind
theorem aEN {P:Program} {M:Mem} {S:TypeId->ai->Prop} {cs:List Value}:∀ {l:List (Nat×TypeId)} {off:Nat},IV P cs.length off l=true ->
 (∀ x,x∈l->∃ a,S x.2 a/\au M [] a ((cs.drop x.1).take (P.cellsOf x.2))/\∀ v,v∈(cs.drop x.1).take (P.cellsOf x.2)->v.oneCell'=true)->∃ b,au M [] b (cs.drop off)/\(∀ v,v∈cs.drop off->v.oneCell'=true)/\∀ x,x∈l->S x.2 ((b.drop (x.1-off)).take (P.cellsOf x.2))
 | [],off,h,_=>by simp[IV] at h; subst h;exact ⟨[],by rw[List.drop_length]; exact fA.2 rfl,by simp,by simp⟩
 | x::l,off,h,d=>by
  simp only[IV,bH,qG] at h;obtain ⟨e,f⟩:=h;subst e;obtain ⟨i,j⟩:=aY4 f;obtain ⟨a,hq,m,o⟩:=d x (by simp);obtain ⟨b,p,n,q⟩:=aEN f fun y c=>d y (by simp[c])
  have g:a.length=P.cellsOf x.2:=by rw[ou m,vK,xR]; omega
  refine ⟨a ++ b,?_,fun v hv => ?_,fun y c => ?_⟩;grind [aVZ,List.drop_drop,List.take_append_drop]
  grind [List.take_append_drop,List.drop_drop]
  .rcases jr.1 c with rfl | c
   simp_all;grind [List.drop_append,List.drop_eq_nil_of_le]
def aFK {H:Type} {P:Program} {e:TypeId}:∀ {a:List (DataW H)} {d:DataW H} {n:Nat},d∈a->n∈d.weights P e->n∈DataW.weightsAll P e a
 | d0::a,d,n,b,c=>by
  rw[DataW.weightsAll,LK];rcases jr.1 b with rfl | b
  .exact .inl c
  .exact .inr (aFK b c)
theorem aSQ {a:Type} {R:Nat->a->Prop}:∀ n:Nat,(∀ j,j<n->∃ p,R j p)->∃ l:List a,l.length=n/\∀ (j:Nat) p,l[j]? = some p->R j p
 | 0,_=>⟨[],rfl,by simp⟩
 | n+1,h=>by
  obtain ⟨l,b,c⟩:=aSQ n fun j d=>h j (by omega)
  obtain ⟨p,e⟩:=h n (by omega);refine ⟨l ++ [p],by simp[b],fun j q hq => ?_⟩;grind
theorem aX6 {t:TypeId} {c:ai} (h:yh Z b t c) (d:JB Z t=false):∃ q,c = [q]/\q.isAgg=false/\(∀ e,q ≠ .tuple e)/\q.size=1:=by
 cases b with
 | zero=>exact h.elim
 | succ b =>
  unfold yh at h;unfold JB at d;split at h
  .obtain ⟨a,rfl⟩:=h; simp
  .obtain ⟨a,rfl,_⟩:=h; simp
  .obtain ⟨a,rfl,_⟩:=h; simp
  .obtain ⟨a,rfl,_⟩:=h; simp
  .simp_all
  .simp_all
  simp_all
section
variable {H:Type} {enc:TypeId×Value->H} {W:World} {hW:GW W} {P:Program}
theorem b3D {e:TypeId} {l:ai} {d:List Value} (r:yh P b e l) (m:au (whole W hW) [] l d) (A:d.length=P.cellsOf e) (o:∀ v,v∈d->v.oneCell'=true) :
 (Gq P e l).size=P.cellsOf e/\∀ a c,(∀ i,i<d.length->W.cell? ⟨a,c+i,none⟩=d[i]?)->Loc (whole W hW) [] (Gq P e l) a c:=by
 unfold Gq;have g:=ou m;cases t:JB P e with
 | true =>refine ⟨by simp_all,fun a c h=>zI.2 (Gm fun j p w => ?_)⟩;obtain ⟨u,f,n⟩:=wB m w;exact ⟨u,aFM.2 ⟨(h j (iY.1 f).1).trans f,o u (qh f)⟩,n⟩
 | false =>
  obtain ⟨q,rfl,x,y,B⟩:=aX6 r t;have z:d.length=1:=by rw[<- g]; rfl
  refine ⟨by simp_all,fun a c h=>(Aa x y).2 ?_⟩;obtain ⟨u,f,n⟩:=wB m (j:=0) (p:=q) rfl;exact ⟨u,aFM.2 ⟨(h 0 (by omega)).trans f,o u (qh f)⟩,n⟩
theorem aHD (b a n:Nat):(⟨b,a,none⟩:Addr).add n=⟨b,a+n,none⟩:=by grind [Addr.add]
theorem BA {l:List TypeId} (hl:a7M P l=true):∀ (c:Nat) (t:TypeId) (cs:List Value) (x:DataW H×List MemPlace),t∈l->DataW.trod enc P W 0 (fun _=>true) true c t cs=some x->(∀ n,n∈x.1.weights P t->n<=reachBytes) ->
 ∃ U,yh P c t U/\au (whole W hW) [] U cs/\cs.length=P.cellsOf t/\∀ v,v∈cs->v.oneCell'=true:=by
 intro c;induction c with
 | zero=>intro t cs x _ h; simp[DataW.trod] at h
 | succ c ih =>
  intro t cs x ht h V;have o:=ja.1 hl t ht;simp only[yh];cases d:P.underlying t with
  | none=>rw[d] at o; cases o
  | some ty =>
   cases ty with
   | bool =>simp only[d] at o;obtain ⟨b,rfl,_⟩:=DataW.trod_bool d h;exact ⟨[.bool b],⟨b,rfl⟩,dO.2 ⟨_,_,rfl,kw.2 rfl,fA.2 rfl⟩,(eq_of_beq o).symm,by simp_all⟩
   | int k =>simp only[d] at o;obtain ⟨n,rfl,_,hn⟩:=DataW.trod_int d h;exact ⟨[.int k n],⟨n,rfl,hn⟩,dO.2 ⟨_,_,rfl,fH.2 rfl,fA.2 rfl⟩,(eq_of_beq o).symm,by simp_all⟩
   | string =>simp only[d] at o;obtain ⟨s,rfl,rfl,hn⟩:=DataW.trod_string d h;exact ⟨[.str s],⟨s,rfl,by have:=V s.size (by simp[DataW.weights]); exact this⟩,dO.2 ⟨_,_,rfl,jS.2 rfl,fA.2 rfl⟩,(eq_of_beq o).symm,by simp_all⟩
   | slice e =>
    simp only[d,bH,pJ,qG,List.contains_iff_mem] at o;obtain ⟨⟨he,J⟩,h1⟩:=o;rcases DataW.trod_slice d h with ⟨rfl,rfl⟩|⟨a,B,K,w,D,n',r,rfl,rfl,_,a',_,b9,E,b0,_⟩
    .exact ⟨[.sl false (P.cellsOf e) []],⟨[],rfl,by simp,by simp⟩,dO.2 ⟨_,_,rfl,jo.2 ⟨none,0,rfl,dG _,by simp,fun _=>⟨rfl,rfl,rfl⟩,by simp⟩,fA.2 rfl⟩,h1.symm,by simp_all⟩
    .injection r with r; subst r
     have L:∀ k,k∈(DataW.slice (w.map (·.1)) (D.map (·.1)):DataW H).weights P t->k<=reachBytes:=V;have b1:B*P.bytesOf e<=reachBytes:=by have:=L ((w.length+D.length)*P.bytesOf e) (by simp[DataW.weights,d]);grind
     have N:∀ j,j<B->∃ p,(∃ I,yh P c e I/\p=Gq P e I)/\p.size=P.cellsOf e/\∀ b off,a=⟨b,off,none⟩->Loc (whole W hW) [] p b (off+j*P.cellsOf e):=by
      intro j hj;have g:=E j hj;rw[jq (by omega)] at g;obtain ⟨u,z,b2⟩:=aZ9.1 g;obtain ⟨I,X,q2,q3,q4⟩:=ih e u _ he b2 fun k hk=>L k (by simp only[DataW.weights,d,jr,LK];exact .inr (.inl (aFK (zh.2 ⟨_,fZ (by omega),rfl⟩) hk)))
      obtain ⟨s1,s2⟩:=b3D X q2 q3 q4;refine ⟨_,⟨I,X,rfl⟩,s1,fun b off b3=>s2 b _ fun i Y => ?_⟩;obtain ⟨_,_,q⟩:=World.cells?_some z;have:=q i (by omega);rw[b3,aHD,aHD] at this;exact this
     have b4:K≠0->∃ b off,a=⟨b,off,none⟩:=fun b7=>by
      have b':∀ k u,k=0->W.cells? 0 (a.add k) (P.cellsOf e)=some u->a.spot=none:=fun k u hk z=>by subst hk;obtain ⟨_,h2,q⟩:=World.cells?_some z;have:=q 0 J;rw[jq (by omega)] at this;grind [Addr.add,World.cell?_spot]
      have:a.spot=none:=by
       by_cases Z:0<B
       .have g:=E 0 Z;rw[jq (by omega)] at g;obtain ⟨u,z,_⟩:=aZ9.1 g;simp_all
       .obtain ⟨r1,r2⟩:=b0 rfl;have g:=r2 0 (by omega);rw[jq (by omega)] at g;obtain ⟨u,z,_⟩:=aZ9.1 g;grind
      exact ⟨a.block,a.off,by cases a; simp_all⟩
     obtain ⟨es,m,c0⟩:=aSQ B N;subst m;refine ⟨[.sl false (P.cellsOf e) es],⟨es,rfl,b1,fun p F => ?_⟩,dO.2 ⟨_,_,rfl,jo.2 ⟨some a,K,rfl,a',fun p F => ?_,fun Z=>by omega,fun b5 => ?_⟩,fA.2 rfl⟩,h1.symm,by simp_all⟩
     .obtain ⟨j,hj⟩:=zg.1 F;grind
     .obtain ⟨j,hj⟩:=zg.1 F;grind
     .have b8:es.length≠0:=fun Z=>b5 (qg Z)
      grind [Ac]
   | struct fs =>
    simp only[d,bH,ja,List.contains_iff_mem] at o;obtain ⟨hm,O⟩:=o;obtain ⟨xs,n,r,rfl,m,Q,hg⟩:=DataW.trod_struct d h;injection r with r; subst r
    rw[<- m] at O;obtain ⟨U,p1,p2,p3⟩:=aEN (M:=whole W hW) (S:=yh P c) (cs:=cs) (off:=0) O fun y T=>by
     have F:iD P t=fs.toList.map fun f=>(f.offset,f.type):=by unfold iD; rw[d]
     obtain ⟨f,r,G⟩:=zh.1 (F▸T);obtain ⟨i,Y⟩:=zg.1 r;have b6:fs[i]? = some f:=by grind
     have C:i<xs.length:=by rw[Q]; grind
     have A:=hg i f b6;rw[jq C] at A;subst G;obtain ⟨I,X,q2,q3,q4⟩:=ih f.type _ _ (hm _ T) A fun k hk=>V k (by simp only[DataW.weights,d];exact DataW.weights_mem_each (j:=i) (t:=f.type) (by rw[lN,Y]; rfl) (by rw[lN,jq C]; rfl) k hk)
     grind
    rw[List.drop_zero] at p1 p2;grind [ou]
   | array n e =>
    simp only[d,bH,ja,List.contains_iff_mem] at o;obtain ⟨hm,O⟩:=o;obtain ⟨xs,n',r,rfl,m,Q,hg⟩:=DataW.trod_array d h;injection r with r; subst r
    rw[<- m] at O;obtain ⟨U,p1,p2,p3⟩:=aEN (M:=whole W hW) (S:=yh P c) (cs:=cs) (off:=0) O fun y T=>by
     have F:iD P t=(List.range n).map fun i=>(i*P.cellsOf e,e):=by unfold iD; rw[d]
     obtain ⟨i,Y,G⟩:=zh.1 (F▸T);have C:i<n:=E_.1 Y;have A:=hg i C;rw[jq (by omega)] at A;subst G;obtain ⟨I,X,q2,q3,q4⟩:=ih e _ _ (hm _ T) A fun k hk=>V k (by simp only[DataW.weights,d];exact aFK (zh.2 ⟨_,fZ (by omega),rfl⟩) hk)
     grind
    rw[List.drop_zero] at p1 p2;grind [ou]
   | _=>simp only[d] at o; cases o
theorem Ai {l:List TypeId} (m:a7M P l=true) {r:Reach} {t:TypeId} {v:Value} {d:DataW H} {o:List MemPlace} (p:t∈l) (hv:Value.okWide P W r b t v) (h:DataW.Trod enc P W 0 (fun _=>true) true t v d o) (w:∀ n,n∈d.weights P t->n<=reachBytes) :
 ∃ a e,yh P a t e/\eU (whole W hW) [] (Gq P t e) v:=by
 obtain ⟨a,x⟩:=h;obtain ⟨e,f,g,y,z⟩:=BA m a t _ _ p x w;refine ⟨a,e,f,?_⟩;unfold Gq;cases i:JB P t with
 | true =>
  have:∃ c,v = .agg c:=by grind [Value.okWide,JB]
  obtain ⟨c,rfl⟩:=this;rw[ah rfl];exact qU.2 ⟨c,rfl,g⟩
 | false =>
  obtain ⟨q,rfl,A,h6,B⟩:=aX6 f i;obtain ⟨u,C,D,hq,j⟩:=dO.1 g;rw[fA] at j; subst j;simp only[TA,if_false,List.headD_cons];have:v.cells.toList = [v]\/∃ c,v = .agg c:=by cases v<;>first | exact .inr ⟨_,rfl⟩ | exact .inl rfl
  rcases this with h | ⟨c,rfl⟩
  simp_all
  .exfalso;unfold Value.okWide at hv;unfold JB at i;split at hv
   .simp_all
   .simp_all
   .unfold Cell.okWide at hv;split at hv<;>simp_all[Cell.ok]
end
end Go.Proofs.YtagkcbgkhgccmaaGreatDoor
namespace Go.Proofs.YtagkcbgkhgccmaaGreatDoor
open Go.RowKit
abbrev KI (l:Nat):Fence:=Fence.wide.inRound l
section
variable {P:Program} {l n:Nat} {a:World}
def b1B {f:FuncId} {args:Array Value} {R:Ending->World->Prop} (h:Calls P f args a R):CallsIn (KI l) n P f args a R :=callsIn_wide.2 h
theorem bYH {b:String} {args:Array Value} {R:Value->World->Prop} (h:Rows P b args a R):RowsIn (KI l) n P b args a R :=fun c d _=>let ⟨v,e,r,s⟩:=h c d; ⟨v,e,r,stepsIn_wide.2 s⟩
variable {U:Oper}
theorem aUT {b:Act} {K:Act->World->Prop} {Q:Exit->Act->World->Prop} (d:∀ c,U.op ≠ .defer c) (h:U.wp P b a K Q):U.wpIn (KI l) n P b a K Q:=by
 refine ⟨fun _ _=>trivial,?_⟩;rw[show (KI l).round=some l from rfl,Oper.semAt_some l b.eval U d];unfold Oper.wp at h;generalize (execOp b.eval U).run P a=r at *;cases r with
 | ok x e =>
  cases x<;>simp only[Oper.upon,Oper.uponIn] at h ⊢ <;>
   first
    | exact h
    | exact h.elim
    | exact ⟨fun h=>by simp[Fence.wide,Fence.inRound] at h,b1B h⟩
    | grind [Fence.wide,Fence.inRound,bYH]
 | halt x e=>cases x<;>simp only[Oper.upon,Oper.uponIn] at h ⊢ <;> exact h
def Nb (o:Oper):Bool:=match o.op with | .defer _=>false | _=>true
def aUB (h:Nb U=true):∀ c,U.op ≠ .defer c:=fun c a=>by simp[Nb,a] at h
theorem aBB {c:Array Oper} {Q:Exit->Act->World->Prop} (e:¬ LetsOut Q):∀ (b:List Oper),(b.all Nb)=true->∀ (a:Act) (w:World),wpList P c Q b a w->wpListIn (KI l) n P c Q b a w
 | [],_,a,w,h=>h
 | o::b,d,a,w,h=>by
  simp only[CO,bH] at d;unfold wpList at h;unfold wpListIn;split at h
  .rename_i f;rw[ah f];rcases h with h | h
   .exact Oper.wpIn_mono (fun a w=>aBB e b d.2 a w) (aUT (aUB d.1) h)
   .exact absurd h.2 e
  .rename_i f;rw[aV f];exact ⟨fun _ _=>trivial,aBB e b d.2 _ _ h⟩
theorem UA {md:Region.Mode} {b:Array Oper} {Q:Exit->Act->World->Prop} (e:¬ LetsOut Q) (d:b.all Nb=true):∀ (fuel:Nat) (L:Array Bool) (a:Act) (w:World),wpAny P md b Q fuel L a w->wpAnyIn (KI l) n P md b Q fuel L a w
 | 0,L,a,w,h=>h
 | fuel+1,L,a,w,h=>by
  refine ⟨h.1,fun i p => ?_⟩;have c:=h.2 i p;unfold wpOp at c;unfold wpOpIn;cases f:b[i]? with
  | none=>rw[f] at c; exact UA e d fuel _ a w c
  | some o =>
   rw[f] at c;have g:Nb o=true:=by obtain ⟨j,he⟩:=zf.1 f;rw[Array.all_eq_true] at d;rw[<- he]; exact d i j
   show if Region.wanted o (yielded b a.tmps)=true then _ else _
   have c:if Region.wanted o (yielded b a.tmps)=true then _ else _:=c
   split at c
   .rename_i m;rw[ah m];rcases c with c | c
    .exact Oper.wpIn_mono (fun a w=>UA e d fuel _ a w) (aUT (aUB g) c)
    .exact absurd c.2 e
   .rename_i m;rw[aV m];exact ⟨fun _ _=>trivial,UA e d fuel _ _ _ c⟩
end
def pq:Code->Bool
 | .region _ a _=>a.all Nb
 | .seq x y=>pq x&&pq y
 | .cond _ x y=>pq x&&pq y
 | .block _ x=>pq x
 | .loop x=>pq x
 | .scope _=>false
 | .rangeFunc _ _ _ _=>false
 | _=>true
section
variable {E:AE} {m0 l n:Nat} {out:Nat->Nat}
def aB9 {M:Mem} {B:aS} {b:ASt} {t:Array Value} {w:World} {c:List Deferred} {Q:AX->ASt->Prop}:¬ LetsOut (x_ E out m0 M B b t w c Q):=by rintro ⟨a,f,d,e,g,i,h,_⟩;cases d<;>cases h
def Gj (D:E.P.follows .mixedOrders=true):∀ (c:Code),pq c=true->∀ {M:Mem} {B:aS} {q:ASt} {a:Act} {w:World} {Q:AX->ASt->Prop},Inv E.n M B out q a.tmps w->eu E m0 c Q q->c.wpIn (KI l) n E.P (x_ E out m0 M B q a.tmps w a.defers Q) a w
 | .skip,_,M,B,q,a,w,Q,r,h=>wpIn_skip ⟨.normal,q,M,B,rfl,h,rfl,dS.refl r⟩
 | .label _,_,M,B,q,a,w,Q,r,h=>wpIn_label ⟨.normal,q,M,B,rfl,h,rfl,dS.refl r⟩
 | .exit id,_,M,B,q,a,w,Q,r,h=>wpIn_exit ⟨.exit id,q,M,B,rfl,h,rfl,dS.refl r⟩
 | .ret,_,M,B,q,a,w,Q,r,h=>wpIn_ret ⟨.ret,q,M,B,rfl,h,rfl,dS.refl r⟩
 | .region id t N,p,M,B,q,a,w,Q,r,h=>by
  have hk:=OD (E:=E) r;have p:t.all Nb=true:=p;rw[eu] at h;cases N with
  | false =>simp only[TA,if_false] at h;exact wpIn_region_list (aBB aB9 _ (by rw[Array.all_toList]; exact p) _ _ (UE _ hk.inv h fun σ' u v J L hq d g=>⟨.normal,σ',u,v,rfl,hq,g,(hk.trans d).c⟩))
  | true =>
   simp only[CQ] at h;have g:=hk.inv.drew;rcases h with ⟨T,h⟩ | h
   .obtain ⟨σ',hc,hq⟩:=a6Z t.toList 0 (fun j=>by simp) h;have hu:qV t.size (Array.replicate t.size false)=List.range' 0 t.toList.length:=by unfold qV;rw[List.filter_eq_self.2 (fun i hi=>by have:=E_.1 hi; simp[this]),aFZ]; simp
    refine wpIn_region_any D (UA aB9 p _ _ _ _ ?_);refine aHM T t.size (Array.replicate t.size false) (K:=Q .normal) (σ':=σ') (by simp) (by rw[hu]; simp) (fun j o _ h => ?_) g.1 (by rw[hu]; exact hc) hq fun u v J L U d z=>⟨.normal,σ',u,v,rfl,U,z,((hk.trans g.2).trans d).c⟩
    have h':(Array.replicate t.size false).getD j false=true:=h;simp[Array.getElem?_replicate] at h';split at h'<;>simp at h'
   .exact wpIn_region_any D (UA aB9 p _ _ _ _ (a6U t.size _ g.1 (YH _ g.1.iQ h) fun V u v J L hq d z=>⟨.normal,V,u,v,rfl,hq,z,((hk.trans g.2).trans d).c⟩))
 | .seq x y,p,M,B,q,a,w,Q,r,h=>by
  simp only[pq,bH] at p;rw[eu] at h;refine Ov (vM (Gj D x p.1 r h) fun e J L O => ?_);obtain ⟨S,σ',u,v,rfl,hq,g,d⟩:=O;cases S with
  | normal =>
   obtain ⟨ks,hq⟩:=hq;obtain ⟨M2,B2,hz⟩:=ZJ (m0:=m0) ks d.inv;have d:=d.trans hz;rcases hq with hq | ⟨l,m,G,X,hq⟩
   .exact vM (Gj D y p.2 d.inv hq) fun e a2 w2 A=>by rw[g] at A; exact S_ d A
   .have C:=d.trans (H9 d.inv G X);exact vM (Gj D y p.2 C.inv hq) fun e a2 w2 A=>by rw[g] at A; exact S_ C A
  | ret=>exact ⟨.ret,σ',u,v,rfl,hq,g,d⟩
  | exit i=>exact ⟨.exit i,σ',u,v,rfl,hq,g,d⟩
 | .cond c x y,p,M,B,q,a,w,Q,r,h=>by
  simp only[pq,bH] at p;rw[eu] at h;split at h
  .rename_i b H;have he:=kw.1 (r.rd _ _ H).1;refine wpIn_cond_split he (fun H=>Gj D x p.1 r (h.1 H)) (fun H=>Gj D y p.2 r (h.2 H))
  .exact h.elim
 | .block id x,p,M,B,q,a,w,Q,r,h=>by
  rw[eu] at h;refine wpIn_block (vM (Gj D x (by simpa[pq] using p) r h) fun e J L O => ?_);obtain ⟨S,σ',u,v,rfl,hq,g,d⟩:=O;cases S with
  | normal=>exact ⟨.normal,σ',u,v,rfl,hq,g,d⟩
  | ret=>exact ⟨.ret,σ',u,v,rfl,hq,g,d⟩
  | exit i =>
   simp only[AX.toExit,Exit.inBlock];simp only[PX] at hq;split
   .rename_i e; rw[ah e] at hq; exact ⟨.normal,σ',u,v,rfl,hq,g,d⟩
   .rename_i e; rw[aV e] at hq; exact ⟨.exit i,σ',u,v,rfl,hq,g,d⟩
 | .scope x,p,_,_,_,_,_,_,_,_=>by simp[pq] at p
 | .loop x,p,M,B,q,a,w,Q,r,h=>by
  rw[eu] at h;obtain ⟨k,hk⟩:=h;refine wpIn_loop_rounds k ?_;have Y:∀ (k:Nat) (Z:Mem) (B1:aS) (F:ASt) (a1:Act) (w1:World),dS E.n out m0 M B q a.tmps w Z B1 F a1.tmps w1->a1.defers=a.defers->OA m0 (eu E m0 x) Q k F->Code.roundsIn (KI l) n E.P x (x_ E out m0 M B q a.tmps w a.defers Q) k a1 w1:=by
   intro k;induction k with
   | zero=>intro Z B1 F a1 w1 _ _ h; exact h.elim
   | succ k ih =>
    intro Z B1 F a1 w1 d g h;obtain ⟨l,m,G,X,H⟩:=h;have C:=H9 d.inv G X;rw[roundsIn_succ];refine vM (Gj D x (by simpa[pq] using p) C.inv H) fun e J L O => ?_
    obtain ⟨S,σ',u,v,rfl,hq,z,b0⟩:=O;have I:=(d.trans C).trans b0;cases S with
    | normal=>exact ih u v σ' J L I (by rw[z,g]) hq
    | ret=>exact ⟨.ret,σ',u,v,rfl,hq,by rw[z,g],I⟩
    | exit i=>exact ⟨.exit i,σ',u,v,rfl,hq,by rw[z,g],I⟩
  exact Y k M B q a w (dS.refl r) rfl hk
 | .rangeFunc f ps az b,_,_,_,_,_,_,_,_,h=>by rw[eu] at h; exact h.elim
 | .goto l,_,_,_,_,_,_,_,_,h=>by rw[eu] at h; exact h.elim
 | .refuse l,_,_,_,_,_,_,_,_,h=>by rw[eu] at h; exact h.elim
end
structure rq (l n:Nat) (out:Nat->Nat) (m0:Nat) (M:Mem) (B:aS) (σ:ASt) (t:Array Value) (w:World) (M':Mem) (B':aS) (σ':ASt) (t':Array Value) (w':World):Prop where
 inv:Inv n M' B' out σ' t' w'
 mem:∀ (b o:Nat) (v:Value),M b o=some v->M' b o=some v
 pre:∀ (i:Nat) (c:Nat×Nat×TypeId),i<m0->B[i]? = some c->B'[i]? = some c
 os:w'.os=w.os
 tape:w'.tape=w.tape
 output:w'.output=w.output
 size:w.heap.size<=w'.heap.size
 blk:∀ b,b<w.heap.size->b≠l->fp B σ t w b=0->w'.heap[b]? = w.heap[b]? /\ ∀ o,M' b o=M b o
 own:∀ b,b<w.heap.size->fp B' σ' t' w' b<=fp B σ t w b
section
variable {n l:Nat} {out:Nat->Nat} {m0:Nat} {M M1 M2:Mem} {B B1 B2:aS} {σ σ1 σ2:ASt} {t t1 t2:Array Value} {w w1 w2:World}
def dS.gl (h:dS n out m0 M B σ t w M1 B1 σ1 t1 w1):rq l n out m0 M B σ t w M1 B1 σ1 t1 w1 :=⟨h.inv,h.mem,h.pre,h.fr.os,h.fr.tape,h.fr.output,h.fr.size,fun b a _ c=>h.fr.blk b a c,h.own⟩
theorem rq.trans (h:rq l n out m0 M B σ t w M1 B1 σ1 t1 w1) (k:rq l n out m0 M1 B1 σ1 t1 w1 M2 B2 σ2 t2 w2):rq l n out m0 M B σ t w M2 B2 σ2 t2 w2 :=
 ⟨k.inv,fun b o v e=>k.mem b o v (h.mem b o v e),fun i c d e=>k.pre i c d (h.pre i c d e),k.os.trans h.os,k.tape.trans h.tape,k.output.trans h.output,lD h.size k.size,
  fun b a f g=>by obtain ⟨j,m⟩:=h.blk b a f g;obtain ⟨k1,k2⟩:=k.blk b (TJ a h.size) f (by have:=h.own b a; omega);simp_all,
  fun b a=>lD (k.own b (TJ a h.size)) (h.own b a)⟩
def Uc (a:Inv n M B out σ t w) (b:1<=out l):fp B σ t w l=0:=by have:=a.cnt l; omega
variable {c0:Loop}
theorem aCI (a:Inv n M B out σ t w) (e:1<=out l) (g:w.heap[l]? = some (.loop c0)) (c:Loop):rq l n out m0 M B σ t w M B σ t (w.putObj l (.loop c)):=by
 have i:=Uc a e;have d:=a.ext (M':=M) (w':=w.putObj l (.loop c)) (eH.refl _ _) (fun b o v h=>by
  obtain ⟨j,m⟩:=a.mem b o v h;grind [World.cell?,World.putObj_heap_other]) (fun b p=>by
  grind [World.putObj_heap_other]) (by simp)
 exact ⟨d.1,fun _ _ _ h=>h,fun _ _ _ h=>h,rfl,rfl,rfl,by simp,fun b _ f _=>⟨World.putObj_heap_other f,fun _=>rfl⟩,fun b _=>by rw[d.2]; omega⟩
def X5 (b:Inv n M B out σ t w) (c:1<=out l) (a:w.heap[l]? = some (.loop c0)) (d:dS n out m0 M B σ t w M1 B1 σ1 t1 w1):w1.heap[l]? = some (.loop c0):=by have e:l<w.heap.size:=(zf.1 a).1;rw[(d.fr.blk l e (Uc b c)).1]; exact a
end
def AX.jump:AX->Option Code
 | .normal=>none
 | .ret=>some .ret
 | .exit i=>some (.exit i)
variable {a:World} {b:Nat}
def a3Z {o o':Obj} (h:a.heap[b]? = some o):(a.putObj b o').heap[b]? = some o':=by have c:b<a.heap.size:=(zf.1 h).1;simp[World.putObj,c]
theorem bYG {E:AE} (L:E.P.follows .mixedOrders=true) {assign b:Code} (O:pq assign=true) (S:pq b=true) {n l m0:Nat} {o:Nat->Nat} {M:Mem} {B:aS} {A:ASt} {t:Array Value} {w:World} {f:FuncId}
 (N:Inv E.n M B o A t w) (z:1<=o l) {r:Loop} (T:w.heap[l]? = some (.loop r)) (C:r.state = .ready) {Q:AX->ASt->Prop}
 (h:eu E m0 assign (Eo (eu E m0 b Q) fun _ _=>False) A) {R:Ending->World->Prop}
 (D:∀ m y U V X F,Q m y->rq l E.n o m0 M B A t w U V y X F->F.heap[l]? = some (.loop { r with state:=if m.jump.isNone then .ready else .done,pending:=m.jump })->R (.returned (.bool m.jump.isNone)) F) :
 RoundIn Fence.wide n E.P l f t assign b w R:=by
 refine roundIn_of_wpIn trivial ?_;refine vM (Gj (n:=n) (l:=l) L assign O (a := { tmps:=t,defers := [] }) N h) fun e a1 w1 G => ?_
 obtain ⟨m,Y,M1,B1,rfl,hq,hd,H⟩:=G;cases m with
 | ret=>exact hq.elim
 | exit i=>exact hq.elim
 | normal =>
  have p:=X5 N z T H;have q:=aCI (m0:=m0) H.inv z p { r with state := .busy };refine ⟨_,run_beginRound p C,?_⟩;have I:=a3Z (o' := .loop { r with state := .busy }) p;refine vM (Gj (n:=n) (l:=l) L b S (a:=a1) q.inv hq) fun e a2 w2 G => ?_
  obtain ⟨m,u,J,K,rfl,v,Z,x⟩:=G;have c:=X5 q.inv z I x;have d:=fun j=>run_endRound (P:=E.P) j c
  have g:=fun j=>(((H.gl.trans q).trans x.gl).trans (aCI (m0:=m0) x.inv z c { ({ r with state := .busy }:Loop) with state:=if Option.isNone j then .ready else .done,pending:=j }))
  cases m with
  | normal=>exact ⟨_,_,d none,D .normal u J K a2.tmps _ v (g none) (a3Z c)⟩
  | ret=>exact ⟨_,_,d (some .ret),D .ret u J K a2.tmps _ v (g (some .ret)) (a3Z c)⟩
  | exit i=>exact ⟨_,_,d (some (.exit i)),D (.exit i) u J K a2.tmps _ v (g (some (.exit i))) (a3Z c)⟩
variable {e7:gV}
theorem aC3 (h:∀ c,c∈e7->c.2.own=false) (t:Array Value) (b:Nat):jR e7 t b=0:=by
 induction e7 with
 | nil=>rfl
 | cons a l d =>grind [jR,ed]
variable {b3:Nat->Nat} {D:Mem} {A:aS} {T:ASt} {O:Array Value}
theorem aQH {n':Nat} {tr:Array Value} (f:Inv b D A b3 T O a) {sr:gV} (g:tr.size=n') (i:ji sr)
 (e:∀ d,d∈sr->d.1<n'/\eU D A d.2 (tr.getD d.1 undef)/\d.2.own=false):Inv n' D A (fun c=>b3 c+jR T.s O c) ⟨sr,T.h⟩ tr a:=by
 have l:∀ c,jR sr tr c=0:=aC3 (fun d hk=>(e d hk).2.2) tr;refine ⟨g,f.mem,i,fun k p hk => ?_,f.heap,fun c => ?_,fun c j => ?_⟩
 .obtain ⟨m,o,q⟩:=e _ (a4V hk);grind [gU]
 .have:=f.cnt c; grind [fp]
 .have:=f.new c j; grind [fp]
variable {b4:aS}
theorem b'I (h:∀ (i:Nat) (c:Nat×Nat×TypeId),i<A.length->A[i]? = some c->b4[i]? = some c):b4.take A.length=A:=by apply Ol;grind
variable {J c5:Nat} {b9:Mem} {c9:ASt} {c6:Array Value} {c8:World}
theorem aZ3 {l m0:Nat} {σr:ASt} {t u:Array Value} (m:Inv J D A b3 T t a) (K:1<=b3 l)
 (L:σr.h=T.h) (y:∀ v,v∈σr.s->v.2.own=false) (z:m0=T.h.length)
 (c:rq l c5 (fun b=>b3 b+jR T.s t b) m0 D A σr c6 a b9 b4 c9 u c8) (f:BK m0 (c9.h.take m0)=true) :
 rq l J b3 m0 D A T t a b9 A { T with h:=c9.h.take m0 } t c8:=by
 have C:m0=A.length:=by rw[z]; exact m.heap.1
 have d:=H9 (m0:=m0) (l := []) c.inv (dG _) (by simp_all);have E:b4.take m0=A:=by rw[C] at c ⊢;exact b'I c.pre
 rw[E] at d;have q:eH D b9 A A:=⟨c.mem,fun _ _ h=>h⟩;have g:∀ b,fp A σr c6 a b=aT a T.h A b:=fun b=>by grind [fp,aC3]
 have i:∀ b,fp A (c9.gc [] m0) u c8 b=aT c8 (c9.h.take m0) A b:=fun b=>by grind [fp,ASt.gc,aC3]
 have j:∀ b,1<=jR T.s t b->c8.heap[b]? = a.heap[b]? /\ ∀ o,b9 b o=D b o:=fun b x=>by have r:=m.cnt b;simp only[fp] at r;refine c.blk b (Ri m (by simp only[fp]; omega)) (fun e=>by grind) ?_;rw[g]; omega
 refine ⟨⟨m.size,d.inv.mem,m.iQ,fun k p hk => ?_,d.inv.heap,fun b => ?_,fun b f => ?_⟩,c.mem,fun _ _ _ h=>h,c.os,c.tape,c.output,c.size,fun b f F G => ?_,fun b f => ?_⟩
 .obtain ⟨s1,H,I⟩:=m.slots k p hk;refine ⟨s1,H.mono q,I.kept fun b f=>j b ?_⟩;have N:=FW (s:=T.s) (t:=t) (k:=k) (b:=b);grind [qQ]
 .have:=d.inv.cnt b;rw[i] at this;simp only[fp]; omega
 .have:=d.inv.new b f;rw[i] at this;simp only[fp]; omega
 .simp only[fp] at G;exact c.blk b f F (by rw[g]; omega)
 .have x:=c.own b f;have r:=d.own b (TJ f c.size);rw[i] at r;rw[g] at x;simp only[fp]; omega
variable {U:Oper} {b':Act} {c0:Loop} {d1:Act->World->Prop} {d2:Exit->Act->World->Prop}
theorem c0Z {E E':AE} (z:E'.P=E.P) (G:E.P.follows .mixedOrders=true) {c:Call} (H:U.op = .call c) {f:Operand} (C:c.callee = .value f) 
 (hv:b'.eval f = .func (.yield J) #[] #[])
 (F:Inv E.n D A b3 T b'.tmps a) (I:1<=b3 J) (L:a.heap[J]? = some (.loop c0)) (v:c0.state = .ready) (N:pq c0.assign=true) (O:pq c0.body=true)
 (S:c.args.size=c0.params.size) {sr:gV} (V:ji sr)
 (X:((c0.params.zip (c.args.map b'.eval)).foldl (fun d (t,b')=>d.setIfInBounds t b') c0.tmps).size=E'.n)
 (j:∀ i,i∈sr->i.1<E'.n/\eU D A i.2 (((c0.params.zip (c.args.map b'.eval)).foldl (fun d (t,b')=>d.setIfInBounds t b') c0.tmps).getD i.1 undef)/\i.2.own=false)
 {Q:AX->ASt->Prop} (h:eu E' T.h.length c0.assign (Eo (eu E' T.h.length c0.body Q) fun _ _=>False) ⟨sr,T.h⟩)
 (x:∀ g e,Q g e->BK T.h.length (e.h.take T.h.length)=true)
 
 (Y:∀ g e y m,Q g e->rq J E.n b3 T.h.length D A T b'.tmps a y A { T with h:=e.h.take T.h.length } b'.tmps m ->
  m.heap[J]? = some (.loop { c0 with state:=if g.jump.isNone then .ready else .done,pending:=g.jump })->d1 (b'.put U.dst (.bool g.jump.isNone)) m) :
 U.wpIn Fence.wide b E.P b' a d1 d2:=by
 refine ⟨fun _ _=>trivial,?_⟩;rw[show Fence.wide.round=none from rfl,Oper.semAt_none];have p:(execOp b'.eval U).run E.P a = .ok (.round J c0.fn ((c0.params.zip (c.args.map b'.eval)).foldl (fun d (t,b')=>d.setIfInBounds t b') c0.tmps) c0.assign c0.body) a:=by obtain ⟨u,Yj,Z⟩:=c;simp only at C;subst C;grind [execOp,resolve,Deferred.ofValue,invoke,run_yield]
 rw[p,Oper.uponIn_round];refine ⟨fun h=>by simp[Fence.wide] at h,?_⟩;rw[<- z];refine bYG (E:=E') (m0:=T.h.length) (by rw[z]; exact G) N O (aQH F X V j) (by omega) L v h fun g e y B' t' m hq hG q => ?_
 exact Y g e y m hq (aZ3 (σr:=⟨sr,T.h⟩) F I rfl (fun i hk=>(j i hk).2.2) rfl hG (x g _ hq)) q
variable {Z:Program}
theorem bUI (h:U.wp Z b' a d1 d2):U.wpIn Fence.wide b Z b' a d1 d2:=by
 refine ⟨fun _ _=>trivial,?_⟩;rw[show Fence.wide.round=none from rfl,Oper.semAt_none];unfold Oper.wp at h;generalize (execOp b'.eval U).run Z a=r at *;cases r with
 | ok x d =>
  cases x<;>simp only[Oper.upon,Oper.uponIn] at h ⊢ <;>
   first
    | exact h
    | exact h.elim
    | exact ⟨fun h=>by simp[Fence.wide] at h,callsIn_wide.2 h⟩
    | exact ⟨fun h=>by simp[Fence.wide] at h,fun c e _=>let ⟨v,d,r,s⟩:=h c e; ⟨v,d,r,stepsIn_wide.2 s⟩⟩
 | halt x d=>cases x<;>simp only[Oper.upon,Oper.uponIn] at h ⊢ <;> exact h
section
variable {E:AE} {out:Nat->Nat}
theorem YT {n:Nat} {c:Array Oper} {Q:Exit->Act->World->Prop} {rest:List Oper}:∀ (l:List Oper) {M:Mem} {B:aS} {e:ASt} {a:Act} {w:World} {K:ASt->Prop},Inv E.n M B out e a.tmps w->mV E c l K e ->
 (∀ d z A r t,K d->Good E.n out M B e a.tmps w z A d r.tmps t->r.defers=a.defers->wpListIn Fence.wide n E.P c Q rest r t)->wpListIn Fence.wide n E.P c Q (l ++ rest) a w
 | [],M,B,e,a,w,K,p,h,q=>q e M B a w h (Good.refl p) rfl
 | o::l,M,B,e,a,w,K,p,h,q=>by
  have run:xk E o (mV E c l K) e->o.wpIn Fence.wide n E.P a w (wpListIn Fence.wide n E.P c Q (l ++ rest)) Q:=fun h =>bUI (YS p h fun v d z A t C i=>YT l i.inv C fun f u x a2 w2 hk g y=>q f u x a2 w2 hk (i.trans g) (by rw[y,Act.IE]))
  have skip:jZ E o.dst (.tuple []) e (mV E c l K)->wpListIn Fence.wide n E.P c Q (l ++ rest) (a.put o.dst undef) w:=fun h=>by
   unfold jZ at h;split at h
   .rename_i d D;have i:=J_ p D;exact YT l i.inv h fun f u x a2 w2 hk g y=>q f u x a2 w2 hk (i.trans g) (by rw[y,Act.IE])
   simp_all
  rw[mV] at h;rw[qF];unfold wpListIn;split at h
  grind [Region.wanted]
  .rename_i j m G;split at h
   .rename_i hv;rw[aV (by grind [Region.wanted,Qg])];exact ⟨fun _ _=>trivial,skip h⟩
   .rename_i b hv;by_cases F:b=m;grind [Region.wanted,Qg]
    .rw[aV (by grind [Region.wanted,Qg])];exact ⟨fun _ _=>trivial,skip (h.2 F)⟩
   simp_all
end
open Classical in
def Rf (b:AX) (a:ASt):AX->ASt->R:=fun e c=>if e=b/\c=a then some (.nilp,[]) else none
variable {d3:Code}
theorem Jw {X:XE} (d:zV X.V) (f:uq X.W) (g:pU X.E.P X.C) (i:Jh X) {a:AX} (h:∀ K:AX->ASt->R,bC X d3 K T=K a c9) :
 eu X.E X.m0 d3 (fun e b=>e=a/\b=c9) T:=by
 have j:bC X d3 (Rf a c9) T=some (.nilp,[]):=by rw[h]; simp[Rf]
 grind [wZ,Rf]
variable {d4:SE} {b1:AE}
def Y1 (d:d4.P.follows .mixedOrders=true) (a:d4.OK) (e:pU d4.P d4.C0) (g:d4.wp b1=b1):Jh (d4.xe d4.CC d4.LL b1 b):=fun l m x K c v hv=>by obtain ⟨n,i⟩:=(aBA (f:=fun n=>(d4.bD n).2 b1 b l m x K (c.gc l m)) fun n v hv=>(IM a n).2 _ _ _ _ _ _ _ _ _ (fun _ _ _ h=>h) hv).1 hv;exact ⟨n,(aEE d a e n).2 b1 b l m x K c v g i⟩
def Ak (a:Loop) (j:AX):Loop := { a with state:=if j.jump.isNone then .ready else .done,pending:=j.jump }
def RG (n l:Nat) (g:Loop) (b:Nat->Nat) (h:Nat) (M:Mem) (B:aS) (i:ASt) (t:Array Value) (w:World) (m:List Deferred) (Q:AX->ASt->AX->Prop) (e:Exit) (c:Act) (d:World):Prop :=∃ f a j o p,e=f.toExit/\Q f a j/\c.defers=m/\rq l n b h M B i t w o p a c.tmps d/\d.heap[l]? = some (.loop (Ak g j))
def U1 (b:gV) (c d:Nat) (e:Array Value) (M:Mem) (B:aS):Prop:=∀ a,a∈b->a.1<c/\eU M B a.2 (e.getD a.1 undef)/\a.2.own=false/\a.2.blw d=true
theorem U1.mono (h:U1 e7 b J O D A) (e:∀ (a o:Nat) (v:Value),D a o=some v->b9 a o=some v)
 (n:∀ (i:Nat) (c:Nat×Nat×TypeId),i<J->A[i]? = some c->b4[i]? = some c):U1 e7 b J O b9 b4:=fun f hk=>by
 obtain ⟨g,j,l,d⟩:=h f hk;refine ⟨g,(j.blw d).mono ⟨e,fun i c m => ?_⟩,l,d⟩;rw[nN] at m;grind
structure YC where
 E:AE
 E':AE
 l:Nat
 m0:Nat
 rc:Loop
 out:Nat->Nat
 sO:gV
structure YC.OK (Y:YC):Prop where
 hm:Y.E.P.follows .mixedOrders=true
 hP:Y.E'.P=Y.E.P
 ho:1<=Y.out Y.l
def Tr (Y:YC) (c:Code) (Q:AX->ASt->AX->Prop) (j:AX) (b:ASt):Prop :=
 ∀ (n:Nat) (M:Mem) (B:aS) (a:Act) (w:World),Inv Y.E.n M B Y.out b a.tmps w->w.heap[Y.l]? = some (.loop (Ak Y.rc j))->U1 Y.sO Y.E'.n Y.m0 Y.rc.tmps M B ->
  c.wpIn Fence.wide n Y.E.P (RG Y.E.n Y.l Y.rc Y.out Y.m0 M B b a.tmps w a.defers Q) a w
def aY3 (k:ASt->AX->Prop) (Q:AX->ASt->AX->Prop):AX->ASt->AX->Prop
 | .normal,a,j=>k a j
 | e,a,j=>Q e a j
def aHY (id:Nat) (Q:AX->ASt->AX->Prop):AX->ASt->AX->Prop
 | .exit i,a,j=>if i=id then Q .normal a j else Q (.exit i) a j
 | e,a,j=>Q e a j
def aSP {w1:World} {d:List Deferred} {Q:AX->ASt->AX->Prop} (h:rq J b b3 c5 D A T O a b9 b4 c9 c6 w1) {e:Exit} 
 (k:RG b J c0 b3 c5 b9 b4 c9 c6 w1 d Q e b' c8):RG b J c0 b3 c5 D A T O a d Q e b' c8:=by
 obtain ⟨f,c,j,g,i,m,o,p,q,r⟩:=k;exact ⟨f,c,j,g,i,m,o,p,h.trans q,r⟩
section
variable {Y:YC} {c:Code} {Q:AX->ASt->AX->Prop} {j:AX} {σ:ASt}
def Tr.mono {d:AX->ASt->AX->Prop} (h:Tr Y c Q j σ) (hq:∀ e σ j,Q e σ j->d e σ j):Tr Y c d j σ:=fun n M B a w f g i=>by
 refine vM (h n M B a w f g i) fun e y z l => ?_
 obtain ⟨m,b,o,p,q,r,t,u,v,x⟩:=l;exact ⟨m,b,o,p,q,r,hq _ _ _ t,u,v,x⟩
def Tr.aBV (f:Y.OK) {g:AX->ASt->Prop} (h:eu Y.E Y.m0 c g σ) (hq:∀ e b,g e b->Q e b j):Tr Y c Q j σ:=fun n M B a w i m u=>by refine wpIn_wide.2 (wp_mono (xm (out:=Y.out) f.hm c i h) fun e v x o => ?_);obtain ⟨p,b,q,r,rfl,d,t,l⟩:=o;exact ⟨p,b,j,q,r,rfl,hq _ _ d,t,l.gl,X5 i f.ho m l⟩
def Tr.gc {l:List Nat} {m:Nat} (d:Y.m0<=m) (f:F7 l m σ=true) (h:Tr Y c Q j (σ.gc l m)):Tr Y c Q j σ:=fun n M B a w g i o=>by have b:=H9 (m0:=Y.m0) g d f;exact vM (h n M _ a w b.inv i (o.mono b.mem b.pre)) fun e q r p=>aSP b.gl p
def Tr.seq {x y:Code} (h:Tr Y x (aY3 (fun b g=>Tr Y y Q g b) Q) j σ):Tr Y (.seq x y) Q j σ:=fun n M B a w q r p=>by
 refine Ov (vM (h n M B a w q r p) fun e t u v => ?_);obtain ⟨z,b,g,l,m,rfl,hq,o,d,c⟩:=v;cases z with
 | normal=>exact vM (hq n l m t u d.inv c (p.mono d.mem d.pre)) fun e a2 w2 f=>by rw[o] at f; exact aSP d f
 | ret=>exact ⟨.ret,b,g,l,m,rfl,hq,o,d,c⟩
 | exit i=>exact ⟨.exit i,b,g,l,m,rfl,hq,o,d,c⟩
variable {I:Operand}
def Tr.cond {x y:Code} {b:Bool} (c:σ.rd I=some (.bool b)) (g:b=true->Tr Y x Q j σ) (h:b=false->Tr Y y Q j σ):Tr Y (.cond I x y) Q j σ:=fun n M B a w d e f =>wpIn_cond_split (kw.1 (d.rd _ _ c).1) (fun c=>g c n M B a w d e f) (fun c=>h c n M B a w d e f)
def Tr.block {id:Nat} {x:Code} (h:Tr Y x (aHY id Q) j σ):Tr Y (.block id x) Q j σ:=fun n M B a w o p q=>by
 refine wpIn_block (vM (h n M B a w o p q) fun e u v r => ?_);obtain ⟨t,b,d,f,g,rfl,hq,l,m,c⟩:=r;cases t with
 | normal=>exact ⟨.normal,b,d,f,g,rfl,hq,l,m,c⟩
 | ret=>exact ⟨.ret,b,d,f,g,rfl,hq,l,m,c⟩
 | exit i =>
  simp only[AX.toExit,Exit.inBlock];simp only[aHY] at hq;split
  .rename_i e; rw[ah e] at hq; exact ⟨.normal,b,d,f,g,rfl,hq,l,m,c⟩
  .rename_i e; rw[aV e] at hq; exact ⟨.exit i,b,d,f,g,rfl,hq,l,m,c⟩
def Tr.scope {x:Code} (h:Tr Y x Q j σ):Tr Y (.scope x) Q j σ:=fun n M B a w d f g=>by refine wpIn_wide.2 (wp_scope_straight (wp_mono (wpIn_wide.1 (h n M B a w d f g)) fun e t u i => ?_));obtain ⟨l,b,m,o,p,rfl,hq,q,r,c⟩:=i;cases l<;>exact ⟨_,b,m,o,p,rfl,hq,q,r,c⟩
def Tr.ret (h:Q .ret σ j):Tr Y .ret Q j σ:=fun n M B a w b c d=>wpIn_ret ⟨.ret,σ,j,M,B,rfl,h,rfl,(dS.refl b).gl,c⟩
def Tr.exit (h:Q (.exit b) σ j):Tr Y (.exit b) Q j σ:=fun n M B a w c d e=>wpIn_exit ⟨.exit b,σ,j,M,B,rfl,h,rfl,(dS.refl c).gl,d⟩
def Tr.skip (h:Q .normal σ j):Tr Y .skip Q j σ:=fun n M B a w b c d=>wpIn_skip ⟨.normal,σ,j,M,B,rfl,h,rfl,(dS.refl b).gl,c⟩
def Tr.label (h:Q .normal σ j):Tr Y (.label b) Q j σ:=fun n M B a w c d e=>wpIn_label ⟨.normal,σ,j,M,B,rfl,h,rfl,(dS.refl c).gl,d⟩
def U6 (Y:YC) (x:Code) (Q:AX->ASt->AX->Prop):Nat->AX->ASt->Prop
 | 0,_,_=>False
 | k+1,j,σ=>Tr Y x (aY3 (fun a b=>U6 Y x Q k b a) Q) j σ
def Tr.loop {x:Code} (h:U6 Y x Q b j σ):Tr Y (.loop x) Q j σ:=fun n M B a w D F G=>by
 refine wpIn_loop_rounds b ?_;have t:∀ (b:Nat) (o:AX) (p:Mem) (q:aS) (c:ASt) (a1:Act) (w1:World),rq Y.l Y.E.n Y.out Y.m0 M B σ a.tmps w p q c a1.tmps w1->w1.heap[Y.l]? = some (.loop (Ak Y.rc o))->a1.defers=a.defers->U6 Y x Q b o c ->
  Code.roundsIn Fence.wide n Y.E.P x (RG Y.E.n Y.l Y.rc Y.out Y.m0 M B σ a.tmps w a.defers Q) b a1 w1:=by
  intro b;induction b with
  | zero=>intro o p q c a1 w1 _ _ _ h; exact h.elim
  | succ b H =>
   intro o p q c a1 w1 r u v h;rw[roundsIn_succ];refine vM (h n p q a1 w1 r.inv u (G.mono r.mem r.pre)) fun e I J K => ?_
   obtain ⟨L,d,y,z,A,rfl,hq,f,C,g⟩:=K;have m:=r.trans C;cases L with
   | normal=>exact H y z A d I J m g (by rw[f,v]) hq
   | ret=>exact ⟨.ret,d,y,z,A,rfl,hq,by rw[f,v],m,g⟩
   | exit i=>exact ⟨.exit i,d,y,z,A,rfl,hq,by rw[f,v],m,g⟩
 exact t b j M B σ a w (dS.refl D).gl F rfl h
def rq.weak {f:Nat} {σ d:ASt} {w1:World} (h:rq b J b3 f D A σ O a b9 b4 d c6 w1) (g:c5<=f):rq b J b3 c5 D A σ O a b9 b4 d c6 w1 :=⟨h.inv,h.mem,fun i c j e=>h.pre i c (by omega) e,h.os,h.tape,h.output,h.size,h.blk,h.own⟩
theorem Tr.yield (L:Y.OK) {id:Nat} {A:Array Oper} {pre post:List Oper} (N:A.toList=pre ++ U::post)
 {K:Call} (a':U.op = .call K) (hg:U.guard=none) {x y:Operand} (hf:K.callee = .value I) (m:K.args = #[x,y]) (hp:Y.rc.params = #[b,J]) (c3:b<J) (c4:J<Y.E'.n)
 (b0:∀ O,O∈Y.sO->O.1<b) (c5:ji Y.sO) (hn:Y.rc.tmps.size=Y.E'.n) (ha:pq Y.rc.assign=true) (hb:pq Y.rc.body=true)
 (h:mV Y.E A pre (fun g=>∃ X Z Q1,g.rd I=some (.func (.yield Y.l) [] [])/\g.rd x=some X/\g.rd y=some Z/\Y.m0<=g.h.length /\
  eu Y.E' g.h.length Y.rc.assign (Eo (eu Y.E' g.h.length Y.rc.body Q1) fun _ _=>False) ⟨Y.sO ++ [(b,X),(J,Z)],g.h⟩ /\
  ∀ z i,Q1 z i->BK g.h.length (i.h.take g.h.length)=true/\jZ Y.E U.dst (.bool z.jump.isNone) { g with h:=i.h.take g.h.length } fun F=>mV Y.E A post (fun C=>Q .normal C z) F) (σ.head Y.E)) :
 Tr Y (.region id A false) Q .normal σ:=fun n M B a w hI hr hO=>by
 have hk:=OD (E:=Y.E) hI;refine wpIn_region_list ?_;rw[N];refine YT pre hk.inv h fun g M1 B1 a1 w1 hh r b1 => ?_
 obtain ⟨X,Z,Q1,b2,hx,hy,b3,G,j⟩:=hh;have D:dS Y.E.n Y.out Y.m0 M B σ a.tmps w M1 B1 g a1.tmps w1:=(hk.trans r).c;have b4:=X5 hI L.ho hr D;have b5:=hO.mono D.mem D.pre;unfold wpListIn;rw[ah (by simp[Region.wanted,hg])];have b6:a1.eval I = .func (.yield Y.l) #[] #[]:=by obtain ⟨f',c',e,h1,h2⟩:=Am.1 (r.inv.rd _ _ b2).1;rw[fA] at h1 h2;rw[e]; congr 1<;>(grind)
 have c6:=r.inv.rd _ _ hx;have c8:=r.inv.rd _ _ hy;have b7:((Ak Y.rc .normal).params.zip (K.args.map a1.eval)).foldl (fun u (t,a)=>u.setIfInBounds t a) (Ak Y.rc .normal).tmps=(Y.rc.tmps.setIfInBounds b (a1.eval x)).setIfInBounds J (a1.eval y):=by show (Y.rc.params.zip (K.args.map a1.eval)).foldl (fun u (t,a)=>u.setIfInBounds t a) Y.rc.tmps=_;rw[hp,m]; simp
 refine c0Z (E':=Y.E') L.hP L.hm a' hf b6 r.inv L.ho b4 rfl ha hb (by show K.args.size=Y.rc.params.size; rw[m,hp]; rfl) (sr:=Y.sO ++ [(b,X),(J,Z)]) ?_ ?_ (fun O hk => ?_) (Q:=Q1) G (fun z i hq=>(j z i hq).1) fun z i M' w' b8 H S => ?_
 grind [ji]
 grind
 .rw[b7];rcases LK.1 hk with hk | hk
  .obtain ⟨h1,h2,h3,h4⟩:=b5 O hk;have:=b0 O hk;grind [Qb]
  grind [Qb,VY]
 .obtain ⟨_,v⟩:=j z i b8;unfold jZ at v;split at v
  .rename_i F b9;have T:Good Y.E.n Y.out M' B1 { g with h:=i.h.take g.h.length } a1.tmps w' M' B1 F (a1.put U.dst (.bool z.jump.isNone)).tmps w' :=(Pre.plain H.inv (kw.2 rfl) (fun d=>ed rfl _ _) (gU rfl)).put b9;have b':w'.heap[Y.l]? = some (.loop (Ak Y.rc z)):=S;have:=YT (n:=n) (Q:=RG Y.E.n Y.l Y.rc Y.out Y.m0 M B σ a.tmps w a.defers Q) (rest := []) post T.inv v fun C M3 B3 a3 w3 c0 c1 c2=>by have V:dS Y.E.n Y.out Y.m0 M' B1 { g with h:=i.h.take g.h.length } a1.tmps w' M3 B3 C a3.tmps w3:=(T.trans c1).c;show RG Y.E.n Y.l Y.rc Y.out Y.m0 M B σ a.tmps w a.defers Q .normal a3 w3;exact ⟨.normal,C,z,M3,B3,rfl,c0,by rw[c2,Act.IE,b1],(D.gl.trans (H.weak b3)).trans V.gl,X5 H.inv L.ho b' V⟩
   rwa [BB] at this
  simp_all
end
theorem bX8 {P:Program} {n:Nat} {t:Nat->Nat} {h:aH} {M:Mem} {B:aS} {w:World} {x:ASt} {S:Array Value} (l:rQ M B w h) (y:∀ b,fp B x S w b=aT w h B b)
 {T:Mem} {z:aS} {a:ASt} {J:Act} {o:World} (d:dS n t h.length M B x S w T z a J.tmps o) {U:Func} {G:PV} {h':aH} (e:O3 P U.results.toList h.length G h' a) (ro:List (List Nat×Bool)) :
 ∃ v,(results U J.tmps).run P o = .ok v o/\Post h B t M w (xx ro G) h' v T (z.take h'.length) o:=by
 obtain ⟨v,A,f,K,C⟩:=aW6 d.inv e;obtain ⟨X,L,D,N,_⟩:=e;generalize Y:h'.length=m at *;subst L;have Z:B.length=h.length:=l.1.symm;have q:=fun b=>aC0 (w:=o) m b a.h z
 have g:∀ b,aT o (a.h.take m) (z.take m) b+bY (xx ro G) v b<=fp z a J.tmps o b:=fun b=>by have:=q b; have:=C b; have:=aJM (ro:=ro) (r:=G) (v:=v) (b:=b); simp only[fp]; omega
 refine ⟨v,A,d.inv.mem,⟨d.mem,fun i c H => ?_⟩,d.fr.mono fun b I h0=>by rw[y]; exact h0,⟨by simp[d.inv.heap.1],fun i cs E => ?_⟩,aJN (f.blw D),aJO (f.blw D) K,fun b I => ?_,fun b => ?_,fun b I => ?_⟩
 .have F:=(iY.1 H).1;rw[nN,ah (by omega)];exact d.pre i c (by omega) H
 .have O:=E;rw[nN] at E;split at E
  .rename_i F;obtain ⟨c,H,vs,ty,o1,o2,o3,o4,o5⟩:=d.inv.heap.2 i cs E;refine ⟨c,by rw[nN,ah F]; exact H,vs,ty,o1,o2,o3,fun j p V => ?_,o5⟩;obtain ⟨u,a1,a2,a3,a4⟩:=o4 j p V;refine ⟨u,a1,a2.blw ?_,a3,a4⟩;have:=ja.1 N _ (qh O);exact YZ.1 this p (qh V)
  .cases E
 .have Q:=d.own b I; rw[y] at Q; grind
 .have Q:=d.inv.cnt b; have:=g b; omega
 .have Q:=d.inv.new b I; have:=g b; omega
variable {a':aH}
theorem aXN {n:Nat} {args:ai} {vals:Array Value} (m:args.length<=n) (d:Ae D a) (c:rQ D A a a') (e:∀ b,aT a a' A b+b3 b<=1) (o:∀ b,a.heap.size<=b->aT a a' A b+b3 b=0)
 (hv:au D A args vals.toList):Inv n D A b3 ⟨nJ 0 args,a'⟩ (vals ++ Array.replicate (n-vals.size) undef) a:=by
 have g:=ou hv;simp only[Array.length_toList] at g;have f:∀ t b,fp A ⟨nJ 0 args,a'⟩ t a b=aT a a' A b:=fun t b=>by grind [fp,XI]
 refine ⟨by simp; omega,d,aEI.1,fun k p hk => ?_,c,fun b=>by rw[f]; exact e b,fun b u=>by rw[f]; simp_all⟩;obtain ⟨i,q,rfl,hq,rfl⟩:=aEH hk;obtain ⟨v,r,j⟩:=wB hv hq;have x:=(iY.1 hq).1;refine ⟨by omega,?_,gU (rH _)⟩;have l:vals[i]? = some v:=by simp_all
 have:(vals ++ Array.replicate (n-vals.size) undef).getD (0+i) undef=v:=by rw[rP,aFR,IZ (by omega),l]; rfl
 rw[this]; exact qB.2 j
theorem aXF {B:aS} {args:ai} {h:aH} (t:Array Value) (w:World) (b:Nat):fp B ⟨nJ 0 args,h⟩ t w b=aT w h B b:=by grind [fp,XI]
def zy (w:World) (a:Loop):World:=(w.alloc (.deferred (some []))).alloc (.loop a)
def Dx (a:Nat->Nat) (s b:Nat):Nat:=a b+(if b=s\/b=s+1 then 1 else 0)
section
variable {n:Nat} {out:Nat->Nat} {M:Mem} {B:aS} {σ:ASt} {t:Array Value} {w:World}
theorem a7Q (a:Loop) {b:Nat} (c:b<w.heap.size):(zy w a).heap[b]? = w.heap[b]? := by grind [zy,Below.heap_alloc]
def Yr (a:Loop):(zy w a).heap.size=w.heap.size+2:=by simp[zy]
def b3I (a:Loop):(zy w a).heap[w.heap.size+1]? = some (.loop a):=by have:=World.alloc_heap_new (w.alloc (.deferred (some []))) (.loop a);rwa [World.size_alloc] at this
def b3H (a:Loop):(zy w a).heap[w.heap.size]? = some (.deferred (some [])) :=(LC _ _ _ (by simp)).trans (World.alloc_heap_new w _)
theorem aIU (c:Inv n M B out σ t w) (d:Loop):Inv n M B (Dx out w.heap.size) σ t (zy w d)/\∀ b,fp B σ t (zy w d) b=fp B σ t w b:=by
 have a:=c.ext (M':=M) (w':=zy w d) (eH.refl _ _) (fun b o v h=>by
  obtain ⟨f,g⟩:=c.mem b o v h;have e:=zl _ _ f;grind [World.cell?_of_block,a7Q]) (fun b e=>by
  have i:b<w.heap.size:=Ri c (by omega);grind [a7Q]) (by rw[Yr]; omega)
 refine ⟨⟨a.1.size,a.1.mem,a.1.iQ,a.1.slots,a.1.heap,fun b => ?_,fun b e => ?_⟩,a.2⟩
 .rw[a.2];have f:=c.cnt b;unfold Dx;split
  .rename_i h;have:=c.new b (by omega);omega
  .omega
 .rw[a.2];rw[Yr] at e;have:=c.new b (by omega);grind [Dx]
theorem aVP {l m0:Nat} (a:Inv n M B out σ t w) (e:1<=out l) {f:Option (List Deferred)} (i:w.heap[l]? = some (.deferred f)) (c:Obj):rq l n out m0 M B σ t w M B σ t (w.putObj l c):=by
 have j:=Uc a e;have d:=a.ext (M':=M) (w':=w.putObj l c) (eH.refl _ _) (fun b o v h=>by
  obtain ⟨m,p⟩:=a.mem b o v h;grind [World.cell?,World.putObj_heap_other]) (fun b q=>by
  grind [World.putObj_heap_other]) (by simp)
 exact ⟨d.1,fun _ _ _ h=>h,fun _ _ _ h=>h,rfl,rfl,rfl,by simp,fun b _ g _=>⟨World.putObj_heap_other g,fun _=>rfl⟩,fun b _=>by rw[d.2]; omega⟩
theorem aSJ {l:Nat} (E:Inv n M B out σ t w) {p:Mem} {q:aS} {e:ASt} {r:Array Value} {w1:World} (d:rq (w.heap.size+1) n (Dx out w.heap.size) l M B σ t (zy w c0) p q e r w1)
 {u:Mem} {x:aS} {f:ASt} {y:Array Value} {z:World} (a:rq w.heap.size n (Dx out w.heap.size) l p q e r w1 u x f y z):dS n out l M B σ t w u x f y z:=by
 have he:=(aIU E c0).2;have H:=Yr (w:=w) c0;have g:∀ b,out b<=Dx out w.heap.size b:=fun b=>by unfold Dx; omega
 have F:=d.size;have G:=a.size;refine ⟨⟨a.inv.size,a.inv.mem,a.inv.iQ,a.inv.slots,a.inv.heap,fun b => ?_,fun b j => ?_⟩,fun b o v h=>a.mem b o v (d.mem b o v h),fun i c A h=>a.pre i c A (d.pre i c A h),⟨a.os.trans d.os,a.tape.trans d.tape,a.output.trans d.output,by omega,fun b j C => ?_⟩,fun b j => ?_⟩
 .have:=a.inv.cnt b; have:=g b; omega
 .have:=a.inv.new b j; have:=g b; omega
 .have m:=d.blk b (by omega) (by omega) (by rw[he]; exact C);have D:=d.own b (by omega);rw[he,C] at D;have I:=a.blk b (by omega) (by omega) (by omega);rw[a7Q c0 j] at m;simp_all
 .have m:=d.own b (by omega);have D:=a.own b (by omega);rw[he] at m; omega
def a_2 {a b:Value} {r:Array Value}:(#[a,b] ++ r).getD 0 undef=a:=by rw[aFR,IZ (by simp)]; rfl
def a_3 {a b:Value} {r:Array Value}:(#[a,b] ++ r).getD 1 undef=b:=by rw[aFR,IZ (by simp)]; rfl
end
inductive Sh where
 | I (k:IntKind)
 | B
 | S
 | L (o:Bool) (z:Nat)
 | Y
 | P
 | H (i j z:Nat)
 | M
 | C
 | pt (i j:Nat)
 | bd (t i:Nat)
 | rf
 | ni
 | fn (n:Nat)
@[reducible] def Sh.V : List Sh -> Type
 | []=>Unit
 | .I _::l=>Int×Sh.V l
 | .B::l=>Bool×Sh.V l
 | .S::l=>ByteArray×Sh.V l
 | .L _ _::l=>ai×Sh.V l
 | .Y::l=>f_×Sh.V l
 | .P::l=>PV×Sh.V l
 | .H _ _ _::l=>Nat×Sh.V l
 | .M::l=>ai×Sh.V l
 | .C::l=>ai×Sh.V l
 | .pt _ _::l=>Sh.V l
 | .bd _ _::l=>Sh.V l
 | .rf::l=>Sh.V l
 | .ni::l=>Sh.V l
 | .fn _::l=>Sh.V l
def o_:(a:List Sh)->Sh.V a->ai
 | [],_ => []
 | .I b::l,v => .int b v.1::o_ l v.2
 | .B::l,v => .bool v.1::o_ l v.2
 | .S::l,v => .str v.1::o_ l v.2
 | .L o z::l,v => .sl o z v.1::o_ l v.2
 | .Y::l,v => .dn v.1::o_ l v.2
 | .P::l,v=>v.1::o_ l v.2
 | .H i j z::l,v => .slh i j v.1 z::o_ l v.2
 | .M::l,v => .mp v.1::o_ l v.2
 | .C::l,v => .func (.yield 4242) v.1 []::o_ l v.2
 | .pt i j::l,v => .ptr i j::o_ l v
 | .bd t i::l,v => .dZ t i::o_ l v
 | .rf::l,v => .raw .nilFunc::o_ l v
 | .ni::l,v => .raw .nilIface::o_ l v
 | .fn n::l,v => .func (.func n) [] []::o_ l v
def ku:(b:List Sh)->ai->Option (Sh.V b)
 | [],a=>(match a with | []=>some () | _::_=>none)
 | .I g::b,a=>(match a with | .int e n::a=>(match decide (e=g) with | true=>(ku b a).map fun v=>(n,v) | false=>none) | _=>none)
 | .B::b,a=>(match a with | .bool n::a=>(ku b a).map fun v=>(n,v) | _=>none)
 | .S::b,a=>(match a with | .str n::a=>(ku b a).map fun v=>(n,v) | _=>none)
 | .L o z::b,a=>(match a with | .sl h f n::a=>(match h==o&&Nat.beq f z with | true=>(ku b a).map fun v=>(n,v) | false=>none) | _=>none)
 | .Y::b,a=>(match a with | .dn n::a=>(ku b a).map fun v=>(n,v) | _=>none)
 | .P::b,a=>(match a with | n::a=>(ku b a).map fun v=>(n,v) | _=>none)
 | .H i j z::b,a=>(match a with | .slh c d n f::a=>(match Nat.beq c i&&Nat.beq d j&&Nat.beq f z with | true=>(ku b a).map fun v=>(n,v) | false=>none) | _=>none)
 | .M::b,a=>(match a with | .mp n::a=>(ku b a).map fun v=>(n,v) | _=>none)
 | .C::b,a=>(match a with | .func (.yield m) n []::a=>(match Nat.beq m 4242 with | true=>(ku b a).map fun v=>(n,v) | false=>none) | _=>none)
 | .pt i j::b,a=>(match a with | .ptr c d::a=>(match Nat.beq c i&&Nat.beq d j with | true=>ku b a | false=>none) | _=>none)
 | .bd i j::b,a=>(match a with | .dZ c d::a=>(match Nat.beq c i&&Nat.beq d j with | true=>ku b a | false=>none) | _=>none)
 | .rf::b,a=>(match a with | .raw .nilFunc::a=>ku b a | _=>none)
 | .ni::b,a=>(match a with | .raw .nilIface::a=>ku b a | _=>none)
 | .fn m::b,a=>(match a with | .func (.func n) [] []::a=>(match Nat.beq n m with | true=>ku b a | false=>none) | _=>none)
variable {c1:Type}
theorem NW {a:Type} {o:Option a} {n:c1} {v:c1×a} (h:(o.map fun v=>(n,v))=some v):n=v.1/\o=some v.2:=by
 cases o with
 | none=>cases h
 | some w=>grind
theorem yJ:∀ (a:List Sh) (b:ai) (v:Sh.V a),ku a b=some v->o_ a v=b
 | [],b,v,h=>by
  unfold ku at h; split at h
  .rfl
  .cases h
 | .I e::a,b,v,h=>by
  unfold ku at h; split at h
  .split at h
   .rename_i hk; have hk:=TM hk; subst hk;obtain ⟨c,d⟩:=NW h; unfold o_; rw[yJ a _ _ d,c]
   .cases h
  .cases h
 | .B::a,b,v,h | .S::a,b,v,h | .Y::a,b,v,h | .P::a,b,v,h | .M::a,b,v,h=>by
  unfold ku at h; split at h
  .obtain ⟨c,d⟩:=NW h; unfold o_; rw[yJ a _ _ d,c]
  .cases h
 | .L o z::a,b,v,h=>by
  unfold ku at h; split at h
  .split at h
   .rename_i hk; simp only[bH,qG,LM] at hk; obtain ⟨rfl,rfl⟩:=hk;obtain ⟨c,d⟩:=NW h; unfold o_; rw[yJ a _ _ d,c]
   .cases h
  .cases h
 | .H i j z::a,b,v,h=>by
  unfold ku at h; split at h
  .split at h
   .rename_i hk; simp only[bH,LM] at hk; obtain ⟨⟨rfl,rfl⟩,rfl⟩:=hk;obtain ⟨c,d⟩:=NW h; unfold o_; rw[yJ a _ _ d,c]
   .cases h
  .cases h
 | .C::a,b,v,h=>by
  unfold ku at h; split at h
  .split at h
   .rename_i hk; simp only[LM] at hk; subst hk;obtain ⟨c,d⟩:=NW h; unfold o_; rw[yJ a _ _ d,c]
   .cases h
  .cases h
 | .pt i j::a,b,v,h | .bd i j::a,b,v,h=>by
  unfold ku at h; split at h
  .split at h
   .rename_i hk; simp only[bH,LM] at hk; obtain ⟨rfl,rfl⟩:=hk;unfold o_; rw[yJ a _ _ h]
   .cases h
  .cases h
 | .rf::a,b,v,h | .ni::a,b,v,h=>by
  unfold ku at h; split at h
  .unfold o_; rw[yJ a _ _ h]
  .cases h
 | .fn m::a,b,v,h=>by
  unfold ku at h; split at h
  .split at h
   .rename_i hk; simp only[LM] at hk; subst hk;unfold o_; rw[yJ a _ _ h]
   .cases h
  .cases h
def zS:List Sh->ai
 | [] => []
 | .pt i j::l => .ptr i j::zS l
 | .bd t i::l => .dZ t i::zS l
 | .rf::l => .raw .nilFunc::zS l
 | .ni::l => .raw .nilIface::zS l
 | .fn n::l => .func (.func n) [] []::zS l
 | _::l => .nilp::zS l
def Ii:List Sh->Bool
 | []=>true
 | .pt _ _::l | .bd _ _::l | .rf::l | .ni::l | .fn _::l=>Ii l
 | _::_=>false
theorem Oh:∀ (l:List Sh) (v:Sh.V l),Ii l=true->o_ l v=zS l
 | [],_,_=>rfl
 | .pt i j::l,v,h=>congrArg (_ :: ·) (Oh l v h)
 | .bd i j::l,v,h=>congrArg (_ :: ·) (Oh l v h)
 | .rf::l,v,h=>congrArg (_ :: ·) (Oh l v h)
 | .ni::l,v,h=>congrArg (_ :: ·) (Oh l v h)
 | .fn n::l,v,h=>congrArg (_ :: ·) (Oh l v h)
 | .I _::_,_,h | .B::_,_,h | .S::_,_,h | .L _ _::_,_,h | .Y::_,_,h | .P::_,_,h | .H _ _ _::_,_,h | .M::_,_,h | .C::_,_,h=>by cases h
@[reducible] def TV : List (Bool × List Sh) -> Type
 | []=>Unit
 | b::l=>Sh.V b.2×TV l
def Jk:(a:List (Bool×List Sh))->TV a->ai
 | [],_ => []
 | b::l,v=>bif b.1 then .agg (o_ b.2 v.1)::Jk l v.2 else (o_ b.2 v.1).headD .nilp::Jk l v.2
def rdT:(b:List (Bool×List Sh))->ai->Option (TV b)
 | [],a=>(match a with | []=>some () | _::_=>none)
 | (true,l)::b,a=>(match a with | .agg c::a=>(match ku l c with | some v=>(rdT b a).map fun w=>(v,w) | none=>none) | _=>none)
 | (false,l)::b,a=>(match a with | p::a=>(match ku l [p] with | some v=>(rdT b a).map fun w=>(v,w) | none=>none) | _=>none)
theorem aDM:∀ (a:List (Bool×List Sh)) (b:ai) (v:TV a),rdT a b=some v->Jk a v=b
 | [],b,v,h=>by
  unfold rdT at h; split at h
  .rfl
  .cases h
 | (true,l)::a,b,v,h=>by
  unfold rdT at h; split at h
  .split at h
   .rename_i e;obtain ⟨c,d⟩:=NW h; unfold Jk; rw[aDM a _ _ d,<- c,yJ _ _ _ e]; rfl
   .cases h
  .cases h
 | (false,l)::a,b,v,h=>by
  unfold rdT at h; split at h
  .split at h
   .rename_i e;obtain ⟨c,d⟩:=NW h; unfold Jk; rw[aDM a _ _ d,<- c,yJ _ _ _ e]; rfl
   .cases h
  .cases h
inductive RS where
 | ti (k:IntKind)
 | tb
 | ts
 | tl (o:Bool) (z:Nat)
 | tp
 | z (c:Sh)
 | o (c:Sh)
 | g (l:List Sh)
 | t (l:List (Bool×List Sh))
@[reducible] def RS.F : RS -> Type -> Type
 | .ti _,T=>Int->T
 | .tb,T=>Bool->T
 | .ts,T=>ByteArray->T
 | .tl _ _,T=>ai->T
 | .tp,T=>PV->T
 | .z _,T=>T
 | .o c,T=>Sh.V [c]->T
 | .g l,T=>Sh.V l->T
 | .t l,T=>TV l->T
def BR (a:List Sh) (p:PV) (K:Sh.V a->Option c1):Option c1:=match p with | .agg b=>(match ku a b with | some v=>K v | none=>none) | _=>none
def Xg (a:List (Bool×List Sh)) (p:PV) (K:TV a->Option c1):Option c1:=match p with | .tuple b=>(match rdT a b with | some v=>K v | none=>none) | _=>none
def oV (s:Sh) (p:PV) (K:Sh.V [s]->Option c1):Option c1:=match ku [s] [p] with | some v=>K v | none=>none
def Ru:(a:RS)->PV->RS.F a R->R
 | .ti k,p,K=>vI k p K
 | .tb,p,K=>vB p K
 | .ts,p,K=>vS p K
 | .tl o z,p,K=>vL o z p K
 | .tp,p,K=>K p
 | .z c,p,K=>aB (Ii [c]) (oV c p fun _=>K) none
 | .o c,p,K=>oV c p K
 | .g l,p,K=>BR l p K
 | .t l,p,K=>Xg l p K
def Rl:(a:RS) -> {T:Type}->(PV->T)->RS.F a T
 | .ti k,_,K=>fun n=>K (.int k n)
 | .tb,_,K=>fun n=>K (.bool n)
 | .ts,_,K=>fun n=>K (.str n)
 | .tl o z,_,K=>fun n=>K (.sl o z n)
 | .tp,_,K=>fun p=>K p
 | .z c,_,K=>K ((zS [c]).headD .nilp)
 | .o c,_,K=>fun v=>K ((o_ [c] v).headD .nilp)
 | .g l,_,K=>fun v=>K (.agg (o_ l v))
 | .t l,_,K=>fun v=>K (.tuple (Jk l v))
theorem bU8 (s:Sh) (p:PV):(∀ K:PV->R,oV s p (fun v=>K ((o_ [s] v).headD .nilp))=K p)\/(∀ K:Sh.V [s]->R,oV s p K=none):=by grind [oV,yJ]
theorem bOO (l:List Sh) (p:PV):(∀ K:PV->R,BR l p (fun v=>K (.agg (o_ l v)))=K p)\/(∀ K:PV->R,BR l p (fun v=>K (.agg (o_ l v)))=none):=by unfold BR;grind [yJ]
theorem b_0 (l:List (Bool×List Sh)) (p:PV):(∀ K:PV->R,Xg l p (fun v=>K (.tuple (Jk l v)))=K p)\/(∀ K:PV->R,Xg l p (fun v=>K (.tuple (Jk l v)))=none):=by unfold Xg;grind [aDM]
def aWH (a:RS) (p:PV):(∀ K:PV->R,Ru a p (Rl a K)=K p)\/(∀ K:PV->R,Ru a p (Rl a K)=none):=by
 cases a with
 | ti k=>exact tZ k p
 | tb=>exact Kr p
 | ts=>exact Xc p
 | tl o z=>exact Bz o z p
 | tp=>exact .inl fun _=>rfl
 | z s =>
  cases b:Ii [s] with
  | false=>exact .inr fun K=>by show aB (Ii [s]) _ _=_; rw[b,aF]
  | true =>
   cases h:ku [s] [p] with
   | none=>exact .inr fun K=>by show aB (Ii [s]) (oV s p _) _=_; rw[b,aI]; unfold oV; rw[h]
   | some v =>have c:=yJ _ _ _ h;have d:=Oh [s] v b;exact .inl fun K=>by show aB (Ii [s]) (oV s p fun _=>K ((zS [s]).headD .nilp)) _=_;rw[b,aI,<- d,c]; unfold oV; rw[h]; rfl
 | o s =>
  rcases bU8 s p with e | e
  .exact .inl e
  .exact .inr fun K=>e _
 | g l=>exact bOO l p
 | t l=>exact b_0 l p
inductive OS where
 | c (l:List Sh)
 | z (l:List Sh)
 | a
@[reducible] def dA : List OS -> Type
 | []=>R
 | .c l::b=>Sh.V l->dA b
 | .z _::b=>dA b
 | .a::b=>ai->dA b
def uO:(b:List OS)->aH->dA b->R
 | [],h,f=>(match h with | []=>f | _::_=>none)
 | .c l::b,h,f=>(match h with | some d::h=>(match ku l d with | some v=>uO b h (f v) | none=>none) | _=>none)
 | .z l::b,h,f=>(match h with | some d::h=>(match ku l d with | some _=>uO b h f | none=>none) | _=>none)
 | .a::b,h,f=>(match h with | some d::h=>uO b h (f d) | _=>none)
def Jv:(b:List OS)->(aH->R)->dA b
 | [],K=>K []
 | .c l::b,K=>fun v=>Jv b fun h=>K (some (o_ l v)::h)
 | .z l::b,K=>Jv b fun h=>aB (Ii l) (K (some (zS l)::h)) none
 | .a::b,K=>fun d=>Jv b fun h=>K (some d::h)
theorem Xk:∀ (d:List OS) (h:aH),(∀ K:aH->R,uO d h (Jv d K)=K h)\/(∀ K:aH->R,uO d h (Jv d K)=none)
 | [],[] => .inl fun _=>rfl
 | [],_::_ => .inr fun _=>rfl
 | .c l::d,h=>by
  unfold uO;split
  .rename_i f h;cases e:ku l f with
   | none=>simp
   | some v =>
    have:=yJ _ _ _ e;subst this;rcases Xk d h with b | b
    .exact .inl fun K=>b _
    .exact .inr fun K=>b _
  simp
 | .z l::d,h=>by
  unfold uO;split
  .rename_i f h;cases e:ku l f with
   | none=>simp
   | some v =>
    have:=yJ _ _ _ e;subst this;rcases Xk d h with b | b
    .cases g:Ii l with
     | true =>
      refine .inl fun K=>(b _).trans ?_
      grind [aI,Oh]
     | false =>
      refine .inr fun K=>(b _).trans ?_
      simp_all
    .exact .inr fun K=>b _
  simp
 | .a::d,h=>by
  unfold uO;split
  .rename_i f h;rcases Xk d h with b | b
   .exact .inl fun K=>b _
   .exact .inr fun K=>b _
  simp
def hvK:(b:RS)->(a:List OS)->aH->RS.F b (dA a)->RS.F b R
 | .ti _,a,h,K=>fun n=>uO a h (K n)
 | .tb,a,h,K=>fun n=>uO a h (K n)
 | .ts,a,h,K=>fun n=>uO a h (K n)
 | .tl _ _,a,h,K=>fun n=>uO a h (K n)
 | .tp,a,h,K=>fun n=>uO a h (K n)
 | .z _,a,h,K=>uO a h K
 | .o _,a,h,K=>fun n=>uO a h (K n)
 | .g _,a,h,K=>fun n=>uO a h (K n)
 | .t _,a,h,K=>fun n=>uO a h (K n)
def hv (a:RS) (b:List OS) (p:PV) (h:aH) (K:RS.F a (dA b)):R:=Ru a p (hvK a b h K)
def A_ (a:RS) (b:List OS) (K:PV->aH->R):RS.F a (dA b):=Rl a fun p=>Jv b (K p)
def bPE (a:RS) (b:List OS) (h:aH) (K:PV->aH->R):hvK a b h (A_ a b K)=Rl a fun p=>uO b h (Jv b (K p)):=by cases a<;>rfl
theorem bPF (a:RS) (b:List OS) (p:PV) (h:aH):(∀ K:PV->aH->R,hv a b p h (A_ a b K)=K p h)\/(∀ K:PV->aH->R,hv a b p h (A_ a b K)=none):=by
 have d:∀ K:PV->aH->R,hv a b p h (A_ a b K)=Ru a p (Rl a fun p=>uO b h (Jv b (K p))):=fun K=>by unfold hv; rw[bPE]
 rcases aWH a p with e | e
 .rcases Xk b h with c | c
  simp_all;simp_all
 simp_all
abbrev ak (sh:List Sh) (l:ai) (n:Int) (K:Sh.V sh->R):R:=di l n fun e=>BR sh e K
def shC:List Sh->ai->Bool
 | [],a=>a.isEmpty
 | s::f,a=>(match a with
  | []=>false
  | p::a=>(match s,p with
   | .I g,.int c _=>decide (c=g)
   | .B,.bool _=>true
   | .S,.str _=>true
   | .L o z,.sl h d _=>h==o&&Nat.beq d z
   | .Y,.dn _=>true
   | .P,_=>true
   | .H i j z,.slh b e _ d=>Nat.beq b i&&Nat.beq e j&&Nat.beq d z
   | .M,.mp _=>true
   | .C,.func (.yield n) _ []=>Nat.beq n 4242
   | .pt i j,.ptr b e=>Nat.beq b i&&Nat.beq e j
   | .bd t i,.dZ l b=>Nat.beq l t&&Nat.beq b i
   | .rf,.raw .nilFunc=>true
   | .ni,.raw .nilIface=>true
   | .fn m,.func (.func n) [] []=>Nat.beq n m
   | _,_=>false)&&shC f a)
def shO:List OS->aH->Bool
 | [],h=>h.isEmpty
 | .c l::b,h=>(match h with | some d::h=>shC l d&&shO b h | _=>false)
 | .z l::b,h=>(match h with | some d::h=>shC l d&&shO b h | _=>false)
 | .a::b,h=>(match h with | some _::h=>shO b h | _=>false)
def tl (g k:Nat) (a b:c1):c1:=bif Nat.blt g k then a else b
def te (g k:Nat) (a b:c1):c1:=bif Nat.beq g k then a else b
def VVt (t:TypeId->Option RS) (i:TypeId) (p:PV) (K:PV->R):R:=match t i with | some a=>Ru a p (Rl a K) | none=>K p
def a'N (t:TypeId->Option RS):zV (VVt t):=fun i p=>by
 unfold VVt;cases t i with
 | none=>simp
 | some a=>exact aWH a p
abbrev jd:=List OS×RS×List OS
def YB:List jd->aH->PV->aH->(PV->aH->R)->R
 | [],_,r,h,K=>K r h
 | w::l,a,r,h,K=>aB (shO w.1 a) (hv w.2.1 w.2.2 r h (A_ w.2.1 w.2.2 K)) (YB l a r h K)
def aH3:∀ (l:List jd) (a:aH) (r:PV) (h:aH),(∀ K:PV->aH->R,YB l a r h K=K r h)\/(∀ K:PV->aH->R,YB l a r h K=none)
 | [],_,_,_ => .inl fun _=>rfl
 | w::l,a,r,h=>uP (bPF w.2.1 w.2.2 r h) (aH3 l a r h)
def WWt (t:FuncId->List jd) (g:FuncId):aH->PV->aH->(PV->aH->R)->R:=YB (t g)
def a'S (t:FuncId->List jd):uq (WWt t):=fun g h r h'=>aH3 (t g) h r h'
variable {c2:R}
def CCk (a:d4.OK) {g:FuncId} {args:ai} (b:d4.C0 g args a'=none) (e:d4.run d4.CC d4.LL g args a'=c2):d4.CC g args a'=c2:=(uZ a b).trans e
def LLk (c:d4.OK) {l:List Nat} {K:AX->ASt->R} (d:b<=J) (f:F8 l J T=true) (g:d4.wp b1=b1)
 (e:b_ (I9 l J T) (bC (d4.xe d4.CC d4.LL b1 b) d3 (xM (fun a=>d4.LL b1 b l J d3 K (a.gc l J)) K) (T.gc l J))=c2):d4.LL b1 b l J d3 K T=c2:=(Ea c d f g).trans e
abbrev KT:=AX->ASt->R
def aVO:Nat->Nat->List Bool
 | 0,_ => []
 | k+1,n=>match Nat.ble n 1 with | true => [] | false=>Nat.beq (n % 2) 1::aVO k (n / 2)
def cS (f:Func) (p:Nat):Code:=Code.sub (aVO 99 p) (rU f)
def SE.xX (S:SE) (f n m:Nat):XE:=S.xe S.CC S.LL (S.ae f n) m
def SE.rK (S:SE) (f:Func) (g m:Nat) (a:List Nat):KT:=IJ S.P f.results.toList (S.iq g).ro m a
def SE.jK (S:SE) (f n m:Nat) (c:Code) (K:KT):KT:=xM (wu (S.ae f n) m c (bC (S.xX f n m) c K)) K
def SE.lK (S:SE) (f n m:Nat) (l:List Nat) (k:Nat) (c:Code) (K:KT):KT:=xM (fun a=>S.LL (S.ae f n) m l k c K (a.gc l k)) K
def U7:Nat->R->R
 | 0,a=>a
 | n+1,a=>bf a (U7 n a)
def aHF:∀ (n:Nat) (a:R),U7 n a=a
 | 0,_=>rfl
 | n+1,a=>by rw[U7,aHF n,uD]
def gQ (F:(Nat->R->R)->R):R:=F fun _ a=>a
def pR {F:(Nat->R->R)->R} (h:c2=F U7):c2=gQ F:=by rw[show U7=fun _ a=>a from funext fun n=>funext fun a=>aHF n a] at h;exact h
section
variable {S:SE}
def SE.WM (S:SE) (T:oW):Nat->yf
 | 0=>fun _ _ _ _ _ _ _=>none
 | n+1=>S.turn T (S.WM T n)
def SE.stepT (S:SE) (T:oW) (n:Nat) (g:FuncId) (args:ai) (h:aH):R:=I5 (S.C0 g args h) (S.run T (S.WM T n) g args h)
def Yh (T C:oW):Prop:=∀ g args h v,T g args h=some v->C g args h=some v
def aT0 (d:S.OK) {T:oW} (j:Yh T S.CC):∀ (n:Nat) (E:AE) (b:Nat) (l:List Nat) (m:Nat) (x:Code) (K c:AX->ASt->R) (a:ASt) (v:PV×aH),(∀ e a v,K e a=some v->c e a=some v)->S.WM T n E b l m x K a=some v->S.LL E b l m x c a=some v
 | 0,_,_,_,_,_,_,_,_,_,_,h=>by cases h
 | n+1,E,b,l,m,x,K,c,a,v,f,hv=>by
  have o:∀ g args h,ER fun i=>(bif i then S.CC else T) g args h:=fun g args h v hv=>j g args h v hv
  have p:∀ (E:AE) (b:Nat) (l:List Nat) (m:Nat) (x:Code) (K:Bool->AX->ASt->R) (a:ASt),(∀ e a,ER fun i=>K i e a)->ER fun i=>(bif i then S.LL else S.WM T n) E b l m x (K i) a :=fun E b l m x K a f v hv=>aT0 d j n E b l m x _ _ a v (fun e a v h=>f e a v h) hv
  rw[aH0 d];exact Oc Md d o p (K:=fun i=>bif i then c else K) (fun e a v h=>f e a v h) v hv
variable {c4:oW}
def aZA (b:S.OK) (d:Yh c4 S.CC) (n:Nat) {g:FuncId} {args:ai} {v:PV×aH} (e:S.stepT c4 n g args a'=some v):S.CC g args a'=some v:=by
 have f:∀ g args a',ER fun i=>(bif i then S.CC else c4) g args a':=fun g args a' v hv=>d g args a' v hv
 have j:∀ (E:AE) (c:Nat) (l:List Nat) (m:Nat) (x:Code) (K:Bool->AX->ASt->R) (a:ASt),(∀ e a,ER fun i=>K i e a)->ER fun i=>(bif i then S.LL else S.WM c4 n) E c l m x (K i) a :=fun E c l m x K a o v hv=>aT0 b d n E c l m x _ _ a v (fun e a v a'=>o e a v a') hv
 rw[LZ b];exact a9T Md (a9U Md b f j) v e
structure Ans where
 g:FuncId
 args:ai
 h:aH
 v:PV×aH
def a5G:List Ans->oW
 | [],_,_,_=>none
 | a::l,g,args,h=>(match Nat.beq a.g g&&(PV.AB a.args args&&Eu a.h h) with | true=>some a.v | false=>a5G l g args h)
theorem aY2 {C:oW}:∀ {l:List Ans},(∀ a,a∈l->C a.g a.args a.h=some a.v)->Yh (a5G l) C
 | [],_,_,_,_,_,h=>by cases h
 | a::l,c,g,args,h,v,hv=>by
  unfold a5G at hv;split at hv
  grind [Nat.eq_of_beq_eq_true,PV.Et,Yx]
  .exact aY2 (fun b d=>c b (List.mem_cons_of_mem _ d)) g args h v hv
def gq:∀ a,a∈([]:List Ans)->c4 a.g a.args a.h=some a.v:=fun _ h=>by cases h
variable {e8:Ans} {d5:List Ans}
theorem a_1 (h:c4 e8.g e8.args e8.h=some e8.v) (c:∀ e8,e8∈d5->c4 e8.g e8.args e8.h=some e8.v):∀ b,b∈e8::d5->c4 b.g b.args b.h=some b.v:=fun b d=>by grind
def SE.memo (S:SE) (l:List Ans) (n:Nat):oW:=fun g args h=>match a5G l g args h with
 | some v=>some v
 | none=>(S.bD n).1 g args h
theorem bTM (d:S.OK) (b:∀ a,a∈d5->S.CC a.g a.args a.h=some a.v) (n:Nat):Yh (S.memo d5 n) S.CC:=fun g args h v hv=>by
 unfold SE.memo at hv;split at hv
 .rename_i w c;injection hv with hv; subst hv
  exact aY2 b g args h _ c
 grind [aG4]
def aZB (b:S.OK) (m:Nat) (c:∀ e8,e8∈d5->S.CC e8.g e8.args e8.h=some e8.v) (n:Nat) (e:S.stepT (S.memo d5 m) n e8.g e8.args e8.h=some e8.v):S.CC e8.g e8.args e8.h=some e8.v:=aZA b (bTM b c m) n e
end
end Go.Proofs.YtagkcbgkhgccmaaGreatDoor
end

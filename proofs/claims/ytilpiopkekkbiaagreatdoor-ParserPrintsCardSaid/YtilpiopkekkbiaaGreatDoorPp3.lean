/- A part of the proof. -/
import Derived.Test.YtilpiopkekkbiaaGreatDoorPp2
import Derived.Test.YtilpiopkekkbiaaGreatDoorChecked
import Derived.ProofKit
import Derived.SizedLaws
import Derived.Deep.Slices
import Derived.Deep.Fields
import Derived.ChangeArms
import Derived.OpenShut
import Derived.ChangeOld
import Derived.RangeFuncIn
import Derived.OrdersIn
import Derived.TacticsIn
import Derived.LoopNIn
import Derived.RangeFuncRecord
import Derived.RangeFuncLeaves
set_option linter.unusedVariables false
set_option linter.unusedSimpArgs false
set_option linter.unnecessarySimpa false
set_option linter.unusedSectionVars false
noncomputable section
namespace Go.Proofs.YtilpiopkekkbiaaGreatDoor
open Go.RowKit
variable {b draw:Bool} {s:ByteArray} {lo hi:Option Operand} {x f:Operand} {P:Program}
abbrev R:=Option (PV×aG)
abbrev Cal:=FuncId->bZZ->aG->R
def aA (b:Bool) (A B:R):R:=match b with | true=>A | false=>B
def chk (b:Bool) (A:R):R:=match b with | true=>A | false=>none
def bz (es:bZZ) (n:Int) (K:PV->R):R:=if 0<=n then (match es[n.toNat]? with | some e=>K e | none=>none) else none
def vw (s:ByteArray) (n:Int) (K:Int->R):R:=if 0<=n then (match s[n.toNat]? with | some b=>K b.toNat | none=>none) else none
mutual
def PV.pR:PV->PV->Bool
 | .int k n,q=>(match q with | .int k' n'=>decide (k=k')&&decide (n=n') | _=>false)
 | .bool b,q=>(match q with | .bool b'=>b==b' | _=>false)
 | .str s,q=>(match q with | .str s'=>s.data.toList==s'.data.toList | _=>false)
 | .nilp,q=>(match q with | .nilp=>true | _=>false)
 | .raw v,q=>(match v,q with | .nilFunc,.raw .nilFunc=>true | .nilIface,.raw .nilIface=>true | _,_=>false)
 | .ptr i o,q=>(match q with | .ptr i' o'=>Nat.beq i i'&&Nat.beq o o' | _=>false)
 | .dA i o,q=>(match q with | .dA i' o'=>Nat.beq i i'&&Nat.beq o o' | _=>false)
 | .cst e,q=>(match q with | .cst e'=>PV.pR e e' | _=>false)
 | .sl o z l,q=>(match q with | .sl o' z' l'=>(o==o'&&Nat.beq z z')&&PV.zK l l' | _=>false)
 | .slh i o n z,q=>(match q with | .slh i' o' n' z'=>(Nat.beq i i'&&Nat.beq o o')&&(Nat.beq n n'&&Nat.beq z z') | _=>false)
 | .dC l,q=>(match q with | .dC l'=>l==l' | _=>false)
 | .gX o n z l,q=>(match q with | .gX o' n' z' l'=>((o==o'&&Nat.beq n n')&&Nat.beq z z')&&PV.zK l l' | _=>false)
 | .mp l,q=>(match q with | .mp l'=>PV.zK l l' | _=>false)
 | .func f a c,q=>(match q with | .func f' a' c'=>(match f,f' with | .func g,.func g'=>Nat.beq g g' | .yield g,.yield g'=>Nat.beq g g' | _,_=>false)&&(PV.zK a a'&&PV.zK c c') | _=>false)
 | .agg l,q=>(match q with | .agg l'=>PV.zK l l' | _=>false)
 | .tuple l,q=>(match q with | .tuple l'=>PV.zK l l' | _=>false)
def PV.zK:bZZ->bZZ->Bool
 | [],l=>(match l with | []=>true | _::_=>false)
 | p::ps,l=>(match l with | []=>false | q::qs=>PV.pR p q&&PV.zK ps qs)
end
mutual
theorem PV.Yd:∀ {p q:PV},PV.pR p q=true->p=q
 | .int k n,q,h=>by cases q<;>simp[PV.pR] at h; rw[h.1,h.2]
 | .bool b,q,h=>by cases q<;>simp[PV.pR] at h; rw[h]
 | .str s,q,h=>by
  cases q<;>simp[PV.pR] at h
  rename_i s';cases s; cases s'; simp only at h; rw[h]
 | .nilp,q,h=>by cases q<;>simp[PV.pR] at h; rfl
 | .raw v,q,h=>by
  unfold PV.pR at h;split at h
  .rfl
  .rfl
  .cases h
 | .ptr i o,q,h=>by cases q<;>simp[PV.pR] at h; rw[h.1,h.2]
 | .dA i o,q,h=>by cases q<;>simp[PV.pR] at h; rw[h.1,h.2]
 | .cst e,q,h=>by cases q<;>simp[PV.pR] at h; rw[PV.Yd h]
 | .sl o z l,q,h=>by cases q<;>simp[PV.pR] at h; rw[h.1.1,h.1.2,PV.Dh h.2]
 | .slh i o n z,q,h=>by cases q<;>simp[PV.pR] at h; rw[h.1.1,h.1.2,h.2.1,h.2.2]
 | .dC l,q,h=>by cases q<;>simp[PV.pR] at h; rw[h]
 | .gX o n z l,q,h=>by cases q<;>simp[PV.pR] at h; rw[h.1.1.1,h.1.1.2,h.1.2,PV.Dh h.2]
 | .mp l,q,h=>by cases q<;>simp[PV.pR] at h; rw[PV.Dh h]
 | .func f a c,q,h=>by
  cases q<;>simp[PV.pR] at h
  obtain ⟨h1,h2,h3⟩:=h;rw[PV.Dh h2,PV.Dh h3];split at h1
  .simp at h1; rw[h1]
  .simp at h1; rw[h1]
  .cases h1
 | .agg l,q,h=>by cases q<;>simp[PV.pR] at h; rw[PV.Dh h]
 | .tuple l,q,h=>by cases q<;>simp[PV.pR] at h; rw[PV.Dh h]
theorem PV.Dh:∀ {l l':bZZ},PV.zK l l'=true->l=l'
 | [],l',h=>by cases l'<;>simp[PV.zK] at h; rfl
 | p::ps,l',h=>by
  cases l'<;>simp[PV.zK] at h
  rw[PV.Yd h.1,PV.Dh h.2]
end
def Di:aG->aG->Bool
 | [],l=>(match l with | []=>true | _::_=>false)
 | o::os,l=>(match l with
  | []=>false
  | o'::os'=>(match o,o' with | none,none=>true | some a,some b=>PV.zK a b | _,_=>false)&&Di os os')
theorem Yc:∀ {l l':aG},Di l l'=true->l=l'
 | [],l',h=>by cases l'<;>simp[Di] at h; rfl
 | o::os,l',h=>by
  cases l' with
  | nil=>simp[Di] at h
  | cons o' os' =>
   simp only[Di,bI] at h;rw[Yc h.2];have h1:=h.1;split at h1
   .rfl
   .rw[PV.Dh h1]
   .cases h1
def Jm (a b:PV×aG):R:=open Classical in match PV.pR a.1 b.1&&Di a.2 b.2 with | true=>some a | false=>if a=b then some a else none
theorem a_2 (a:PV×aG):Jm a a=some a:=by grind [Jm]
theorem a_3 {a b v:PV×aG} (h:Jm a b=some v):a=v/\a=b:=by grind [Jm,PV.Yd,Yc]
def IV (es:bZZ) (K:Bool->R):R:=match K false with
 | some (r,h)=>(match es.isEmpty with | false=>some (r,h) | true=>match K true with | some (r',h')=>Jm (r,h) (r',h') | none=>none)
 | none=>none
def FW (es:bZZ) (n:Nat) (K:PV->R):R:=match es[n]? with | some e=>K e | none=>none
def jO (C:Cal) (g:FuncId) (args:bZZ) (K:PV->R):R:=match C g args [] with | some (r,[])=>K r | _=>none
def AO (C:Cal) (g:FuncId) (args:bZZ) (h:aG) (K:PV->aG->R):R:=match C g args h with | some (r,h')=>K r h' | none=>none
def TL (p:PV) (K:Bool->R):R:=match p with | .func _ _ _=>K false | .raw .nilFunc=>K true | _=>none
def OX (p:PV) (K:FuncId->bZZ->bZZ->R):R:=match p with | .func (.func g) first caps=>K g first caps | _=>none
def SB:bZZ->Nat->Int->(PV->R)->R
 | [],_,_,_=>none
 | p::r,k,n,K=>aA (n==(k:Int)) (K p) (SB r (k+1) n K)
def IP (s:Option IntKind) (L:bZZ) (q:PV) (A:PV->R) (B:R):R:=match xQ s L q with
 | some (some p)=>A p
 | some none=>B
 | none=>none
def Ph (s:Option IntKind):bZZ->PV->(PV->R)->R->R
 | k::v::L,q,A,B=>(match eqK s q k with | some b=>aA b (A v) (Ph s L q A B) | none=>none)
 | [],_,_,B=>B
 | [_],_,_,_=>none
structure XE where
 E:AE
 C:Cal
 V:TypeId->PV->(PV->R)->R
 W:FuncId->aG->PV->aG->(PV->aG->R)->R
 L:List Nat->Nat->Code->(AX->ASt->R)->ASt->R
 m0:Nat
def a3K (d:Nat) (v:Bool):fP->fP
 | [] => []
 | (j,q)::l=>bif Nat.beq j d then (j,.bool v)::l else (j,q)::a3K d v l
def ASt.lit (d:Nat) (v:Bool) (Z:ASt):ASt := { Z with s:=a3K d v Z.s }
theorem aCS {d:Nat} {v:Bool}:∀ {s:fP},bZ d s=some (.bool v)->a3K d v s=s
 | [],h=>by rfl
 | (j,q)::l,h=>by
  rw[bZ] at h;rw[a3K];by_cases e:j=d;simp_all
  .rw[aV e] at h;have hb:Nat.beq j d=false:=by
    cases h:Nat.beq j d
    .rfl
    .exact absurd (oJ h) e
   rw[hb,aCS h]; rfl
def dG (E:AE) (dst:Option Nat) (p:PV) (K:ASt->R) (Z:ASt):R:=match ASt.put E dst p Z with | some Z'=>K Z' | none=>none
def VX (E:AE) (dst:Option Nat) (p:Option PV) (K:ASt->R) (Z:ASt):R:=match p with | some p=>dG E dst p K Z | none=>none
def pU (X:XE) (o:Oper) (K:ASt->R) (Z:ASt):R:=match bY X.E o Z with | some (p,Z1)=>dG X.E o.dst p K Z1 | none=>none
def Jr (X:XE) (dst:Option Nat) (sz:Nat) (es:bZZ) (lo hi:Option Operand) (K:ASt->R) (Z:ASt):R :=
 match lo,hi with
 | none,none=>dG X.E dst (.sl false sz es) K Z
 | some l,none=>(match Z.rd l with | some (.int _ a)=>chk (decide (0<=a)&&decide (a<=es.length)) (dG X.E dst (.sl false sz (es.drop a.toNat)) K Z) | _=>none)
 | none,some h=>(match Z.rd h with | some (.int _ b)=>chk (decide (0<=b)&&decide (b<=es.length)) (dG X.E dst (.sl false sz (es.take b.toNat)) K Z) | _=>none)
 | some l,some h=>(match Z.rd l,Z.rd h with | some (.int _ a),some (.int _ b)=>chk (decide (0<=a)&&decide (a<=b)&&decide (b<=es.length)) (dG X.E dst (.sl false sz ((es.take b.toNat).drop a.toNat)) K Z) | _,_=>none)
def Js (X:XE) (dst:Option Nat) (s:ByteArray) (lo hi:Option Operand) (K:ASt->R) (Z:ASt):R :=
 match lo,hi with
 | none,none=>dG X.E dst (.str (s.extract 0 s.size)) K Z
 | some l,none=>(match Z.rd l with | some (.int _ a)=>chk (decide (0<=a)&&decide (a<=s.size)) (dG X.E dst (.str (s.extract a.toNat s.size)) K Z) | _=>none)
 | none,some h=>(match Z.rd h with | some (.int _ b)=>chk (decide (0<=b)&&decide (b<=s.size)) (dG X.E dst (.str (s.extract 0 b.toNat)) K Z) | _=>none)
 | some l,some h=>(match Z.rd l,Z.rd h with | some (.int _ a),some (.int _ b)=>chk (decide (0<=a)&&decide (a<=b)&&decide (b<=s.size)) (dG X.E dst (.str (s.extract a.toNat b.toNat)) K Z) | _,_=>none)
def a6E (X:XE) (dst:Option Nat) (t:TypeId) (sz:Nat) (es:bZZ) (n:Int) (K:ASt->R) (Z:ASt):R :=
 match xI X.E.P t,jl X.E.P t with
 | some e,some I=>if I.size=sz then bz es n fun p=>X.V e p fun q=>dG X.E dst (.cst q) K Z else none
 | _,_=>none
def OJ (X:XE) (dst:Option Nat) (k k':IntKind) (b:Int) (r:Int) (K:ASt->R) (Z:ASt):R:=if k=k' then chk (!(b==0)) (dG X.E dst (.int k r) K Z) else none
def aHN (X:XE) (dst:Option Nat) (k:IntKind) (b:Int) (r:Int) (K:ASt->R) (Z:ASt):R:=chk (decide (0<=b)) (dG X.E dst (.int k r) K Z)
def Xx (P:Program) (t:TypeId):Option (Nat×TypeId):=match P.underlying t with
 | some (.array m e)=>(match ti P e with | some I=>(match Nat.beq I.size 1 && !I.agg with | true=>some (m,e) | false=>none) | none=>none)
 | _=>none
def aO9 (E:AE):Operand->Bool
 | .tmp t=>nR E.sy t
 | _=>false
def TF (X:XE) (dst:Option Nat) (t:TypeId) (i off n sz:Nat) (lo hi:Option Operand) (K:ASt->R) (Z:ASt):R :=
 match jl X.E.P t with
 | some I=>(match Nat.beq I.size sz&&Nat.blt 0 sz with
  | true=>(match lo,hi with
   | none,some h=>(match Z.rd h with | some (.int _ b)=>chk (decide (0<=b)&&decide (b<=(n:Int))&&decide (0<n)) (dG X.E dst (.slh i off b.toNat sz) K Z) | _=>none)
   | some l,none=>(match Z.rd l with | some (.int _ a)=>chk (decide (0<=a)&&decide (a<=(n:Int))) (aA (decide (a<(n:Int))) (dG X.E dst (.slh i (off+a.toNat*sz) (n-a.toNat) sz) K Z) (dG X.E dst (.sl false sz []) K Z)) | _=>none)
   | _,_=>none)
  | false=>none)
 | none=>none
def Yj (X:XE) (dst:Option Nat) (t:TypeId) (l c:Operand) (K:ASt->R) (Z:ASt):R :=
 match jl X.E.P t,Z.rd l,Z.rd c with
 | some I,some (.int _ n),some (.int _ n')=>(match Nat.blt 0 I.size&&Nat.ble I.bytes 1024 with
  | true=>chk (decide (n=n')&&decide (0<=n)&&decide (n<=1073741824)) (match dF X.E.mu dst with
   | true=>dG X.E dst (.slh Z.h.length 0 n.toNat I.size) K ⟨Z.s,Z.h ++ [some (wX n.toNat I)]⟩
   | false=>(match Nat.beq (vV I).size I.size&&(vV I).okE with | true=>dG X.E dst (.sl true I.size (List.replicate n.toNat (vV I))) K Z | false=>none))
  | false=>none)
 | _,_,_=>none
def a6D (X:XE) (dst:Option Nat) (t:TypeId) (x y:Operand) (K:ASt->R) (Z:ASt):R :=
 match jl X.E.P t,Z.rd x,Z.rd y with
 | some I,some (.slh i off n sz),some (.sl _ sz' es)=>(match Z.h[i]? with
  | some (some cs)=>(match Nat.beq I.size sz&&(Nat.blt 0 sz&&(Nat.beq sz' sz||Nat.beq sz' 0)) with
   | true=>chk (decide (off+n*sz<=cs.length)) (dG X.E dst (.int .i64 ((Nat.min es.length n:Nat):Int)) K { Z with h:=Z.h.set i (some (cs.take off ++ (eu es).take (Nat.min es.length n*sz) ++ cs.drop (off+Nat.min es.length n*sz))) })
   | false=>none)
  | _=>none)
 | some I,some (.slh i off n sz),some (.slh j a2E m sz')=>(match Z.h[i]?,Z.h[j]? with
  | some (some cs),some (some cs2)=>(match Nat.beq I.size sz&&(Nat.blt 0 sz&&Nat.beq sz' sz) with
   | true=>chk (decide (off+n*sz<=cs.length)&&decide (a2E+m*sz<=cs2.length)) (dG X.E dst (.int .i64 ((Nat.min m n:Nat):Int)) K { Z with h:=Z.h.set i (some (cs.take off ++ (((cs2.drop a2E).take (m*sz)).map PV.un).take (Nat.min m n*sz) ++ cs.drop (off+Nat.min m n*sz))) })
   | false=>none)
  | _,_=>none)
 | _,_,_=>none
def Yh (X:XE) (dst:Option Nat) (t:TypeId) (x:Operand) (K:ASt->R) (Z:ASt):R :=
 match jl X.E.P t,Z.rd x,dst with
 | some I,some (.slh i off n sz),none=>(match Z.h[i]? with
  | some (some cs)=>(match Nat.beq I.size sz with
   | true=>chk (decide (off+n*sz<=cs.length)) (K { Z with h:=Z.h.set i (some (cs.take off ++ (wX n I).map PV.un ++ cs.drop (off+n*sz))) })
   | false=>none)
  | _=>none)
 | some _,some (.sl _ _ []),none=>K Z
 | _,_,_=>none
def OL (X:XE) (dst:Option Nat) (t:TypeId) (p:PV) (pos:Bool) (K:ASt->R) (Z:ASt):R:=match PE X.E.P t with
 | true=>TL p fun b=>dG X.E dst (.bool (b==pos)) K Z
 | false=>none
def a6C (X:XE) (dst:Option Nat) (ts:List TypeId) (s:Operand) (n sz:Nat) (cs:bZZ) (sz':Nat) (es':bZZ) (K:ASt->R) (Z:ASt):R:=match ts with
 | [t,u]=>(match jl X.E.P t with
  | some I=>(match Nat.beq t u&&(Nat.blt 0 I.size&&(Nat.ble I.bytes 1024&&(Nat.beq sz I.size&&(Nat.beq sz' I.size||Nat.beq sz' 0)))) with
   | true=>chk (decide (n+es'.length<=aO)&&(eu es').all PV.lit) (dG X.E dst (.gX true (n+es'.length) sz (cs ++ eu es')) K (Z.clr s))
   | false=>none)
  | none=>none)
 | _=>none
def aAB (b:Bool) (off:Nat) (n:Int) (sz:Nat):Nat:=match b with
 | true=>off+n.toNat*sz
 | false=>(match off,sz with | 0,1=>n.toNat | _,_=>off+n.toNat*sz)
theorem bNC (b:Bool) (off:Nat) (n:Int) (sz:Nat):aAB b off n sz=off+n.toNat*sz:=by unfold aAB;grind
def bM5 (P:Program) (t:TypeId):TypeId:=match P.underlying t with | some (.map _ e)=>e | _=>0
def Yi (X:XE) (dst:Option Nat) (t:TypeId) (ok:Bool) (m q:PV) (K:ASt->R) (Z:ASt):R :=
 match Bq X.E.P t,m with
 | some (s,z),.dA 0 i=>(match Z.h[i]? with
  | some (some cs)=>(match Ad cs with
   | some (_,L)=>(match yJ s q with
    | true=>(match dF X.E.sy dst with
     | true=>Ph s L q (fun p=>dG X.E dst (Bj ok z (some p)) K Z) (dG X.E dst (Bj ok z none) K Z)
     | false=>IP s L q (fun p=>X.V (bM5 X.E.P t) p fun p'=>dG X.E dst (Bj ok z (some p')) K Z) (dG X.E dst (Bj ok z none) K Z))
    | false=>none)
   | none=>none)
  | _=>none)
 | _,_=>none
def OQ (X:XE) (dst:Option Nat) (t:TypeId) (m q x:PV) (K:ASt->R) (Z:ASt):R :=
 match Bq X.E.P t,m,dst with
 | some (s,_),.dA 0 i,none=>(match Z.h[i]? with
  | some (some cs)=>(match Ad cs with
   | some (b,L)=>(match yJ s q with
    | true=>chk (rZ s L q&&(!b||x.flat)) (K { Z with h:=Z.h.set i (some [oW b (jo s L q x)]) })
    | false=>none)
   | none=>none)
  | _=>none)
 | _,_,_=>none
def Yk (X:XE) (dst:Option Nat) (b:Bool) (q:Option PV) (K:ASt->R) (Z:ASt):R:=match b,q with
 | true,some (.dA T i)=>(match Z.h[i]? with
  | some (some cs)=>(match PK cs with
   | some (s,p)=>(match Nat.beq T DD with
    | true=>chk (decide (0<=p)) (aA (decide (p<(s.size:Int))) (dG X.E dst (.tuple [.bool true,.int .i64 p,.int .i32 (a0W s p)]) K { Z with h:=Z.h.set i (some [zQ s (PL s p)]) }) (dG X.E dst (.tuple [.bool false]) K Z))
    | false=>none)
   | none=>none)
  | _=>none)
 | _,_=>none
def OM (X:XE) (o:Oper) (K:ASt->R) (Z:ASt):R :=
 match o.op with
 | .convert s d x=>(match Z.rd x with
  | some (.sl _ _ es)=>(match PD X.E.P s&&uP X.E.P d with | true=>chk (sW es) (dG X.E o.dst (.str (strOf es)) K Z) | false=>none)
  | _=>pU X o K Z)
 | .indexAddr t x i=>(match Z.rd x,Z.rd i with
  | some (.sl _ sz es),some (.int _ n)=>a6E X o.dst t sz es n K Z
  | some (.slh i off m sz),some (.int _ n)=>(match dF X.E.sy o.dst with
   | true=>(match jl X.E.P t with
    | some I=>(match Nat.beq I.size sz with | true=>chk (decide (0<=n)&&decide (n<(m:Int))) (dG X.E o.dst (.ptr i (aAB (dF X.E.sy (o.dst.map (8000000 + ·))) off n sz)) K Z) | false=>none)
    | none=>none)
   | false=>pU X o K Z)
  | some (.ptr i off),some (.int _ n)=>(match dF X.E.sy o.dst with
   | true=>(match Et X.E.P t with
    | some (m,I)=>chk (decide (0<=n)&&decide (n<(m:Int))) (dG X.E o.dst (.ptr i (off+n.toNat*I.size)) K Z)
    | none=>none)
   | false=>pU X o K Z)
  | some (.cst (.agg cs)),some (.int _ n)=>(match Xx X.E.P t with
   | some (m,e)=>chk (decide (n<(m:Int))) (bz cs n fun p=>X.V e p fun q=>(match q.one with | true=>dG X.E o.dst (.cst q.un) K Z | false=>none))
   | none=>pU X o K Z)
  | _,_=>pU X o K Z)
 | .load t a=>(match aO9 X.E a && !dF X.E.ln o.dst with
  | true=>(match ti X.E.P t,Z.rd a with
   | some I,some (.ptr i off)=>(match Z.h[i]? with
    | some (some cs)=>(match I.agg with
     | true=>chk (decide (off+I.size<=cs.length)) (X.V t (.agg (((cs.drop off).take I.size).map PV.un)) fun q=>dG X.E o.dst q K Z)
     | false=>(match !dF X.E.mv o.dst with | true=>FW cs off fun p=>X.V t p fun q=>dG X.E o.dst q.un K Z | false=>none))
    | _=>none)
   | _,_=>none)
  | false=>(match Z.rd a,ti X.E.P t with
   | some (.cst e),some I=>chk (decide (e.isAgg=I.agg)&&decide (e.size=I.size)) (dG X.E o.dst e.un K Z)
   | _,_=>pU X o K Z))
 | .store t a x=>(match aO9 X.E a && !dF X.E.mu (kW a) with
  | true=>(match ti X.E.P t,Z.rd a,Z.ev x,o.dst with
   | some I,some (.ptr i off),some p,none=>(match Z.h[i]? with
    | some (some cs)=>(match p with
     | .agg ds=>(match Nat.beq ds.length I.size&&ds.all PV.one with | true=>chk (decide (off+I.size<=cs.length)) (K { Z.clr x with h:=(Z.clr x).h.set i (some (cs.take off ++ ds.map PV.un ++ cs.drop (off+I.size))) }) | false=>none)
     | p=>(match p.one&&Nat.beq I.size 1 with | true=>chk (decide (off<cs.length)) (K { Z.clr x with h:=(Z.clr x).h.set i (some (cs.set off p)) }) | false=>none))
    | _=>none)
   | _,_,_,_=>none)
  | false=>(match Z.ev x with
   | some (.agg ds)=>(match ti X.E.P t,Z.rd a,o.dst with
    | some I,some (.ptr i off),none=>(match Z.h[i]? with
     | some (some cs)=>(match QX X.E.mu X.E.ln (kW a) (Z.rd a)&&(Nat.beq ds.length I.size&&Nat.ble (off+I.size) cs.length) with
      | true=>chk (ds.all PV.one) (K { Z.clr x with h:=(Z.clr x).h.set i (some (cs.take off ++ ds.map PV.un ++ cs.drop (off+I.size))) })
      | false=>none)
     | _=>none)
    | _,_,_=>none)
   | _=>pU X o K Z))
 | .index t x i=>(match Z.rd x,Z.rd i with
  | some (.str s),some (.int _ n)=>(match uP X.E.P t with | true=>vw s n fun b=>dG X.E o.dst (.int .u8 b) K Z | false=>none)
  | some (.agg cs),some (.int _ n)=>(match dF X.E.sy o.dst with
   | true=>(match Xx X.E.P t with
    | some (m,_)=>chk (decide (0<=n)&&decide (n<(m:Int))) (SB cs 0 n fun p=>(match p.one with | true=>dG X.E o.dst p.un K Z | false=>none))
    | none=>none)
   | false=>pU X o K Z)
  | _,_=>pU X o K Z)
 | .pick c a b=>(match Z.rd c with
  | some (.bool v)=>aA v (VX X.E o.dst (Z.rd a) K Z) (VX X.E o.dst (Z.rd b) K Z)
  | _=>none)
 | .slice t x lo hi none=>(match Z.rd x with
  | some (.sl _ sz es)=>(match jl X.E.P t with | some I=>if I.size=sz then Jr X o.dst sz es lo hi K Z else none | none=>none)
  | some (.str s)=>(match uP X.E.P t with | true=>Js X o.dst s lo hi K Z | false=>none)
  | some (.slh i off n sz)=>TF X o.dst t i off n sz lo hi K Z
  | _=>pU X o K Z)
 | .slice t x (some l) (some u) (some m)=>(match Z.rd x,Z.rd l,Z.rd u,Z.rd m with
  | some (.sl _ sz es),some (.int _ a),some (.int _ b),some (.int _ c)=>(match jl X.E.P t with
   | some I=>(match Nat.beq I.size sz with | true=>chk (decide (0<=a)&&decide (a<=b)&&decide (b<=c)&&decide (c<=(es.length:Int))) (dG X.E o.dst (.sl false sz ((es.take b.toNat).drop a.toNat)) K Z) | false=>none)
   | none=>none)
  | _,_,_,_=>none)
 | .makeSlice t l c=>Yj X o.dst t l c K Z
 | .lookup t m k ok=>(match Z.rd m,Z.rd k with
  | some pm,some q=>Yi X o.dst t ok pm q K Z
  | _,_=>none)
 | .mapUpdate t m k x=>(match Z.rd m,Z.rd k,Z.rd x with
  | some pm,some q,some y=>OQ X o.dst t pm q y K Z
  | _,_,_=>none)
 | .insert t m k x=>(match a3M X.E.mu X.E.ln (kW m) (Z.rd m) with
  | false=>none
  | true=>(match Z.rd m,Z.rd k,Z.rd x with
   | some pm,some q,some y=>OQ X o.dst t pm q y K Z
   | _,_,_=>none))
 | .next x b=>Yk X o.dst b (Z.rd x) K Z
 | .fieldAddr s x f=>(match Z.rd x,fieldsOf X.E.P s with
  | some (.cst (.agg cs)),some fs=>(match fs[f]? with
   | some (off,z,false)=>(match Nat.beq z 0,cs[off]? with
    | false,some p=>chk p.one (dG X.E o.dst (.cst p.un) K Z)
    | _,_=>none)
   | _=>pU X o K Z)
  | _,_=>pU X o K Z)
 | .box t x=>(match dF X.E.fz o.dst,Z.rd x with
  | true,some (.agg ds)=>chk (ds.all PV.one&&PV.flats ds) (dG X.E o.dst (.cst (.agg (ds.map PV.un))) K Z)
  | _,_=>pU X o K Z)
 | .binOp op t x y _=>(match op,Z.rd x,Z.rd y with
  | .quo,some (.int k a),some (.int k' b)=>OJ X o.dst k k' b (k.wrap (a.tdiv b)) K Z
  | .rem,some (.int k a),some (.int k' b)=>OJ X o.dst k k' b (a.tmod b) K Z
  | .shl,some (.int k a),some (.int _ b)=>aHN X o.dst k b (k.wrap (a*2 ^ min b.toNat k.bits)) K Z
  | .shr,some (.int k a),some (.int _ b)=>aHN X o.dst k b (a.fdiv (2 ^ min b.toNat k.bits)) K Z
  | .add,some (.str a),some (.str b)=>chk (decide (a.size+b.size<=aO)) (dG X.E o.dst (.str (a ++ b)) K Z)
  | .eql,some p,some (.raw .nilFunc)=>OL X o.dst t p true K Z
  | .neq,some p,some (.raw .nilFunc)=>OL X o.dst t p false K Z
  | _,_,_=>pU X o K Z)
 | .call c=>(match c.callee with
  | .builtin .clear=>(match c.args.toList,c.argTypes.toList with
   | [x],[t]=>Yh X o.dst t x K Z
   | _,_=>none)
  | .builtin .copy=>(match c.args.toList,c.argTypes.toList with
   | [x,y],[t,_]=>a6D X o.dst t x y K Z
   | _,_=>none)
  | .builtin .append=>(match c.args.toList with
   | [s,x]=>(match Z.ev s,Z.rd x with
    | some (.sl _ _ es),some (.sl _ _ es')=>chk (decide (es.length+es'.length<=aO)) (pU X o K Z)
    | some (.sl _ _ es),some (.str b)=>chk (decide (es.length+b.size<=aO)) (pU X o K Z)
    | some (.gX true n sz cs),some (.sl _ sz' es')=>a6C X o.dst c.argTypes.toList s n sz cs sz' es' K Z
    | some (.dC l),some (.str b)=>chk (decide (l.length+b.size<=aO)) (pU X o K Z)
    | some (.dC l),some (.sl _ _ es')=>(match VN es' with
     | some c=>chk (decide (l.length+1<=aO)&&decide (0<=c)&&decide (c<256)) (pU X o K Z)
     | none=>none)
    | _,_=>none)
   | _=>none)
  | .builtin _=>pU X o K Z
  | _=>none)
 | _=>pU X o K Z
def a3A (zs:List Nat) (p:PV):PV:=match zs.all (Nat.beq · 0) with | true=>p | false=>p.zo zs
def pM (P:Program):List TypeId->bZZ->bZZ
 | t::ts,p::ps=>a3A (OA P 8 t) p::pM P ts ps
 | _,ps=>ps
def sZ (E:AE) (o:Oper):List TypeId:=match dF E.sy (o.dst.map (9000000 + ·)) with | true => [] | false=>(match o.op with | .call c=>c.argTypes.toList | _ => [])
mutual
def PV.ids:PV->List Nat
 | .ptr i _ => [i]
 | .dA _ i => [i]
 | .slh i _ _ _ => [i]
 | .func _ a c=>PV.xM a ++ PV.xM c
 | .agg cs=>PV.xM cs
 | .tuple cs=>PV.xM cs
 | _ => []
def PV.xM:bZZ->List Nat
 | [] => []
 | p::ps=>p.ids ++ PV.xM ps
end
def xB (l:List Nat):List Nat->List Nat
 | []=>l
 | i::is=>xB (match nR l i with | true=>l | false=>l ++ [i]) is
def aGJ (H:aG):List Nat->List Nat
 | [] => []
 | i::l=>(match qR H i with | some cs=>PV.xM cs | none => []) ++ aGJ H l
def He (H:aG):Nat->List Nat->List Nat
 | 0,l=>l
 | n+1,l=>He H n (xB l (aGJ H l))
def aV5 (ids:List Nat) (H:aG) (full:bZZ):Bool :=nodupB ids&&(ids.all (fun i=>Nat.blt i H.length)&&(PV.o6 (nR ids) full&&ids.all fun i=>match qR H i with | some cs=>PV.o6 (nR ids) cs | none=>true))
def zM (X:XE) (dst:Option Nat) (g:FuncId) (full:bZZ) (ids:List Nat) (K:ASt->R) (Z:ASt):R :=
 match aV5 ids Z.h full with
 | true=>AO X.C g (kL (uY ids) full) ((ids.map (qR Z.h)).map (mM (uY ids))) fun r h'=>X.W g ((ids.map (qR Z.h)).map (mM (uY ids))) r h' fun r' h''=>dG X.E dst (jr (rQ ids Z.h.length) r') K ⟨Z.s,yD ids Z.h h''⟩
 | false=>none
def pW (p:PV):Bool:=p.one&&p.flat
def LX:Option (bZZ)->Bool
 | some cs=>cs.all pW
 | none=>true
def aCR (ids:List Nat) (H h':aG):aG:=uA ids (h'.take ids.length) H ++ h'.drop ids.length
def Jq (X:XE) (dst:Option Nat) (g:FuncId) (full:bZZ) (ids:List Nat) (K:ASt->R) (Z:ASt):R :=
 match nodupB ids&&(ids.all (fun i=>Nat.blt i Z.h.length)&&PV.o6 (nR ids) full) with
 | true=>chk ((ids.map (qR Z.h)).all LX) (AO X.C g (kL (uY ids) full) (ids.map (qR Z.h)) fun r h'=>X.W g (ids.map (qR Z.h)) r h' fun r' h''=>chk (h''.all LX) (dG X.E dst (jr (rQ ids Z.h.length) r') K ⟨Z.s,aCR ids Z.h h''⟩))
 | false=>none
def a6G (X:XE) (dst:Option Nat) (r:PV) (K:ASt->R) (Z:ASt):R:=match r with
 | .sl true 1 es=>chk (decide (0<es.length)&&es.all uX) (dG X.E dst (.slh Z.h.length 0 es.length 1) K ⟨Z.s,Z.h ++ [some es]⟩)
 | .sl true sz es=>aA (decide (0<es.length)) (chk (es.all (yV sz)) (dG X.E dst (.slh Z.h.length 0 es.length sz) K ⟨Z.s,Z.h ++ [some (eu es)]⟩)) (dG X.E dst (.sl true sz []) K Z)
 | _=>none
def aHK (X:XE) (dst:Option Nat) (g:FuncId) (full:bZZ) (K:ASt->R) (Z:ASt):R :=chk (Ux Z.h full) (jO X.C g (a1O Z.h full) fun r=>X.W g [] r [] fun r' _=>(match r'.vG with | true=>dG X.E dst r' K Z | false=>none))
def aTC (l ids:List Nat) (n:Nat):Bool:=l.all fun k=>match Nat.ble 1000000 k with
 | true=>Nat.blt (k-1000000) n && !nR ids (k-1000000)
 | false=>true
def Jp (X:XE) (draw:Bool) (o:Oper) (f:Operand) (args:List Operand) (K:ASt->R) (Z:ASt):R :=
 match Z.rd f,ji (args.map Z.rd) with
 | some (.func (.func g) first caps),some az=>(match !draw&&(dF X.E.ln o.dst&&dF X.E.sy o.dst) with
  | true=>(match dF X.E.sy (o.dst.map (6000000 + ·)) with
   | true=>Jq X o.dst g (first ++ pM X.E.P (sZ X.E o) az ++ caps) (xB [] (PV.xM (first ++ pM X.E.P (sZ X.E o) az ++ caps))) K Z
   | false=>zM X o.dst g (first ++ pM X.E.P (sZ X.E o) az ++ caps) (He Z.h 3 (xB [] (PV.xM (first ++ pM X.E.P (sZ X.E o) az ++ caps)))) K Z)
  | false=>match PV.flats (first ++ pM X.E.P (sZ X.E o) az ++ caps) with
   | true=>jO X.C g (first ++ pM X.E.P (sZ X.E o) az ++ caps) fun r=>X.W g [] r [] fun r' _=>(match !draw&&dF X.E.mu o.dst with
    | true=>a6G X o.dst r' K Z
    | false=>(match PV.flat r' with | true=>dG X.E o.dst r' K Z | false=>none))
   | false=>(match draw with
    | true=>match dF X.E.sy o.dst&&aTC X.E.ln (He Z.h 3 (xB [] (PV.xM (first ++ pM X.E.P (sZ X.E o) az ++ caps)))) Z.h.length with
     | true=>zM X o.dst g (first ++ pM X.E.P (sZ X.E o) az ++ caps) (He Z.h 3 (xB [] (PV.xM (first ++ pM X.E.P (sZ X.E o) az ++ caps)))) K Z
     | false=>none
    | false=>match dF X.E.ln o.dst with
     | true=>aHK X o.dst g (first ++ pM X.E.P (sZ X.E o) az ++ caps) K Z
     | false=>match dF X.E.sy o.dst with
     | true=>Jq X o.dst g (first ++ pM X.E.P (sZ X.E o) az ++ caps) (xB [] (PV.xM (first ++ pM X.E.P (sZ X.E o) az ++ caps))) K Z
     | false=>zM X o.dst g (first ++ pM X.E.P (sZ X.E o) az ++ caps) (He Z.h 3 (xB [] (PV.xM (first ++ pM X.E.P (sZ X.E o) az ++ caps)))) K Z))
 | _,_=>none
def Yg (X:XE) (o:Oper) (f:Operand) (args:List Operand) (K:ASt->R) (Z:ASt):R :=
 match Z.rd f,ji (args.map Z.rd) with
 | some p,some az=>OX p fun g first caps=>chk (PV.flats (first ++ pM X.E.P (sZ X.E o) az ++ caps)) (jO X.C g (first ++ pM X.E.P (sZ X.E o) az ++ caps) fun r=>X.V o.type r fun r'=>(match PV.flat r' with | true=>dG X.E o.dst r' K Z | false=>none))
 | _,_=>none
def Hl (X:XE) (draw:Bool) (o:Oper) (K:ASt->R) (Z:ASt):R :=
 match AZ o with
 | some (f,args)=>(match dF X.E.sy (o.dst.map (2000000 + ·)) with | true=>Yg X o f args K Z | false=>Jp X draw o f args K Z)
 | none=>match draw with
  | true=>OM X o K Z
  | false=>match aA4 X.E o Z with
   | some (es,pos)=>IV es fun b=>dG X.E o.dst (.bool (b==pos)) K Z
   | none=>OM X o K Z
def Hm (X:XE) (draw:Bool) (o:Oper) (d:Nat) (want v:Bool) (K:ASt->R) (Z:ASt):R :=
 match v==want with
 | true=>Hl X draw o K (Z.lit d v)
 | false=>dG X.E o.dst (.tuple []) K (Z.lit d v)
def jm (X:XE) (draw:Bool) (ops:Array Oper):List Oper->(ASt->R)->ASt->R
 | [],K,Z=>K Z
 | o::l,K,Z=>match o.guard with
  | none=>Hl X draw o (jm X draw ops l K) Z
  | some (j,want)=>match (ops[j]?).bind (·.dst) with
   | none=>dG X.E o.dst (.tuple []) (jm X draw ops l K) Z
   | some d=>match bZ d Z.s with
    | some (.bool b)=>aA b (Hm X draw o d want true (jm X draw ops l K) Z) (Hm X draw o d want false (jm X draw ops l K) Z)
    | some (.tuple [])=>dG X.E o.dst (.tuple []) (jm X draw ops l K) Z
    | _=>none
def wU (k:ASt->R) (K:AX->ASt->R):AX->ASt->R
 | .normal,Z=>k Z
 | .ret,Z=>K .ret Z
 | .exit i,Z=>K (.exit i) Z
def ak (id:Nat) (K:AX->ASt->R):AX->ASt->R
 | .exit i,Z=>if i=id then K .normal Z else K (.exit i) Z
 | .normal,Z=>K .normal Z
 | .ret,Z=>K .ret Z
def ASt.keys (E:AE) (Z:ASt):List Nat:=(Z.keep E.vars).s.map (·.1)
def CV:Code->Nat
 | .region id _ _=>id+1
 | .seq .skip y=>CV y
 | .seq (.label _) y=>CV y
 | .seq x _=>CV x
 | .block _ x=>CV x
 | .scope x=>CV x
 | .loop x=>CV x
 | _=>0
mutual
def PV.aVJ:PV->Nat
 | .ptr i _=>i+1
 | .dA _ i=>i+1
 | .slh i _ _ _=>i+1
 | .func _ f c=>Nat.max (PV.GX f) (PV.GX c)
 | .agg cs=>PV.GX cs
 | .tuple cs=>PV.GX cs
 | _=>0
def PV.GX:bZZ->Nat
 | []=>0
 | p::ps=>Nat.max p.aVJ (PV.GX ps)
end
def aVK:fP->Nat
 | []=>0
 | (_,p)::l=>Nat.max p.aVJ (aVK l)
def aD4:Nat->aG->Nat
 | 0,_=>0
 | _,[]=>0
 | n+1,o::h=>Nat.max (match o with | some cs=>PV.GX cs | none=>0) (aD4 n h)
def aUG:PV->List Nat
 | .slh i _ _ _ => [i]
 | _ => []
def Dj:bZZ->List Nat
 | [] => []
 | p::ps=>xB (aUG p) (Dj ps)
def aA8:List Nat->List Nat
 | [] => []
 | k::l=>(match Nat.ble 8500000 k with | true=>(k-8500000)::aA8 l | false=>aA8 l)
def TG (l:List Nat):fP->List Nat
 | []=>aA8 l
 | (k,p)::s=>(match nR l k with | true=>xB (match nR l (7000000+k) with | true=>p.ids | false=>aUG p) (TG l s) | false=>TG l s)
def J3 (fl:List Nat):Nat->aG->aG
 | _,[] => []
 | j,o::h=>(match nR fl j with | true=>none | false=>o)::J3 fl (j+1) h
def plainO (h:aG):List Nat->Bool
 | []=>true
 | i::is=>(match h[i]? with | some (some cs)=>cs.all pW | _=>true)&&plainO h is
def VC (m0:Nat) (l:List Nat) (Z:ASt):Nat :=
 let h:=J3 (TG l Z.s) 0 Z.h
 let a:=Nat.max m0 (aVK (Z.keep l).s)
 let b:=Nat.max a (aD4 a h)
 Nat.max b (aD4 b h)
def Ff (l:List Nat) (m:Nat) (Z:ASt):Bool:=plainO (Z.gc l m).h (TG l (Z.gc l m).s)
def Du (l:List Nat) (m:Nat) (Z:ASt):Bool:=(Z.gc l m).s.all (fun kp=>kp.2.blw m)&&AL m (J3 (TG l (Z.gc l m).s) 0 (Z.gc l m).h)
theorem aUD (fl:List Nat):∀ (h:aG) (j k:Nat) (o:Option (bZZ)),h[k]? = some o->(J3 fl j h)[k]? = some (match nR fl (j+k) with | true=>none | false=>o)
 | [],_,_,_,h=>by simp at h
 | a::h,j,0,o,e=>by grind [J3]
 | a::h,j,k+1,o,e=>by rw[J3,aE0,aUD fl h (j+1) k o (by grind),show j+1+k=j+(k+1) by omega]
theorem aSK {h:aG}:∀ {fl:List Nat} {i:Nat} {cs:bZZ},plainO h fl=true->i∈fl->h[i]? = some (some cs)->cs.all pW=true
 | a::fl,i,cs,hp,hi,e=>by
  simp only[plainO,bI] at hp;rcases kG.1 hi with rfl | hi
  .have:=hp.1; rw[e] at this; exact this
  .exact aSK hp.2 hi e
theorem aSL (m:Nat):∀ {cs:bZZ},cs.all pW=true->PV.blws m cs=true
 | [],_=>rfl
 | p::cs,h=>by simp only[BC,bI,pW] at h;simp only[PV.blws,aI3 m p h.1.2,aSL m h.2,JG]
theorem aG4 {m:Nat} {h:aG} {fl:List Nat} (hp:plainO h fl=true) (hb:AL m (J3 fl 0 h)=true):AL m h=true:=by
 unfold AL at hb ⊢;rw[jF] at hb ⊢;intro o ho;obtain ⟨k,hk⟩:=yu.1 ho;have h1:=aUD fl h 0 k o hk;cases hi:nR fl k with
 | true =>
  cases o with
  | none=>rfl
  | some cs=>exact aSL m (aSK hp (a0R.1 hi) hk)
 | false =>grind
theorem a7U {l:List Nat} {m:Nat} {Z:ASt} (hp:Ff l m Z=true) (hg:Du l m Z=true):Dt l m Z=true:=by unfold Du at hg;unfold Dt;rw[bI] at hg ⊢;exact ⟨hg.1,aG4 hp hg.2⟩
def EC (E:AE) (m0:Nat) (y:Code) (k:ASt->R) (Z:ASt):R:=match E.jt.lookup (CV y) with
 | some l=>chk (Ff l (VC m0 l Z) Z) (match decide (m0<=VC m0 l Z)&&Du l (VC m0 l Z) Z with | true=>k (Z.gc l (VC m0 l Z)) | false=>none)
 | none=>k Z
def nP (k:ASt->R):List Nat->ASt->R
 | [],Z=>k Z
 | d::ds,Z=>match Nat.ble 9000000 d with
  | true=>(match bZ (d-9000000) Z.s with
   | some (.ptr i 0)=>(match Z.h[i]? with
    | some (some cs)=>chk (decide (0<cs.length)&&cs.all fun p=>p.one&&p.flat) (nP k ds ⟨iM (d-9000000) (.cst ((lT cs.length cs 1).headD .nilp)) Z.s,Z.h.set i none⟩)
    | _=>nP k ds Z)
   | _=>nP k ds Z)
  | false=>match Nat.ble 5000000 d with
  | true=>(match bZ ((d-5000000) / 100) Z.s with
   | some (.ptr i2 0)=>(match Z.h[i2]? with
    | some (some cs0)=>(match cs0[(d-5000000) % 100]? with
     | some (.slh i 0 n sz)=>(match Z.h[i]? with
      | some (some cs)=>chk (decide (n*sz<=cs.length)&&decide (0<sz)&&cs.all (fun p=>p.one&&p.flat) && !Nat.beq i i2) (nP k ds ⟨Z.s,(Z.h.set i none).set i2 (some (cs0.set ((d-5000000) % 100) (.sl false sz (lT sz cs n))))⟩)
      | _=>nP k ds Z)
     | _=>nP k ds Z)
    | _=>nP k ds Z)
   | _=>nP k ds Z)
  | false=>match Nat.ble 4000000 d with
  | true=>(match bZ ((d-4000000) / 100) Z.s with
   | some (.ptr i 0)=>(match Z.h[i]? with
    | some (some cs0)=>(match cs0[(d-4000000) % 100]? with
     | some (.gX true n sz cs)=>aA (Nat.ble 1 n) (nP k ds ⟨Z.s,Z.h.set i (some (cs0.set ((d-4000000) % 100) (.slh Z.h.length 0 n sz))) ++ [some cs]⟩) (nP k ds ⟨Z.s,Z.h.set i (some (cs0.set ((d-4000000) % 100) (.sl false sz [])))⟩)
     | _=>nP k ds Z)
    | _=>nP k ds Z)
   | _=>nP k ds Z)
  | false=>match Nat.ble 3000000 d with
  | true=>(match bZ ((d-3000000) % 500000) Z.s with
   | some (.gX true n sz cs)=>(match Nat.ble 3500000 d with
    | true=>chk (Nat.ble 1 n) (nP k ds ⟨iM ((d-3000000) % 500000) (.slh Z.h.length 0 n sz) Z.s,Z.h ++ [some cs]⟩)
    | false=>aA (Nat.ble 1 n) (nP k ds ⟨iM ((d-3000000) % 500000) (.slh Z.h.length 0 n sz) Z.s,Z.h ++ [some cs]⟩) (nP k ds ⟨iM ((d-3000000) % 500000) (.sl false sz []) Z.s,Z.h⟩))
   | _=>nP k ds Z)
  | false=>match Nat.ble 1000000 d with
   | true=>(match bZ (d-1000000) Z.s with
    | some (.slh i 0 n sz)=>(match Z.h[i]? with
     | some (some cs)=>chk (decide (n*sz<=cs.length)&&decide (0<sz)&&cs.all fun p=>p.one&&p.flat) (nP k ds ⟨iM (d-1000000) (.sl false sz (lT sz cs n)) Z.s,Z.h.set i none⟩)
     | _=>nP k ds Z)
    | _=>nP k ds Z)
   | false=>nP k ds (xK d Z)
def wH (E:AE) (m0:Nat) (y:Code) (k:ASt->R) (Z:ASt):R:=match E.ft.lookup (CV y) with
 | some ks=>nP (EC E m0 y k) ks Z
 | none=>EC E m0 y k Z
def oQ (E:AE) (m0:Nat) (x:Code) (Z:ASt):List Nat×Nat:=match E.lt.lookup (CV x) with
 | some l=>(l,VC m0 l Z)
 | none=>(Z.keys E,Z.h.length)
open Classical in
def dD (a b:R):R:=match a with
 | some (r,h)=>(match b with | some (r',h')=>(match PV.pR r r'&&Di h h' with | true=>some (r,h) | false=>if r=r'/\h=h' then some (r,h) else none) | none=>none)
 | none=>none
theorem DL (a:R):dD a a=a:=by unfold dD;grind
theorem aXK {a b:R} {v:PV×aG} (h:dD a b=some v):a=some v/\b=some v:=by unfold dD at h;grind [PV.Yd,Yc]
def Xo:List R->R
 | []=>none
 | x::l=>match l with | []=>x | _::_=>dD x (Xo l)
def F6 (X:XE) (ops:Array Oper) (K:ASt->R):Nat->Array Bool->ASt->R
 | 0,L,Z=>(match Region.ready .any ops L with | []=>K Z | _::_=>none)
 | fuel+1,L,Z=>(match Region.ready .any ops L with
  | []=>K Z
  | i::is=>Xo ((match Ho X.E ops L (i::is) with | some j => [j] | none=>i::is).map fun i=>match ops[i]? with
   | none=>none
   | some o=>jm X true ops [o] (F6 X ops K fuel (L.setIfInBounds i true)) Z))
def aHE (X:XE) (ops:Array Oper) (K:ASt->R) (Z:ASt):R:=F6 X ops K ops.size (Array.replicate ops.size false) Z
theorem aFK {v:PV×aG}:∀ {l:List R},Xo l=some v->∀ x,x∈l->x=some v
 | [],_,x,hx=>by cases hx
 | y::l,h,x,hx=>by
  cases l with
  | nil=>rw[xx] at hx; subst hx; exact h
  | cons z l' =>
   obtain ⟨h1,h2⟩:=aXK h;rcases kG.1 hx with hx | hx
   .subst hx; exact h1
   .exact aFK h2 x hx
def bH (X:XE):Code->(AX->ASt->R)->ASt->R
 | .skip,K,Z=>K .normal Z
 | .label _,K,Z=>K .normal Z
 | .exit id,K,Z=>K (.exit id) Z
 | .ret,K,Z=>K .ret Z
 | .region _ ops draw,K,Z=>(match draw with
  | true=>(match okD X.E ops with | true=>jm X true ops ops.toList (K .normal) (Z.head X.E) | false=>aHE X ops (K .normal) (Z.head X.E))
  | false=>jm X false ops ops.toList (K .normal) (Z.head X.E))
 | .seq x y,K,Z=>bH X x (wU (wH X.E X.m0 y (bH X y K)) K) Z
 | .cond c x y,K,Z=>(match Z.rd c with
  | some (.bool b)=>(match c with
   | .tmp d=>aA b (bH X x K (Z.lit d true)) (bH X y K (Z.lit d false))
   | _=>aA b (bH X x K Z) (bH X y K Z))
  | _=>none)
 | .block id x,K,Z=>bH X x (ak id K) Z
 | .scope x,K,Z=>bH X x K Z
 | .loop x,K,Z=>X.L (oQ X.E X.m0 x Z).1 (oQ X.E X.m0 x Z).2 x K (Z.gc (oQ X.E X.m0 x Z).1 (oQ X.E X.m0 x Z).2)
 | _,_,_=>none
section
variable {ι:Type} (Good:(ι->R)->Prop)
structure JV:Prop where
 const:∀ c:R,Good fun _=>c
 bind:∀ (c:ι->R) (k:ι->PV->aG->R),Good c->(∀ r h,Good fun i=>k i r h)->Good fun i=>match c i with | some (r,h)=>k i r h | none=>none
variable {Good} (F:JV Good)
theorem JV.no (F:JV Good):Good fun _=>none:=F.const none
include F
theorem gz {A:ι->R} (h:Good A):Good fun i=>chk b (A i):=by
 cases b
 .exact F.no
 .exact h
theorem AV {A B:ι->R} (h:Good A) (h':Good B):Good fun i=>aA b (A i) (B i):=by
 cases b
 .exact h'
 .exact h
open Classical in
theorem bHY {A B:ι->R} (h:Good A) (h':Good B):Good fun i=>dD (A i) (B i) :=
 F.bind A (fun i r h1=>match B i with | some (r',h')=>(match PV.pR r r'&&Di h1 h' with | true=>some (r,h1) | false=>if r=r'/\h1=h' then some (r,h1) else none) | none=>none) h
  (fun r h1=>F.bind B (fun _ r' h'=>(match PV.pR r r'&&Di h1 h' with | true=>some (r,h1) | false=>if r=r'/\h1=h' then some (r,h1) else none)) h' fun r' h'=>F.const _)
theorem aMW {α:Type} {f:ι->α->R} (h:∀ a,Good fun i=>f i a):∀ l:List α,Good fun i=>Xo (l.map (f i))
 | []=>F.no
 | x::l=>by
  cases l with
  | nil=>exact h x
  | cons y l=>exact bHY F (h x) (aMW h (y::l))
theorem gV {E:AE} {dst:Option Nat} {p:PV} {K:ι->ASt->R} {Z:ASt} (h:∀ Z,Good fun i=>K i Z):Good fun i=>dG E dst p (K i) Z:=by
 unfold dG; split
 .exact h _
 .exact F.no
theorem aN5 {E:AE} {dst:Option Nat} {p:Option PV} {K:ι->ASt->R} {Z:ASt} (h:∀ Z,Good fun i=>K i Z):Good fun i=>VX E dst p (K i) Z:=by
 cases p
 .exact F.no
 .exact gV F h
theorem aN2 {es:bZZ} {n:Int} {K:ι->PV->R} (h:∀ p,Good fun i=>K i p):Good fun i=>bz es n (K i):=by
 unfold bz; split
 .split
  .exact h _
  .exact F.no
 .exact F.no
theorem bI8 {es:bZZ} {n:Nat} {K:ι->PV->R} (h:∀ p,Good fun i=>K i p):Good fun i=>FW es n (K i):=by
 unfold FW; split
 .exact h _
 .exact F.no
theorem bI6 {s:Option IntKind} {l:bZZ} {q:PV} {A:ι->PV->R} {B:ι->R} (h:∀ p,Good fun i=>A i p) (h':Good B):Good fun i=>IP s l q (A i) (B i):=by
 unfold IP; split
 .exact h _
 .exact h'
 .exact F.no
theorem aN3 {s:Option IntKind} {q:PV} {A:ι->PV->R} {B:ι->R} (h:∀ p,Good fun i=>A i p) (h':Good B):∀ (l:bZZ),Good fun i=>Ph s l q (A i) (B i)
 | k::v::L=>by
  simp only[Ph];split
  .exact AV F (h _) (aN3 h h' L)
  .exact F.no
 | []=>h'
 | [_]=>F.no
theorem bI9 {es:bZZ} {K:ι->Bool->R} (h:∀ b,Good fun i=>K i b):Good fun i=>IV es (K i):=by
 have:=F.bind (fun i=>K i false) (fun i r hh=>match es.isEmpty with | false=>some (r,hh) | true=>match K i true with | some (r',h')=>Jm (r,hh) (r',h') | none=>none) (h false) (fun r hh=>by
  cases es.isEmpty
  .exact F.const _
  .exact F.bind (fun i=>K i true) (fun _ r' h'=>Jm (r,hh) (r',h')) (h true) fun r' h'=>F.const _)
 exact this
theorem bHZ {n:Int} {K:ι->Int->R} (h:∀ p,Good fun i=>K i p):Good fun i=>vw s n (K i):=by
 unfold vw; split
 .split
  .exact h _
  .exact F.no
 .exact F.no
theorem a7Z {C:ι->Cal} {g:FuncId} {args:bZZ} {K:ι->PV->R} (hC:∀ g args h,Good fun i=>C i g args h) (h:∀ p,Good fun i=>K i p):Good fun i=>jO (C i) g args (K i):=by
 have:=F.bind (fun i=>C i g args []) (fun i r h=>match h with | []=>K i r | _=>none) (hC _ _ _) (fun r hh=>by
  cases hh
  .exact h r
  .exact F.no)
 grind [jO]
theorem a0N {C:ι->Cal} {g:FuncId} {args:bZZ} {hh:aG} {K:ι->PV->aG->R} (hC:∀ g args h,Good fun i=>C i g args h) (h:∀ p q,Good fun i=>K i p q):Good fun i=>AO (C i) g args hh (K i) :=F.bind (fun i=>C i g args hh) K (hC _ _ _) h
def XE.up (X:XE) (C:Cal) (L:List Nat->Nat->Code->(AX->ASt->R)->ASt->R):XE := { X with C:=C,L:=L }
def yf (V:TypeId->PV->(PV->R)->R):Prop:=∀ t p,(∀ K,V t p K=K p)\/(∀ K,V t p K=none)
def uT (W:FuncId->aG->PV->aG->(PV->aG->R)->R):Prop:=∀ g h r h',(∀ K,W g h r h' K=K r h')\/(∀ K,W g h r h' K=none)
variable {X:XE} {C:ι->Cal} {L:ι->List Nat->Nat->Code->(AX->ASt->R)->ASt->R} (hV:yf X.V) (hW:uT X.W) (hC:∀ g args h,Good fun i=>C i g args h)
 (hL:∀ (l:List Nat) (m:Nat) (x:Code) (K:ι->AX->ASt->R) (Z:ASt),(∀ e Z,Good fun i=>K i e Z)->Good fun i=>L i l m x (K i) Z)
theorem aN0 {p:PV} {K:ι->Bool->R} (h:∀ b,Good fun i=>K i b):Good fun i=>TL p (K i):=by
 unfold TL;split
 .exact h _
 .exact h _
 .exact F.no
theorem bI3 {p:PV} {K:ι->FuncId->bZZ->bZZ->R} (h:∀ g a b,Good fun i=>K i g a b):Good fun i=>OX p (K i):=by
 unfold OX;split;simp_all
 .exact F.no
theorem aMX {n:Int} {K:ι->PV->R} (h:∀ p,Good fun i=>K i p):∀ (cs:bZZ) (k:Nat),Good fun i=>SB cs k n (K i)
 | [],_=>F.no
 | p::r,k=>AV F (h p) (aMX h r (k+1))
theorem bI2 {o:Oper} {K:ι->ASt->R} {Z:ASt} (h:∀ Z,Good fun i=>K i Z):Good fun i=>pU (X.up (C i) (L i)) o (K i) Z:=by
 show Good fun i=>match bY X.E o Z with | some (p,Z1)=>dG X.E o.dst p (K i) Z1 | none=>none
 split
 .exact gV F h
 .exact F.no
include hV in
theorem Oy {t:TypeId} {p:PV} {K:ι->PV->R} (h:∀ p,Good fun i=>K i p):Good fun i=>X.V t p (K i):=by
 rcases hV t p with e | e
 .simp only[e]; exact h p
 .simp only[e]; exact F.no
include hW in
theorem Oz {g:FuncId} {hh h':aG} {r:PV} {K:ι->PV->aG->R} (h:∀ p q,Good fun i=>K i p q):Good fun i=>X.W g hh r h' (K i):=by
 rcases hW g hh r h' with e | e
 .simp only[e]; exact h _ _
 .simp only[e]; exact F.no
theorem bIC {dst:Option Nat} {sz:Nat} {es:bZZ} {K:ι->ASt->R} {Z:ASt} (h:∀ Z,Good fun i=>K i Z):Good fun i=>Jr (X.up (C i) (L i)) dst sz es lo hi (K i) Z:=by
 cases lo<;>cases hi<;>simp only[Jr]
 .exact gV F h
 all_goals
  split
  .exact gz F (gV F h)
  .exact F.no
theorem bID {dst:Option Nat} {K:ι->ASt->R} {Z:ASt} (h:∀ Z,Good fun i=>K i Z):Good fun i=>Js (X.up (C i) (L i)) dst s lo hi (K i) Z:=by
 cases lo<;>cases hi<;>simp only[Js]
 .exact gV F h
 all_goals
  split
  .exact gz F (gV F h)
  .exact F.no
theorem bIB {dst:Option Nat} {t:TypeId} {i off n sz:Nat} {K:ι->ASt->R} {Z:ASt} (h:∀ Z,Good fun i=>K i Z):Good fun j=>TF (X.up (C j) (L j)) dst t i off n sz lo hi (K j) Z:=by
 simp only[TF,XE.up];split
 .split
  .split
   .split
    .exact gz F (gV F h)
    .exact F.no
   .split
    .exact gz F (AV F (gV F h) (gV F h))
    .exact F.no
   .exact F.no
  .exact F.no
 .exact F.no
theorem bI5 {dst:Option Nat} {t:TypeId} {l c:Operand} {K:ι->ASt->R} {Z:ASt} (h:∀ Z,Good fun i=>K i Z):Good fun j=>Yj (X.up (C j) (L j)) dst t l c (K j) Z:=by
 simp only[Yj,XE.up];split
 .split
  .refine gz F ?_;split
   .exact gV F h
   .split
    .exact gV F h
    .exact F.no
  .exact F.no
 .exact F.no
theorem bH' {dst:Option Nat} {t:TypeId} {K:ι->ASt->R} {Z:ASt} (h:∀ Z,Good fun i=>K i Z):Good fun j=>Yh (X.up (C j) (L j)) dst t x (K j) Z:=by
 simp only[Yh,XE.up];split
 .split
  .split
   .exact gz F (h _)
   .exact F.no
  .exact F.no
 .exact h _
 .exact F.no
theorem aN6 {dst:Option Nat} {t:TypeId} {m q x:PV} {K:ι->ASt->R} {Z:ASt} (h:∀ Z,Good fun i=>K i Z):Good fun j=>OQ (X.up (C j) (L j)) dst t m q x (K j) Z:=by
 simp only[OQ,XE.up];split
 .split
  .split
   .split
    .exact gz F (h _)
    .exact F.no
   .exact F.no
  .exact F.no
 .exact F.no
theorem bI7 {dst:Option Nat} {q:Option PV} {K:ι->ASt->R} {Z:ASt} (h:∀ Z,Good fun i=>K i Z):Good fun j=>Yk (X.up (C j) (L j)) dst b q (K j) Z:=by
 simp only[Yk];split
 .split
  .split
   .split
    .exact gz F (AV F (gV F h) (gV F h))
    .exact F.no
   .exact F.no
  .exact F.no
 .exact F.no
include hV in
theorem bI4 {dst:Option Nat} {t:TypeId} {ok:Bool} {m q:PV} {K:ι->ASt->R} {Z:ASt} (h:∀ Z,Good fun i=>K i Z):Good fun j=>Yi (X.up (C j) (L j)) dst t ok m q (K j) Z:=by
 simp only[Yi,XE.up];split
 .split
  .split
   .split
    .split
     .exact aN3 F (fun p=>gV F h) (gV F h) _
     .exact bI6 F (fun p=>Oy F hV fun q=>gV F h) (gV F h)
    .exact F.no
   .exact F.no
  .exact F.no
 .exact F.no
include hV in
theorem aMZ {o:Oper} {K:ι->ASt->R} {Z:ASt} (h:∀ Z,Good fun i=>K i Z):Good fun i=>OM (X.up (C i) (L i)) o (K i) Z:=by
 have hg:=fun {Z:ASt}=>bI2 F (X:=X) (C:=C) (L:=L) (o:=o) (Z:=Z) h
 unfold OM;simp only[XE.up];split
 .split
  .split
   .exact gz F (gV F h)
   .exact F.no
  .exact hg
 .split
  .simp only[a6E];split
   .split
    .exact aN2 F fun p=>Oy F hV fun q=>gV F h
    .exact F.no
   .exact F.no
  .split
   .split
    .split
     .exact gz F (gV F h)
     .exact F.no
    .exact F.no
   .exact hg
  .split
   .split
    .exact gz F (gV F h)
    .exact F.no
   .exact hg
  .split
   .refine gz F (aN2 F fun p=>Oy F hV fun q => ?_);split
    .exact gV F h
    .exact F.no
   .exact hg
  .exact hg
 .split
  .split
   .split
    .split
     .exact gz F (Oy F hV fun q=>gV F h)
     .split
      .exact bI8 F fun p=>Oy F hV fun q=>gV F h
      .exact F.no
    .exact F.no
   .exact F.no
  .split
   .exact gz F (gV F h)
   .exact hg
 .split
  .split
   .split
    .split
     .split
      .exact gz F (h _)
      .exact F.no
     .split
      .exact gz F (h _)
      .exact F.no
    .exact F.no
   .exact F.no
  .split
   .split
    .split
     .split
      .exact gz F (h _)
      .exact F.no
     .exact F.no
    .exact F.no
   .exact hg
 .split
  .split
   .exact bHZ F fun p=>gV F h
   .exact F.no
  .split
   .split
    .refine gz F (aMX F (fun p => ?_) _ _);split
     .exact gV F h
     .exact F.no
    .exact F.no
   .exact hg
  .exact hg
 .split
  .exact AV F (aN5 F h) (aN5 F h)
  .exact F.no
 .split
  .split
   .split
    .exact bIC F h
    .exact F.no
   .exact F.no
  .split
   .exact bID F h
   .exact F.no
  .exact bIB F h
  .exact hg
 .split
  .split
   .split
    .exact gz F (gV F h)
    .exact F.no
   .exact F.no
  .exact F.no
 .exact bI5 F h
 .split
  .exact bI4 F hV h
  .exact F.no
 .split
  .exact aN6 F h
  .exact F.no
 .split
  .exact F.no
  .split
   .exact aN6 F h
   .exact F.no
 .exact bI7 F h
 .split
  .split
   .split
    .exact gz F (gV F h)
    .exact F.no
   .exact hg
  .exact hg
 .split
  .exact gz F (gV F h)
  .exact hg
 .split
  .simp only[OJ]; split
   .exact gz F (gV F h)
   .exact F.no
  .simp only[OJ]; split
   .exact gz F (gV F h)
   .exact F.no
  .exact gz F (gV F h)
  .exact gz F (gV F h)
  .exact gz F (gV F h)
  .simp only[OL]; split
   .exact aN0 F fun b=>gV F h
   .exact F.no
  .simp only[OL]; split
   .exact aN0 F fun b=>gV F h
   .exact F.no
  .exact hg
 .split
  .split
   .exact bH' F h
   .exact F.no
  .split
   .simp only[a6D];split
    .split
     .split
      .exact gz F (gV F h)
      .exact F.no
     .exact F.no
    .split
     .split
      .exact gz F (gV F h)
      .exact F.no
     .exact F.no
    .exact F.no
   .exact F.no
  .split
   .split
    .exact gz F hg
    .exact gz F hg
    .simp only[a6C];split
     .split
      .split
       .exact gz F (gV F h)
       .exact F.no
      .exact F.no
     .exact F.no
    .exact gz F hg
    .split
     .exact gz F hg
     .exact F.no
    .exact F.no
   .exact F.no
  .exact hg
  .exact F.no
 .exact hg
include hW hC in
theorem bI1 {o:Oper} {args:List Operand} {K:ι->ASt->R} {Z:ASt} (h:∀ Z,Good fun i=>K i Z):Good fun i=>Jp (X.up (C i) (L i)) draw o f args (K i) Z:=by
 have hH:∀ {dst:Option Nat} {g:FuncId} {full:bZZ} {ids:List Nat},Good fun i=>zM (X.up (C i) (L i)) dst g full ids (K i) Z:=fun {dst g full ids}=>by
  simp only[zM];split
  .exact a0N F hC fun r h'=>Oz F hW fun p q=>gV F h
  .exact F.no
 unfold Jp;simp only[XE.up] at hH ⊢;have hP:∀ {dst:Option Nat} {g:FuncId} {full:bZZ} {ids:List Nat},Good fun i=>Jq (X.up (C i) (L i)) dst g full ids (K i) Z:=fun {dst g full ids}=>by
  simp only[Jq];split
  .exact gz F (a0N F hC fun r h'=>Oz F hW fun p q=>gz F (gV F h))
  .exact F.no
 simp only[XE.up] at hP;split
 .split
  .split
   .exact hP
   .exact hH
  split
  .refine a7Z F hC fun r=>Oz F hW fun p q => ?_
   cases (!draw&&dF X.E.mu o.dst)
   .cases PV.flat p
    .exact F.no
    .exact gV F h
   .simp only[a6G];split
    .exact gz F (gV F h)
    .exact AV F (gz F (gV F h)) (gV F h)
    .exact F.no
  .cases draw
   .cases dF X.E.ln o.dst
    .cases dF X.E.sy o.dst
     .exact hH
     .simp only[Jq];split
      .exact gz F (a0N F hC fun r h'=>Oz F hW fun p q=>gz F (gV F h))
      .exact F.no
    .simp only[aHK];refine gz F (a7Z F hC fun r=>Oz F hW fun p q => ?_);cases PV.vG p
     .exact F.no
     .exact gV F h
   .dsimp only;split
    .exact hH
    .exact F.no
 .exact F.no
include hV hW hC in
theorem aMY {o:Oper} {K:ι->ASt->R} {Z:ASt} (h:∀ Z,Good fun i=>K i Z):Good fun i=>Hl (X.up (C i) (L i)) draw o (K i) Z:=by
 unfold Hl;split
 .simp only[XE.up];split
  .simp only[Yg];split
   .refine bI3 F fun g a b=>gz F (a7Z F hC fun r=>Oy F hV fun r' => ?_)
    split
    .exact gV F h
    .exact F.no
   .exact F.no
  .exact bI1 F hW hC h
 .cases draw
  .simp only[XE.up];split
   .exact bI9 F fun b=>gV F h
   .exact aMZ F hV h
  .exact aMZ F hV h
include hV hW hC in
theorem UQ {ops:Array Oper}:∀ (l:List Oper) {K:ι->ASt->R} {Z:ASt},(∀ Z,Good fun i=>K i Z)->Good fun i=>jm (X.up (C i) (L i)) draw ops l (K i) Z
 | [],K,Z,h=>h Z
 | o::l,K,Z,h=>by
  have ih:∀ Z,Good fun i=>jm (X.up (C i) (L i)) draw ops l (K i) Z:=fun Z=>UQ l h
  have hp:∀ {p:PV} {Z:ASt},Good fun i=>dG X.E o.dst p (jm (X.up (C i) (L i)) draw ops l (K i)) Z:=gV F ih
  have hgd:∀ (d:Nat) (want v:Bool),Good fun i=>Hm (X.up (C i) (L i)) draw o d want v (jm (X.up (C i) (L i)) draw ops l (K i)) Z:=fun d want v=>by
   unfold Hm;split
   .exact aMY F hV hW hC ih
   .exact hp
  simp only[jm];split
  .exact aMY F hV hW hC ih
  .split
   .exact hp
   .split
    .exact AV F (hgd _ _ _) (hgd _ _ _)
    .exact hp
    .exact F.no
omit F in
theorem UR {k:ι->ASt->R} {K:ι->AX->ASt->R} (h:∀ Z,Good fun i=>k i Z) (h':∀ e Z,Good fun i=>K i e Z) (e:AX) (Z:ASt):Good fun i=>wU (k i) (K i) e Z:=by
 cases e
 .exact h Z
 .exact h' _ _
 .exact h' _ _
omit F in
theorem a7Y {id:Nat} {K:ι->AX->ASt->R} (h':∀ e Z,Good fun i=>K i e Z) (e:AX) (Z:ASt):Good fun i=>ak id (K i) e Z:=by
 cases e with
 | normal=>exact h' _ _
 | ret=>exact h' _ _
 | exit j =>
  simp only[ak]; split
  .exact h' _ _
  .exact h' _ _
theorem pY {k:ι->ASt->R} (h:∀ Z,Good fun i=>k i Z):∀ (ks:List Nat) {Z:ASt},Good fun i=>nP (k i) ks Z
 | [],Z=>h Z
 | d::ds,Z=>by
  simp only[nP];split
  .split
   .split
    .exact gz F (pY h ds)
    .exact pY h ds
   .exact pY h ds
  split
  .split
   .split
    .split
     .split
      .exact gz F (pY h ds)
      .exact pY h ds
     .exact pY h ds
    .exact pY h ds
   .exact pY h ds
  split
  .split
   .split
    .split
     .exact AV F (pY h ds) (pY h ds)
     .exact pY h ds
    .exact pY h ds
   .exact pY h ds
  split
  .split
   .split
    .exact gz F (pY h ds)
    .exact AV F (pY h ds) (pY h ds)
   .exact pY h ds
  split
  .split
   .split
    .exact gz F (pY h ds)
    .exact pY h ds
   .exact pY h ds
  .exact pY h ds
include hV hW hC in
theorem aM' {ops:Array Oper} {K:ι->ASt->R} (h:∀ Z,Good fun i=>K i Z):∀ (fuel:Nat) (B:Array Bool) (Z:ASt),Good fun i=>F6 (X.up (C i) (L i)) ops (K i) fuel B Z
 | 0,B,Z=>by
  unfold F6;cases Region.ready .any ops B with
  | nil=>exact h Z
  | cons _ _=>exact F.no
 | fuel+1,B,Z=>by
  unfold F6;cases Region.ready .any ops B with
  | nil=>exact h Z
  | cons j js =>
   refine aMW F (f:=fun i k=>match ops[k]? with
    | none=>none
    | some o=>jm (X.up (C i) (L i)) true ops [o] (F6 (X.up (C i) (L i)) ops (K i) fuel (B.setIfInBounds k true)) Z) (fun k => ?_) (match Ho X.E ops B (j::js) with | some j => [j] | none=>j::js)
   cases ops[k]? with
   | none=>exact F.no
   | some o=>exact UQ F hV hW hC [o] fun Z=>aM' h fuel _ Z
include hV hW hC hL in
theorem Dv:∀ (c:Code) {K:ι->AX->ASt->R} {Z:ASt},(∀ e Z,Good fun i=>K i e Z)->Good fun i=>bH (X.up (C i) (L i)) c (K i) Z
 | .skip,K,Z,h=>h _ _
 | .label _,K,Z,h=>h _ _
 | .exit _,K,Z,h=>h _ _
 | .ret,K,Z,h=>h _ _
 | .region _ ops draw,K,Z,h=>by
  simp only[bH];cases draw
  .exact UQ F hV hW hC ops.toList (Z:=Z.head X.E) fun Z=>h .normal Z
  .show Good fun i=>match okD X.E ops with | true=>jm (X.up (C i) (L i)) true ops ops.toList (K i .normal) (Z.head X.E) | false=>aHE (X.up (C i) (L i)) ops (K i .normal) (Z.head X.E)
   split
   .exact UQ F hV hW hC ops.toList (Z:=Z.head X.E) fun Z=>h .normal Z
   .exact aM' F hV hW hC (fun Z=>h .normal Z) _ _ _
 | .seq x y,K,Z,h=>by
  simp only[bH];refine Dv x fun e Z=>UR (fun Z => ?_) h e Z
  show Good fun i=>wH X.E X.m0 y (bH (X.up (C i) (L i)) y (K i)) Z
  have hj:∀ Z,Good fun i=>EC X.E X.m0 y (bH (X.up (C i) (L i)) y (K i)) Z:=fun Z=>by
   unfold EC;split
   .refine gz F ?_;split
    .exact Dv y h
    .exact F.no
   .exact Dv y h
  unfold wH;split
  .exact pY F hj _
  .exact hj _
 | .cond c x y,K,Z,h=>by
  simp only[bH];split
  .split
   .exact AV F (Dv x h) (Dv y h)
   .exact AV F (Dv x h) (Dv y h)
  .exact F.no
 | .block id x,K,Z,h=>by simp only[bH]; exact Dv x fun e Z=>a7Y h e Z
 | .scope x,K,Z,h=>by simp only[bH]; exact Dv x h
 | .loop x,K,Z,h=>hL (oQ X.E X.m0 x Z).1 (oQ X.E X.m0 x Z).2 x K (Z.gc (oQ X.E X.m0 x Z).1 (oQ X.E X.m0 x Z).2) h
 | .rangeFunc _ _ _ _,K,Z,h=>F.no
 | .goto _,K,Z,h=>F.no
 | .refuse _,K,Z,h=>F.no
end
section
variable {X:XE} {K:ASt->R} {Z:ASt} {v:PV×aG} {o:Oper} {ops:Array Oper}
theorem uf {E:AE} {dst:Option Nat} {p:PV} (h:dG E dst p K Z=some v):jE E dst p Z fun Z'=>K Z'=some v:=by grind [dG,jE]
theorem gU {A:R} (h:chk b A=some v):b=true/\A=some v:=by
 cases b
 .cases h
 .exact ⟨rfl,h⟩
theorem iV {E:AE} {p:PV} {Z1:ASt} (h:bY E o Z=some (p,Z1)) (hs:jg E o Z) (hp:dG E o.dst p K Z1=some v):yY E o (fun Z'=>K Z'=some v) Z:=by grind [yY,uf]
theorem rW (hs:jg X.E o Z) (h:pU X o K Z=some v):yY X.E o (fun Z'=>K Z'=some v) Z:=by grind [pU,iV]
theorem a2U {d:Nat} (h:Z.rd (.tmp d)=some (.bool b)):Z.lit d b=Z:=by
 have:bZ d Z.s=some (.bool b):=by
  simp only[ASt.rd,ASt.ev] at h;cases hp:bZ d Z.s with
  | none=>rw[hp] at h; cases h
  | some p =>
   rw[hp] at h;cases p<;>simp[PV.un] at h
   rw[h]
 unfold ASt.lit; rw[aCS this]
theorem Qi {V:TypeId->PV->(PV->R)->R} (hV:yf V) {t:TypeId} {p:PV} {K:PV->R} (h:V t p K=some v):K p=some v:=by
 rcases hV t p with e | e
 simp_all;simp_all
theorem VO {W:FuncId->aG->PV->aG->(PV->aG->R)->R} (hW:uT W) {g:FuncId} {hh h':aG} {r:PV} {K:PV->aG->R} (h:W g hh r h' K=some v):K r h'=some v:=by
 rcases hW g hh r h' with e | e
 simp_all;simp_all
theorem aQ2 {es:bZZ} {n:Int} {K:PV->R} (h:bz es n K=some v):0<=n/\∃ e,es[n.toNat]? = some e/\K e=some v:=by grind [bz]
theorem bMW {es:bZZ} {n:Nat} {K:PV->R} (h:FW es n K=some v):∃ e,es[n]? = some e/\K e=some v:=by grind [FW]
theorem bMZ {es:bZZ} {K:Bool->R} (h:IV es K=some v):K false=some v/\(es = []->K true=some v):=by grind [IV,a_3]
theorem aI5 {p:PV} {K:Bool->R} (h:TL p K=some v):∃ b,K b=some v/\((b=false/\∃ f a c,p = .func f a c)\/(b=true/\p = .raw .nilFunc)):=by unfold TL at h;grind
theorem b0K {p:PV} {K:FuncId->bZZ->bZZ->R} (h:OX p K=some v):∃ g a c,p = .func (.func g) a c/\K g a c=some v:=by unfold OX at h;grind
theorem aFZ {n:Int} {K:PV->R}:∀ {cs:bZZ} {k:Nat},SB cs k n K=some v->∃ j p,n=((k+j:Nat):Int)/\cs[j]? = some p/\K p=some v
 | [],_,h=>by cases h
 | p::r,k,h=>by
  rw[SB] at h;cases hb:n==(k:Int) with
  | true=>rw[hb] at h; exact ⟨0,p,by grind,rfl,h⟩
  | false =>rw[hb] at h;obtain ⟨j,q,e1,e2,e3⟩:=aFZ h;exact ⟨j+1,q,by omega,by grind,e3⟩
theorem aI6 {t:TypeId} {p:PV} (ht:PE P t=true) (hp:(b=false/\∃ f a c,p = .func f a c)\/(b=true/\p = .raw .nilFunc)) (pos:Bool):DR P (match pos with | true => .eql | false => .neq) t p (.raw .nilFunc)=some (.bool (b==pos)):=by rcases hp with ⟨rfl,f,a,c,rfl⟩ | ⟨rfl,rfl⟩<;>cases pos<;>simp[ht]
theorem aYQ {n:Int} {K:Int->R} (h:vw s n K=some v):0<=n/\∃ b,s[n.toNat]? = some b/\K b.toNat=some v:=by grind [vw]
theorem aQL {s:Option IntKind} {q:PV} {A:PV->R} {B:R} {v:PV×aG}:∀ {L:bZZ},Ph s L q A B=some v->(∃ p,xQ s L q=some (some p)/\A p=some v)\/(xQ s L q=some none/\B=some v)
 | k::x::L,h=>by
  simp only[Ph] at h;split at h
  .rename_i b hb;cases b with
   | true=>exact .inl ⟨x,by simp only[xQ,hb],h⟩
   | false =>
    rcases aQL h with ⟨p,h1,h2⟩ | ⟨h1,h2⟩
    .exact .inl ⟨p,by simp only[xQ,hb]; exact h1,h2⟩
    .exact .inr ⟨by simp only[xQ,hb]; exact h1,h2⟩
  .cases h
 | [],h => .inr ⟨rfl,h⟩
 | [_],h=>by cases h
theorem bSO (hc:∀ c,o.op ≠ .call c) (E:AE):jg E o Z:=by simp
theorem bST {t:TypeId} {dst:Option Nat} {sz:Nat} {es:bZZ} {ow:Bool} {I:TI} (ht:jl X.E.P t=some I) (hI:I.size=sz) (hx:Z.rd x=some (.sl ow sz es)) (h:Jr X dst sz es lo hi K Z=some v):
 ∃ p,pop X.E.P Z.rd (.slice t x lo hi none)=some p/\dG X.E dst p K Z=some v:=by
 have hsz:(jl X.E.P t).map TI.size=some sz:=by rw[ht]; simp[hI]
 cases lo with
 | none =>
  cases hi with
  | none=>exact ⟨_,by simp only[pop,hx,wS]; rw[aX ⟨hsz,by omega,by omega,by omega⟩]; simp,h⟩
  | some b =>grind [Jr,gU,pop,wS]
 | some a =>
  cases hi with
  | none =>
   simp only[Jr] at h;split at h
   .rename_i k n hb;obtain ⟨h1,h2⟩:=gU h;simp only[bI,ny] at h1;exact ⟨_,by simp only[pop,hx,hb,NF,wS]; rw[aX ⟨hsz,by omega,by omega,by omega⟩]; simp,h2⟩
   .cases h
  | some b =>grind [Jr,gU,pop,wS]
theorem bSU {t:TypeId} {dst:Option Nat} (ht:uP X.E.P t=true) (hx:Z.rd x=some (.str s)) (h:Js X dst s lo hi K Z=some v):
 ∃ p,pop X.E.P Z.rd (.slice t x lo hi none)=some p/\dG X.E dst p K Z=some v:=by
 cases lo with
 | none =>grind [pop,wS,Js,gU]
 | some a =>
  cases hi with
  | none =>grind [Js,gU,pop,wS]
  | some b =>grind [Js,gU,pop,wS]
theorem bSS {t:TypeId} {dst:Option Nat} {i off n sz:Nat} (hx:Z.rd x=some (.slh i off n sz)) (h:TF X dst t i off n sz lo hi K Z=some v):
 ∃ p,pop X.E.P Z.rd (.slice t x lo hi none)=some p/\dG X.E dst p K Z=some v:=by
 unfold TF at h;split at h
 .rename_i I hT;split at h
  .rename_i hz;simp only[bI,D6] at hz;have hsz:=oJ hz.1;have hm:(jl X.E.P t).map TI.size=some sz:=by rw[hT]; simp[hsz]
   split at h
   grind [gU,pop,wS]
   .split at h
    .rename_i k a ha;obtain ⟨h1,h2⟩:=gU h;simp only[bI,ny] at h1;simp only[pop,hx,ha,NF,wS];rw[aX ⟨hm,h1.1,h1.2,JH _,hz.2⟩];by_cases hl:a<(n:Int)
     .rw[decide_eq_true hl] at h2;exact ⟨_,by rw[aX hl]; simp,h2⟩
     .rw[decide_eq_false hl] at h2;exact ⟨_,by rw[aV hl],h2⟩
    .cases h
   .cases h
  .cases h
 .cases h
theorem aF' {t:TypeId} {m:Nat} {e:TypeId} (h:Xx P t=some (m,e)):∃ I,Et P t=some (m,I)/\I.size=1/\I.agg=false:=by unfold Xx at h;grind [Et,Nat.eq_of_beq_eq_true]
theorem aHL (hV:yf X.V) (hc:AZ o=none) (h:OM X o K Z=some v):yY X.E o (fun Z'=>K Z'=some v) Z:=by
 obtain ⟨dst,op,ty,pos,af,g⟩:=o;unfold OM at h;simp only at h;split at h
 .rename_i s d x;have hs:jg X.E ⟨dst,.convert s d x,ty,pos,af,g⟩ Z:=trivial;split at h
  .rename_i ow sz es hx;split at h
   .rename_i ht;simp only[bI] at ht;obtain ⟨h1,h2⟩:=gU h;exact iV (by grind [bY,pop,Su]) hs h2
   .cases h
  .exact rW hs h
 .rename_i t x i;have hs:jg X.E ⟨dst,.indexAddr t x i,ty,pos,af,g⟩ Z:=trivial;split at h
  .rename_i ow sz es k n hx hi;unfold a6E at h;split at h
   .rename_i e I h1 h2;split at h
    .rename_i hI;obtain ⟨hn,p,hp,h⟩:=aQ2 h;have h:=Qi hV h;exact iV (by grind [bY,pop]) hs h
    .cases h
   .cases h
  .rename_i i0 off m sz k n hx hi;split at h
   .split at h
    .rename_i I hI;split at h
     .rename_i hz;rw[bNC] at h;obtain ⟨h1,h2⟩:=gU h;simp only[bI,ny] at h1;exact iV (p := .ptr i0 (off+n.toNat*sz)) (by grind [bY,pop,Nat.eq_of_beq_eq_true]) hs h2
     .cases h
    .cases h
   .exact rW hs h
  .rename_i i0 off k n hx hi;split at h
   .split at h
    .rename_i m I hI;obtain ⟨h1,h2⟩:=gU h;simp only[bI,ny] at h1;exact iV (p := .ptr i0 (off+n.toNat*I.size)) (by grind [bY,pop]) hs h2
    .cases h
   .exact rW hs h
  .rename_i cs k n hx hi;split at h
   .rename_i m e ht;obtain ⟨h1,h2⟩:=gU h;obtain ⟨hn,p,hp,h⟩:=aQ2 h2;have h:=Qi hV h;obtain ⟨I,hI,hsz,hag⟩:=aF' ht;split at h
    .rename_i ho;refine iV (p := .cst p.un) (by simp only[bY,pop,hx,hi,hI];rw[aX ⟨hn,by grind⟩];simp_all) hs h
    .cases h
   .exact rW hs h
  .exact rW hs h
 .rename_i t a;have hs:jg X.E ⟨dst,.load t a,ty,pos,af,g⟩ Z:=trivial;split at h
  .rename_i hsy;have hln:dF X.E.ln dst=false:=by simp_all
   split at h
   .rename_i I i0 off hI ha;split at h
    .rename_i cs hcs;split at h
     .rename_i hag;obtain ⟨h1,h2⟩:=gU h;have h:=Qi hV h2;exact iV (Z1:=Z) (by grind [bY,oP]) hs h
     .rename_i hag;split at h
      .rename_i hc;simp only[BA] at hc;obtain ⟨q,hq,h⟩:=bMW h;have h:=Qi hV h;exact iV (p:=q.un) (Z1:=Z) (by grind [bY,oP]) hs h
      .cases h
    .cases h
   .cases h
  .split at h
   .rename_i e I ha hI;obtain ⟨h1,h2⟩:=gU h;simp only[bI,ny] at h1;refine iV (p:=e.un) (Z1:=Z) ?_ hs h2;grind [bY,aRR,oP]
   .exact rW hs h
 .rename_i t a x;have hs:jg X.E ⟨dst,.store t a x,ty,pos,af,g⟩ Z:=trivial;split at h
  .rename_i hsy;have hso:∀ r,QX X.E.mu X.E.ln (kW a) r=true:=fun r=>by simp only[bI,BA] at hsy;unfold QX;rw[hsy.2]
   split at h
   .rename_i I i0 off q hI ha hx;split at h
    .rename_i cs hcs;have hcl:(Z.clr x).h=Z.h:=by cases x<;>simp only[ASt.clr]<;>split<;>rfl
     split at h
     .rename_i ds;split at h
      .rename_i hc;simp only[bI] at hc;obtain ⟨h1,h2⟩:=gU h;have hsv:yZ I (.ptr i0 off) (.agg ds) (Z.clr x)=some { Z.clr x with h:=(Z.clr x).h.set i0 (some (cs.take off ++ ds.map PV.un ++ cs.drop (off+I.size))) }:=by simp_all
       exact iV (p := .tuple []) (Z1 := { Z.clr x with h:=(Z.clr x).h.set i0 (some (cs.take off ++ ds.map PV.un ++ cs.drop (off+I.size))) }) (by grind [bY]) hs (by grind [dG,ASt.put])
      .cases h
     .rename_i q' hna;split at h
      .rename_i hc;simp only[bI] at hc;obtain ⟨h1,h2⟩:=gU h;have hsv:yZ I (.ptr i0 off) q (Z.clr x)=some { Z.clr x with h:=(Z.clr x).h.set i0 (some (cs.set off q)) }:=by simp_all
       exact iV (p := .tuple []) (Z1 := { Z.clr x with h:=(Z.clr x).h.set i0 (some (cs.set off q)) }) (by grind [bY]) hs (by grind [dG,ASt.put])
      .cases h
    .cases h
   .cases h
  .split at h
   .rename_i ds hx;split at h
    .rename_i I i0 off hI ha;split at h
     .rename_i cs hcs;split at h
      .rename_i hc;simp only[bI,Nat.ble_eq] at hc;obtain ⟨hso,hc1,hc2⟩:=hc;obtain ⟨h1,h2⟩:=gU h;have hcl:(Z.clr x).h=Z.h:=by cases x<;>simp only[ASt.clr]<;>split<;>rfl
       have hsv:yZ I (.ptr i0 off) (.agg ds) (Z.clr x)=some { Z.clr x with h:=(Z.clr x).h.set i0 (some (cs.take off ++ ds.map PV.un ++ cs.drop (off+I.size))) }:=by simp_all
       exact iV (p := .tuple []) (Z1 := { Z.clr x with h:=(Z.clr x).h.set i0 (some (cs.take off ++ ds.map PV.un ++ cs.drop (off+I.size))) }) (by grind [bY]) hs (by grind [dG,ASt.put])
      .cases h
     .cases h
    .cases h
   .exact rW hs h
 .rename_i t x i;have hs:jg X.E ⟨dst,.index t x i,ty,pos,af,g⟩ Z:=trivial;split at h
  .rename_i s k n hx hi;split at h
   .rename_i ht;obtain ⟨hn,b,hb,h⟩:=aYQ h;exact iV (by grind [bY,pop]) hs h
   .cases h
  .rename_i cs k n hx hi;split at h
   .split at h
    .rename_i m e hm;obtain ⟨c1,h⟩:=gU h;simp only[bI,ny] at c1;obtain ⟨I,h1,h2,h3⟩:=aF' hm;obtain ⟨j,p,e1,e2,h⟩:=aFZ h;split at h
     .rename_i ho;have ej:n.toNat=j:=by omega
      exact iV (p:=p.un) (Z1:=Z) (by grind [bY,pop,xh]) hs h
     .cases h
    .cases h
   .exact rW hs h
  .exact rW hs h
 .rename_i c a b;have hs:jg X.E ⟨dst,.pick c a b,ty,pos,af,g⟩ Z:=trivial;split at h
  .rename_i w hw;cases w with
   | true =>
    have h:VX X.E dst (Z.rd a) K Z=some v:=h;cases ha:Z.rd a with
    | none=>rw[ha] at h; cases h
    | some p =>rw[ha] at h;exact iV (by grind [bY,pop]) hs h
   | false =>
    have h:VX X.E dst (Z.rd b) K Z=some v:=h;cases ha:Z.rd b with
    | none=>rw[ha] at h; cases h
    | some p =>rw[ha] at h;exact iV (by grind [bY,pop]) hs h
  .cases h
 .rename_i t x lo hi;have hs:jg X.E ⟨dst,.slice t x lo hi none,ty,pos,af,g⟩ Z:=trivial;split at h
  .rename_i ow sz es hx;split at h
   .rename_i I hI;split at h
    .rename_i hz;obtain ⟨p,h1,h2⟩:=bST hI hz hx h;exact iV (by grind [bY]) hs h2
    .cases h
   .cases h
  .rename_i s hx;split at h
   .rename_i ht;obtain ⟨p,h1,h2⟩:=bSU ht hx h;exact iV (by grind [bY]) hs h2
   .cases h
  .rename_i i0 off m sz hx;obtain ⟨p,h1,h2⟩:=bSS hx h;exact iV (by grind [bY]) hs h2
  .exact rW hs h
 .rename_i t x l u m;have hs:jg X.E ⟨dst,.slice t x (some l) (some u) (some m),ty,pos,af,g⟩ Z:=trivial;split at h
  .rename_i ow sz es k1 a k2 b k3 c hx hl hu hm;split at h
   .rename_i I hI;split at h
    .rename_i hz;obtain ⟨h1,h2⟩:=gU h;simp only[bI,ny] at h1;obtain ⟨⟨⟨b1,b2⟩,b3⟩,b4⟩:=h1;exact iV (Z1:=Z) (by grind [bY,pop,a3I,Nat.eq_of_beq_eq_true]) hs h2
    .cases h
   .cases h
  .cases h
 .rename_i t l c;have hs:jg X.E ⟨dst,.makeSlice t l c,ty,pos,af,g⟩ Z:=trivial;unfold Yj at h;split at h
  .rename_i I k n k' n' hT hl hc;split at h
   .rename_i hz;simp only[bI,D6,Nat.ble_eq] at hz;obtain ⟨h1,h2⟩:=gU h;simp only[bI,ny] at h1;have hcond:n=n'/\0<=n/\n<=1073741824/\0<I.size/\I.bytes<=1024:=⟨h1.1.1,h1.1.2,h1.2,hz.1,hz.2⟩;split at h2
    .rename_i hm;exact iV (Z1:=⟨Z.s,Z.h ++ [some (wX n.toNat I)]⟩) (by grind [bY]) hs h2
    .rename_i hm;split at h2
     .rename_i hze;simp only[bI] at hze;exact iV (Z1:=Z) (by grind [bY,Nat.eq_of_beq_eq_true]) hs h2
     .cases h2
   .cases h
  .cases h
 .rename_i t m k ok;have hs:jg X.E ⟨dst,.lookup t m k ok,ty,pos,af,g⟩ Z:=trivial;split at h
  .rename_i pm q hm hq;unfold Yi at h;split at h
   .rename_i s z i ht;split at h
    .rename_i cs hcs;split at h
     .rename_i b L hin;split at h
      .rename_i hik;split at h
       .rcases aQL h with ⟨p,hg,h⟩ | ⟨hg,h⟩
        .exact iV (Z1:=Z) (p:=Bj ok z (some p)) (by grind [bY]) hs h
        .exact iV (Z1:=Z) (p:=Bj ok z none) (by grind [bY]) hs h
       .unfold IP at h;split at h
        .rename_i p hg;have h:=Qi hV h;exact iV (Z1:=Z) (p:=Bj ok z (some p)) (by grind [bY]) hs h
        .rename_i hg;exact iV (Z1:=Z) (p:=Bj ok z none) (by grind [bY]) hs h
        .cases h
      .cases h
     .cases h
    .cases h
   .cases h
  .cases h
 .rename_i t m k x;have hs:jg X.E ⟨dst,.mapUpdate t m k x,ty,pos,af,g⟩ Z:=trivial;split at h
  .rename_i pm q y hm hq hy;unfold OQ at h;split at h
   .rename_i s z i ht;split at h
    .rename_i cs hcs;split at h
     .rename_i b L hin;split at h
      .rename_i hik;obtain ⟨h1,h2⟩:=gU h;exact iV (p := .tuple []) (Z1 := { Z with h:=Z.h.set i (some [oW b (jo s L q y)]) }) (by grind [bY]) hs (by grind [dG,ASt.put])
      .cases h
     .cases h
    .cases h
   .cases h
  .cases h
 .rename_i t m k x;have hs:jg X.E ⟨dst,.insert t m k x,ty,pos,af,g⟩ Z:=trivial;split at h
  .cases h
  rename_i hso;split at h
  .rename_i pm q y hm hq hy;unfold OQ at h;split at h
   .rename_i s z i ht;split at h
    .rename_i cs hcs;split at h
     .rename_i b L hin;split at h
      .rename_i hik;obtain ⟨h1,h2⟩:=gU h;exact iV (p := .tuple []) (Z1 := { Z with h:=Z.h.set i (some [oW b (jo s L q y)]) }) (by rw[hm] at hso; grind [bY]) hs (by grind [dG,ASt.put])
      .cases h
     .cases h
    .cases h
   .cases h
  .cases h
 .rename_i x b;have hs:jg X.E ⟨dst,.next x b,ty,pos,af,g⟩ Z:=trivial;unfold Yk at h;split at h
  .rename_i T i hx;split at h
   .rename_i cs hcs;split at h
    .rename_i s p hin;split at h
     .rename_i hT;obtain ⟨h1,h2⟩:=gU h;cases hp:decide (p<(s.size:Int)) with
      | true =>rw[hp] at h2;exact iV (p := .tuple [.bool true,.int .i64 p,.int .i32 (a0W s p)]) (Z1 := { Z with h:=Z.h.set i (some [zQ s (PL s p)]) }) (by grind [bY]) hs h2
      | false =>rw[hp] at h2;exact iV (p := .tuple [.bool false]) (Z1:=Z) (by grind [bY]) hs h2
     .cases h
    .cases h
   .cases h
  .cases h
 .rename_i s x f;have hs:jg X.E ⟨dst,.fieldAddr s x f,ty,pos,af,g⟩ Z:=trivial;split at h
  .rename_i cs fs hx hfs;split at h
   .rename_i off z hf;split at h
    .rename_i p hz hp;obtain ⟨h1,h2⟩:=gU h;have hz:z≠0:=fun e=>by simp_all
     exact iV (p := .cst p.un) (Z1:=Z) (by simp only[bY,pop,hfs,hx,hf,NF,aV hz,Vy,xh,hp,h1,BD,Qo,if_false,XI]) hs h2
    .cases h
   .exact rW hs h
  .exact rW hs h
 .rename_i t x;have hs:jg X.E ⟨dst,.box t x,ty,pos,af,g⟩ Z:=trivial;split at h
  .rename_i ds hf hx;obtain ⟨h1,h2⟩:=gU h;rw[bI] at h1;exact iV (p := .cst (.agg (ds.map PV.un))) (Z1:=Z) (by simp only[bY,hf,hx,NF,BD]; rw[show OW (.agg ds)=some (.agg (ds.map PV.un)) by grind [OW,PV.newCells,PV.flat]]; rfl) hs h2
  .exact rW hs h
 .rename_i YD t x y t';have hs:jg X.E ⟨dst,.binOp YD t x y t',ty,pos,af,g⟩ Z:=trivial;split at h
  .rename_i k a k' b hx hy;unfold OJ at h;split at h
   .rename_i e;obtain ⟨h1,h2⟩:=gU h;have h1:b≠0:=by grind
    exact iV (by grind [bY,pop,DR,P9]) hs h2
   .cases h
  .rename_i k a k' b hx hy;unfold OJ at h;split at h
   .rename_i e;obtain ⟨h1,h2⟩:=gU h;have h1:b≠0:=by grind
    exact iV (by grind [bY,pop,DR,P9]) hs h2
   .cases h
  .rename_i k a k' b hx hy;obtain ⟨h1,h2⟩:=gU h;have h1:¬ b<0:=by grind
   exact iV (by grind [bY,pop,DR,QR]) hs h2
  .rename_i k a k' b hx hy;obtain ⟨h1,h2⟩:=gU h;have h1:¬ b<0:=by grind
   exact iV (by grind [bY,pop,DR,QR]) hs h2
  .rename_i a b hx hy;obtain ⟨h1,h2⟩:=gU h;have h1:=NI h1;exact iV (by grind [bY,pop,DR,Vx]) hs h2
  .rename_i p hx hy;unfold OL at h;split at h
   .rename_i ht;obtain ⟨b,h1,h2⟩:=aI5 h;exact iV (Z1:=Z) (by simp only[bY,pop,hx,hy]; rw[aI6 ht h2 true]; rfl) hs h1
   .cases h
  .rename_i p hx hy;unfold OL at h;split at h
   .rename_i ht;obtain ⟨b,h1,h2⟩:=aI5 h;exact iV (Z1:=Z) (by simp only[bY,pop,hx,hy]; rw[aI6 ht h2 false]; rfl) hs h1
   .cases h
  .exact rW hs h
 .rename_i c;split at h
  .rename_i hca;split at h
   .rename_i x t h1 h2;have hs:jg X.E ⟨dst,.call c,ty,pos,af,g⟩ Z:=by simp_all
    unfold Yh at h;split at h
    .rename_i I i0 off m sz hT hx;split at h
     .rename_i cs hcs;split at h
      .rename_i hz;obtain ⟨c1,c2⟩:=gU h;exact iV (p := .tuple []) (Z1 := { Z with h:=Z.h.set i0 (some (cs.take off ++ (wX m I).map PV.un ++ cs.drop (off+m*sz))) }) (by grind [bY,Nat.eq_of_beq_eq_true]) hs (by grind [dG,ASt.put])
      .cases h
     .cases h
    .rename_i I o' z' hT hx;exact iV (p := .tuple []) (Z1:=Z) (by grind [bY]) hs (by grind [dG,ASt.put])
    .cases h
   .cases h
  .rename_i hca;split at h
   .rename_i x y t u h1 h2;have hs:jg X.E ⟨dst,.call c,ty,pos,af,g⟩ Z:=by simp_all
    unfold a6D at h;split at h
    .rename_i I i0 off n sz o' sz' es hT hx hy;split at h
     .rename_i cs hcs;split at h
      .rename_i hz;simp only[bI,D6] at hz;obtain ⟨z1,z2,z3⟩:=hz;obtain ⟨c1,c2⟩:=gU h;exact iV (p := .int .i64 ((Nat.min es.length n:Nat):Int)) (Z1 := { Z with h:=Z.h.set i0 (some (cs.take off ++ (eu es).take (Nat.min es.length n*sz) ++ cs.drop (off+Nat.min es.length n*sz))) }) (by grind [bY,F5,Nat.eq_of_beq_eq_true]) hs c2
      .cases h
     .cases h
    .rename_i I i0 off n sz j0 a2E m sz' hT hx hy;split at h
     .rename_i cs cs2 hcs hcs2;split at h
      .rename_i hz;simp only[bI,D6] at hz;obtain ⟨z1,z2,z3⟩:=hz;have z3:=oJ z3;subst z3;obtain ⟨c1,c2⟩:=gU h;simp only[bI,ny] at c1;exact iV (p := .int .i64 ((Nat.min m n:Nat):Int)) (Z1 := { Z with h:=Z.h.set i0 (some (cs.take off ++ (((cs2.drop a2E).take (m*sz')).map PV.un).take (Nat.min m n*sz') ++ cs.drop (off+Nat.min m n*sz'))) }) (by grind [F5,bY,Nat.eq_of_beq_eq_true]) hs c2
      .cases h
     .cases h
    .cases h
   .cases h
  .rename_i hca;split at h
   .rename_i s x hxs;split at h
    grind [gU,rW,jg]
    grind [gU,rW,jg]
    .rename_i n1 z1 cs o2 z2 es' he hx;unfold a6C at h;split at h
     .rename_i t u hts;split at h
      .rename_i I hT;split at h
       .rename_i hc;simp only[bI,Gl,D6,Nat.ble_eq] at hc;obtain ⟨c1,c2,c3,c4,c5⟩:=hc;obtain ⟨h1,h2⟩:=gU h;simp only[bI] at h1;have c1:=oJ c1;have c4:=oJ c4;have c5:z2=I.size\/z2=0:=c5.imp (fun e=>oJ e) fun e=>oJ e
        subst c1; subst c4;exact iV (Z1:=Z.clr s) (by grind [bY]) (by grind [jg]) h2
       .cases h
      .cases h
     .cases h
    grind [gU,rW,jg]
    grind [gU,rW,jg]
    .cases h
   .cases h
  grind [rW,jg]
  .cases h
 grind [rW,bSO]
def oN (P:Program) (C:Cal):Prop:=∀ g args h r h',C g args h=some (r,h')->Ev P g args h r h'
theorem Xw {M:Mem} {B:aP}:∀ {ts:List TypeId} {ps:bZZ} {vs:List Value},ay M B ps vs->ay M B (pM P ts ps) vs
 | [],ps,vs,h=>by cases ps<;>exact h
 | t::ts,[],vs,h=>h
 | t::ts,p::ps,vs,h=>by obtain ⟨u,us,rfl,h1,h2⟩:=cO.1 h;exact cO.2 ⟨u,us,rfl,by unfold a3A; split<;>first | exact h1 | exact Vf _ h1,Xw h2⟩
theorem a2Y {M:Mem} {B:aP}:∀ {ps qs:bZZ} {vs:List Value},ay M B (ps ++ qs) vs->∃ us ws,vs=us ++ ws/\ay M B ps us/\ay M B qs ws
 | [],qs,vs,h=>⟨[],vs,rfl,dW.2 rfl,h⟩
 | p::ps,qs,vs,h=>by obtain ⟨u,us,rfl,h1,h2⟩:=cO.1 h;obtain ⟨a,b,rfl,h3,h4⟩:=a2Y h2;exact ⟨u::a,b,rfl,cO.2 ⟨u,a,rfl,h1,h3⟩,h4⟩
theorem sQ.args {cp:CP} {g:FuncId} {az as':bZZ} {h:aG} {r:PV} {h':aG} (k:sQ P cp g as' h r h') (hr:∀ (M:Mem) (B:aP) (vs:List Value),ay M B az vs->ay M B as' vs):sQ P cp g az h r h' :=⟨k.1,fun out M B w vals h1 h2 h3 h4 h5=>k.2 out M B w vals h1 h2 h3 h4 (hr _ _ _ h5)⟩
theorem Ev.args {g:FuncId} {az as':bZZ} {h:aG} {r:PV} {h':aG} (k:Ev P g as' h r h') (hr:∀ (M:Mem) (B:aP) (vs:List Value),ay M B az vs->ay M B as' vs):Ev P g az h r h':=sQ.args k hr
theorem SA:∀ {ts:List TypeId} {ps:bZZ},PV.flats (pM P ts ps)=PV.flats ps
 | [],ps=>by cases ps<;>rfl
 | t::ts,[]=>rfl
 | t::ts,p::ps=>by
  have h1:∀ z (p:PV),(p.ES z).flat=p.flat:=fun z p=>by
   cases p with
   | sl o s es =>
    rw[PV.ES];split
    .unfold FY; split<;>rfl
    .rfl
   | _=>rfl
  have h2:∀ zs (cs:bZZ),PV.flats (Vh zs cs)=PV.flats cs:=by
   intro zs;induction zs with
   | nil=>intro cs; cases cs<;>rfl
   | cons z zs ih =>
    intro cs;cases cs with
    | nil=>rfl
    | cons c cs=>rw[Vh,PV.flats,PV.flats,h1,ih]
  have h3:(p.zo (OA P 8 t)).flat=p.flat:=by
   cases p with
   | agg cs=>simp only[PV.zo,PV.flat,h2]
   | _=>simp only[PV.zo,h1]
  have h4:(a3A (OA P 8 t) p).flat=p.flat:=by unfold a3A; split<;>first | rfl | exact h3
  rw[pM,PV.flats,PV.flats,h4,SA]
theorem uw:∀ {a b:bZZ},PV.flats (a ++ b)=(PV.flats a&&PV.flats b)
 | [],b=>by rfl
 | p::a,b=>by simp[uw,Bool.and_assoc]
theorem aHH {cp:CP} (hcm:RI cp) (hW:uT X.W) (hC:∀ g args h r h',X.C g args h=some (r,h')->sQ X.E.P cp g args h r h') {dst:Option Nat} {g:FuncId} {full full':bZZ} {ids:List Nat} (hconv:∀ (M:Mem) (B:aP) (vs:List Value),ay M B full' vs->ay M B full vs) (h:zM X dst g full ids K Z=some v) :
 ∃ r h',sQ X.E.P cp g full' Z.h r (yD ids Z.h h')/\jE X.E dst r { Z with h:=yD ids Z.h h' } (fun Z'=>K Z'=some v):=by
 simp only[zM] at h;split at h
 .rename_i hok;unfold AO at h;split at h
  .rename_i r h' hr;have h:=VO hW h;simp only[aV5,bI] at hok;obtain ⟨k1,k2,k3,k4⟩:=hok;have he:=(sQ.sub hcm (hC _ _ _ _ _ hr) k1 (fun i hi=>by
    simp_all) k3 (fun i cs hi hcs=>by
    have:=jF.1 k4 i hi;rw[a7X.2 hcs] at this; exact this)).args hconv
   grind [uf]
  .cases h
 .cases h
theorem aHG (hW:uT X.W) (hC:oN X.E.P X.C) {dst:Option Nat} {g:FuncId} {full full':bZZ} {ids:List Nat} (hconv:∀ (M:Mem) (B:aP) (vs:List Value),ay M B full' vs->ay M B full vs) (h:zM X dst g full ids K Z=some v) :
 ∃ r h',Ev X.E.P g full' Z.h r (yD ids Z.h h')/\jE X.E dst r { Z with h:=yD ids Z.h h' } (fun Z'=>K Z'=some v):=aHH (a5N _) hW hC hconv h
theorem aHI (hW:uT X.W) (hC:oN X.E.P X.C) {dst:Option Nat} {g:FuncId} {full full':bZZ} {ids:List Nat} (hconv:∀ (M:Mem) (B:aP) (vs:List Value),ay M B full' vs->ay M B full vs) (h:zM X dst g full ids K Z=some v) :
 SV X.E g full' dst (fun Z'=>K Z'=some v) Z:=by
 obtain ⟨r,h',h1,h2⟩:=aHG hW hC hconv h;exact ⟨r,_,h1,h2⟩
theorem bRF {E:AE} {ids:List Nat} {H:aG} (h:aTC E.ln ids H.length=true) (h':aG):ET E (yD ids H h') H:=by
 intro i hi;have hm:1000000+i∈E.ln:=by simp_all
 have:=jF.1 h _ hm;rw[show Nat.ble 1000000 (1000000+i)=true by rw[Nat.ble_eq]; omega,aE8] at this;simp only[bI] at this;obtain ⟨h1,h2⟩:=this;have hlt:i<H.length:=by simp_all
 have hni:i∉ids:=fun hc=>by rw[a0R.2 hc] at h2; cases h2
 grind [yD,Lt,Vl]
theorem a_N (hW:uT X.W) (hC:oN X.E.P X.C) {args:List Operand} (h:Jp X true o f args K Z=some v):
 ∃ g first caps az,Z.rd f=some (.func (.func g) first caps)/\ji (args.map Z.rd)=some az/\a5L X.E g (first ++ az ++ caps) o.dst (fun Z'=>K Z'=some v) Z:=by
 unfold Jp at h;split at h
 .rename_i g first caps az hf ha
  try simp only[Ed,Bool.false_and] at h
  have hconv:∀ (M:Mem) (B:aP) (vs:List Value),ay M B (first ++ az ++ caps) vs->ay M B (first ++ pM X.E.P (sZ X.E o) az ++ caps) vs:=fun M B vs hv=>by grind [a2Y,ER,Xw]
  split at h
  .rename_i hfl;unfold jO at h;split at h
   .rename_i r hr;have h:=VO hW h;split at h
    .rename_i hrf;exact ⟨g,first,caps,az,hf,ha,aG9 ((hC _ _ _ _ _ hr).args hconv) hrf (by rw[uw,uw,SA] at hfl; rw[uw,uw]; exact hfl) (uf h)⟩
    .cases h
   .cases h
  .split at h
   .rename_i hsy;rw[bI] at hsy;obtain ⟨r,h',h1,h2⟩:=aHG hW hC hconv h;exact ⟨g,first,caps,az,hf,ha,.inr ⟨hsy.1,r,_,h1,bRF hsy.2 h',h2⟩⟩
   .cases h
 .cases h
theorem aSV (f:Nat->Nat):∀ {cs:bZZ},cs.all pW=true->kL f cs=cs
 | [],_=>by simp[kL]
 | p::cs,h=>by rw[BC,bI] at h;have h1:=h.1;unfold pW at h1;rw[bI] at h1;rw[kL,aSU f p h1.2,aSV f h.2]
theorem bQS (f:Nat->Nat) {o:Option (bZZ)} (h:LX o=true):mM f o=o:=by
 cases o with
 | none=>rfl
 | some cs=>simp only[mM]; rw[aSV f h]
theorem a2V (f:Nat->Nat):∀ {h:aG},h.all LX=true->h.map (mM f)=h
 | [],_=>rfl
 | o::h,e=>by rw[BC,bI] at e;rw[sN,bQS f e.1,a2V f e.2]
theorem aFM (D:Nat->Bool):∀ {cs:bZZ},cs.all pW=true->PV.o6 D cs=true
 | [],_=>by rfl
 | p::cs,h=>by rw[BC,bI] at h;have h1:=h.1;unfold pW at h1;rw[bI] at h1;rw[PV.o6,aFN p h1.2,aFM D h.2]; rfl
theorem aYH (ids:List Nat) (H:aG) {h':aG} (e:h'.all LX=true):yD ids H h'=aCR ids H h':=by
 unfold yD aCR;have e1:(h'.take ids.length).all LX=true:=jF.2 fun x hx=>jF.1 e x (Qu hx)
 have e2:(h'.drop ids.length).all LX=true:=jF.2 fun x hx=>jF.1 e x (List.mem_of_mem_drop hx)
 rw[a2V _ e1,a2V _ e2]
theorem aHJ (hW:uT X.W) (hC:oN X.E.P X.C) {dst:Option Nat} {g:FuncId} {full full':bZZ} {ids:List Nat} (hconv:∀ (M:Mem) (B:aP) (vs:List Value),ay M B full' vs->ay M B full vs) (h:Jq X dst g full ids K Z=some v):SV X.E g full' dst (fun Z'=>K Z'=some v) Z:=by
 simp only[Jq] at h;split at h
 .rename_i hok;obtain ⟨c1,h⟩:=gU h;unfold AO at h;split at h
  .rename_i r h' hr;have h:=VO hW h;obtain ⟨c2,h⟩:=gU h;simp only[bI] at hok;obtain ⟨k1,k2,k3⟩:=hok;rw[<- a2V (uY _) c1] at hr;have he:=(Ev.sub (hC _ _ _ _ _ hr) k1 (fun i hi=>by
    simp_all) k3 (fun i cs hi hcs=>by
    have:=jF.1 c1 (qR Z.h i) (List.mem_map_of_mem hi);rw[a7X.2 hcs] at this;exact aFM _ this)).args hconv
   rw[aYH _ _ c2] at he;exact ⟨_,_,he,uf h⟩
  .cases h
 .cases h
theorem a_M (hW:uT X.W) (hC:oN X.E.P X.C) {args:List Operand} (h:Jp X false o f args K Z=some v):
 ∃ g first caps az,Z.rd f=some (.func (.func g) first caps)/\ji (args.map Z.rd)=some az/\SV X.E g (first ++ az ++ caps) o.dst (fun Z'=>K Z'=some v) Z:=by
 unfold Jp at h;split at h
 .rename_i g first caps az hf ha
  have hconv:∀ (M:Mem) (B:aP) (vs:List Value),ay M B (first ++ az ++ caps) vs->ay M B (first ++ pM X.E.P (sZ X.E o) az ++ caps) vs:=fun M B vs hv=>by grind [a2Y,ER,Xw]
  split at h
  grind [aHJ,aHI]
  split at h
  .rename_i hfl;unfold jO at h;split at h
   .rename_i r hr;have h:=VO hW h;split at h
    .unfold a6G at h;split at h
     .obtain ⟨h1,h2⟩:=gU h;simp only[bI,ny] at h1;exact ⟨g,first,caps,az,hf,ha,_,_,(Ev.thaw (hC _ _ _ _ _ hr) hfl h1.1 h1.2).args hconv,uf h2⟩
     .rename_i sz es _ _;by_cases hpos:0<es.length
      .rw[decide_eq_true hpos] at h;obtain ⟨h1,h2⟩:=gU h;exact ⟨g,first,caps,az,hf,ha,_,_,(Ev.bTM (hC _ _ _ _ _ hr) hfl hpos h1).args hconv,uf h2⟩
      .have e0:es = []:=lJ (by omega);subst e0;exact ⟨g,first,caps,az,hf,ha,a5M ((hC _ _ _ _ _ hr).args hconv) rfl (by rw[uw,uw,SA] at hfl; rw[uw,uw]; exact hfl) (uf h)⟩
     .cases h
    .split at h
     .rename_i hrf;exact ⟨g,first,caps,az,hf,ha,a5M ((hC _ _ _ _ _ hr).args hconv) hrf (by rw[uw,uw,SA] at hfl; rw[uw,uw]; exact hfl) (uf h)⟩
     .cases h
   .cases h
  .split at h
   simp_all
   .split at h
    .obtain ⟨h1,h2⟩:=gU h;unfold jO at h2;split at h2
     .rename_i r hr;have h2:=VO hW h2;split at h2
      .rename_i hrn;exact ⟨g,first,caps,az,hf,ha,_,_,(Ev.bL9 (hC _ _ _ _ _ hr) hrn h1).args hconv,uf h2⟩
      .cases h2
     .cases h2
    grind [aHJ,aHI]
 .cases h
theorem aHF (hV:yf X.V) (hC:oN X.E.P X.C) {args:List Operand} (h:Yg X o f args K Z=some v):
 ∃ g first caps az r,Z.rd f=some (.func (.func g) first caps)/\ji (args.map Z.rd)=some az/\Ev X.E.P g (first ++ az ++ caps) [] r []/\r.flat=true/\PV.flats (first ++ az ++ caps)=true/\jE X.E o.dst r Z (fun Z'=>K Z'=some v):=by
 unfold Yg at h;split at h
 .rename_i p az hf ha;obtain ⟨g,first,caps,rfl,h⟩:=b0K h;obtain ⟨hfl,h⟩:=gU h;have hconv:∀ (M:Mem) (B:aP) (vs:List Value),ay M B (first ++ az ++ caps) vs->ay M B (first ++ pM X.E.P (sZ X.E o) az ++ caps) vs:=fun M B vs hv=>by grind [a2Y,ER,Xw]
  unfold jO at h;split at h
  .rename_i r hr;have h:=Qi hV h;split at h
   .rename_i hrf;exact ⟨g,first,caps,az,r,hf,ha,(hC _ _ _ _ _ hr).args hconv,hrf,by rw[uw,uw,SA] at hfl; rw[uw,uw]; exact hfl,uf h⟩
   .cases h
  .cases h
 .cases h
theorem aHC (hV:yf X.V) (hW:uT X.W) (hC:oN X.E.P X.C) (h:Hl X false o K Z=some v):xG X.E o (fun Z'=>K Z'=some v) Z:=by
 unfold Hl at h;split at h
 grind [aHF,a5M,a_M,xG]
 .rename_i hc;rw[aY3 hc];simp_all
  .split at h
   .rename_i es pos hn;refine .inr ?_;unfold VE;rw[hn];intro b hb;obtain ⟨h1,h2⟩:=bMZ h;cases b
    .exact uf h1
    grind [uf]
   .exact .inl (aHL hV hc h)
theorem aHD (hV:yf X.V) (hW:uT X.W) (hC:oN X.E.P X.C) (h:Hl X true o K Z=some v):BZ X.E o (fun Z'=>K Z'=some v) Z:=by grind [Hl,BZ,aHF,aG9,a_N,aHL]
theorem aQ7 {d:Nat} (h:bZ d Z.s=some (.bool b)):Z.lit d b=Z:=by unfold ASt.lit; rw[aCS h]
theorem TE (hV:yf X.V) (hW:uT X.W) (hC:oN X.E.P X.C):∀ (l:List Oper) {K:ASt->R} {Z:ASt},jm X false ops l K Z=some v->lQ X.E ops l (fun Z'=>K Z'=some v) Z
 | [],K,Z,h=>h
 | o::l,K,Z,h=>by
  have ih:∀ Z,jm X false ops l K Z=some v->lQ X.E ops l (fun Z'=>K Z'=some v) Z:=fun Z h=>TE hV hW hC l h
  rw[jm] at h;rw[lQ];split at h
  grind [Y2,aHC]
  .rename_i j want hg;simp only[AY];split at h
   grind [xk,uf]
   .rename_i d hd;split at h
    .rename_i b hb;have key:Hm X false o d want b (jm X false ops l K) Z=some v:=by
      cases b
      .exact h
      .exact h
     grind [Hm,aQ7,Y2,aHC,xk,uf]
    grind [xk,uf]
    .cases h
theorem a6F (hV:yf X.V) (hW:uT X.W) (hC:oN X.E.P X.C):∀ (l:List Oper) {K:ASt->R} {Z:ASt},jm X true ops l K Z=some v->sV X.E ops l (fun Z'=>K Z'=some v) Z
 | [],K,Z,h=>h
 | o::l,K,Z,h=>by
  have ih:∀ Z,jm X true ops l K Z=some v->sV X.E ops l (fun Z'=>K Z'=some v) Z:=fun Z h=>a6F hV hW hC l h
  rw[jm] at h;rw[sV];split at h
  grind [Y1,aHD]
  .rename_i j want hg;simp only[AY];split at h
   grind [xk,uf]
   .rename_i d hd;split at h
    .rename_i b hb;have key:Hm X true o d want b (jm X true ops l K) Z=some v:=by
      cases b
      .exact h
      .exact h
     grind [Hm,aQ7,Y1,aHD,xk,uf]
    grind [xk,uf]
    .cases h
def IL (X:XE):Prop:=∀ l m x (K:AX->ASt->R) Z v,X.L l m x K (Z.gc l m)=some v->aQG X.m0 (dS X.E X.m0 x) (fun e Z'=>K e Z'=some v) Z
theorem aHM (hV:yf X.V) (hW:uT X.W) (hC:oN X.E.P X.C) {K:ASt->R}:∀ (fuel:Nat) {L:Array Bool} {Z:ASt},F6 X ops K fuel L Z=some v->JS X.E ops (fun Z'=>K Z'=some v) fuel L Z
 | 0,L,Z,h=>by
  unfold F6 at h;split at h
  .rename_i hr; exact ⟨hr,h⟩
  .cases h
 | fuel+1,L,Z,h=>by
  unfold F6 at h;split at h
  .rename_i hr; exact ⟨fun _=>h,fun i hi=>by rw[hr] at hi; simp[Ho] at hi⟩
  .rename_i a l hr;refine ⟨fun e=>(by rw[hr] at e; cases e),fun i hi => ?_⟩;rw[hr] at hi;have h1:=aFK h _ (uG.2 ⟨i,hi,rfl⟩);cases ho:ops[i]? with
   | none=>rw[ho] at h1; cases h1
   | some o =>rw[ho] at h1;obtain ⟨Z',h2,h3⟩:=aY4 (a6F hV hW hC [o] h1);exact ⟨o,rfl,Z',h2,aHM hV hW hC fuel h3⟩
theorem pX {k:ASt->R}:∀ (ks:List Nat) {Z:ASt} {v:PV×aG},nP k ks Z=some v->∃ ks',k (yF ks' Z)=some v
 | [],Z,v,h=>⟨[],h⟩
 | d::ds,Z,v,h=>by
  unfold nP at h;split at h
  .rename_i hd;split at h
   .rename_i i hs;split at h
    .rename_i p hc;obtain ⟨h1,h2⟩:=gU h;obtain ⟨ks',h3⟩:=pX ds h2;refine ⟨d::ks',?_⟩;have:xK d Z=⟨iM (d-9000000) (.cst ((lT p.length p 1).headD .nilp)) Z.s,Z.h.set i none⟩:=by simp only[xK,hd,Yx,hs,hc,h1]
     rw[yF,this]; exact h3
    .exact pX ds h
   .exact pX ds h
  rename_i hd9;split at h
  .rename_i hd;split at h
   .rename_i i2 hs;split at h
    .rename_i cs0 hc;split at h
     .rename_i i n sz hj;split at h
      .rename_i cs hi;obtain ⟨h1,h2⟩:=gU h;obtain ⟨ks',h3⟩:=pX ds h2;refine ⟨d::ks',?_⟩;have:xK d Z=⟨Z.s,(Z.h.set i none).set i2 (some (cs0.set ((d-5000000) % 100) (.sl false sz (lT sz cs n))))⟩:=by simp only[xK,hd9,hd,Yv,hs,hc,hj,hi,h1]
       rw[yF,this]; exact h3
      .exact pX ds h
     .exact pX ds h
    .exact pX ds h
   .exact pX ds h
  rename_i hd5;split at h
  .rename_i hd;split at h
   .rename_i i hs;split at h
    .rename_i cs0 hc;split at h
     .rename_i n sz cs hj;cases hn:Nat.ble 1 n with
      | true =>rw[hn] at h;obtain ⟨ks',h3⟩:=pX ds h;refine ⟨d::ks',?_⟩;rw[yF];simp only[xK,hd9,hd5,hd,WC,hs,hc,hj,hn];exact h3
      | false =>rw[hn] at h;obtain ⟨ks',h3⟩:=pX ds h;refine ⟨d::ks',?_⟩;rw[yF];simp only[xK,hd9,hd5,hd,WC,hs,hc,hj,hn];exact h3
     .exact pX ds h
    .exact pX ds h
   .exact pX ds h
  rename_i hd4;split at h
  .rename_i hd;split at h
   .rename_i n sz cs hs;split at h
    .obtain ⟨hn,h⟩:=gU h;obtain ⟨ks',h3⟩:=pX ds h;refine ⟨d::ks',?_⟩;rw[yF];simp only[xK,hd9,hd5,hd4,hd,QZ,hs,hn];exact h3
    cases hn:Nat.ble 1 n with
    | true =>rw[hn] at h;obtain ⟨ks',h3⟩:=pX ds h;refine ⟨d::ks',?_⟩;rw[yF];simp only[xK,hd9,hd5,hd4,hd,QZ,hs,hn];exact h3
    | false =>rw[hn] at h;obtain ⟨ks',h3⟩:=pX ds h;refine ⟨d::ks',?_⟩;rw[yF];simp only[xK,hd9,hd5,hd4,hd,QZ,hs,hn];exact h3
   .exact pX ds h
  rename_i hd3;split at h
  .rename_i hd;split at h
   .rename_i i n sz hs;split at h
    .rename_i cs hc;obtain ⟨h1,h2⟩:=gU h;obtain ⟨ks',h3⟩:=pX ds h2;refine ⟨d::ks',?_⟩;have:xK d Z=⟨iM (d-1000000) (.sl false sz (lT sz cs n)) Z.s,Z.h.set i none⟩:=by simp only[xK,hd9,hd5,hd4,hd3,hd,Yy,hs,hc,h1]
     rw[yF,this]; exact h3
    .exact pX ds h
   .exact pX ds h
  .obtain ⟨ks',h3⟩:=pX ds h;exact ⟨d::ks',h3⟩
theorem wE (hV:yf X.V) (hW:uT X.W) (hC:oN X.E.P X.C) (hL:IL X):∀ (c:Code) {K:AX->ASt->R} {Z:ASt},bH X c K Z=some v->dS X.E X.m0 c (fun e Z'=>K e Z'=some v) Z
 | .skip,K,Z,h=>h
 | .label _,K,Z,h=>h
 | .exit _,K,Z,h=>h
 | .ret,K,Z,h=>h
 | .region _ ops draw,K,Z,h=>by
  simp only[bH] at h;rw[dS];cases draw with
  | false=>grind [TE]
  | true =>
   cases hok:okD X.E ops with
   | true =>simp only[hok] at h;exact .inl ⟨hok,a6F hV hW hC _ h⟩
   | false =>simp only[hok] at h;exact .inr (aHM hV hW hC _ h)
 | .seq x y,K,Z,h=>by
  refine yC x (fun e Z' he => ?_) (wE hV hW hC hL x h);cases e with
  | normal =>
   have hj:∀ Z',EC X.E X.m0 y (bH X y K) Z'=some v->dS X.E X.m0 y (fun e Z=>K e Z=some v) Z'\/∃ l m,X.m0<=m/\Dt l m Z'=true/\dS X.E X.m0 y (fun e Z=>K e Z=some v) (Z'.gc l m):=fun Z' he=>by
    unfold EC at he;cases hl:X.E.jt.lookup (CV y) with
    | none=>rw[hl] at he; exact .inl (wE hV hW hC hL y he)
    | some l =>
     rw[hl] at he;obtain ⟨hpl,he⟩:=gU he;split at he
     .rename_i hg;simp only[bI,ny] at hg;exact .inr ⟨l,_,hg.1,a7U hpl hg.2,wE hV hW hC hL y he⟩
     .cases he
   unfold wH at he;split at he
   .obtain ⟨ks,he⟩:=pX _ he;exact ⟨ks,hj _ he⟩
   .exact ⟨[],hj _ he⟩
  | ret=>exact he
  | exit i=>exact he
 | .cond c x y,K,Z,h=>by
  simp only[bH] at h;rw[dS];split at h
  .rename_i b hb;simp only[hb];split at h
   .cases b with
    | true =>rw[a2U hb] at h;exact ⟨fun _=>wE hV hW hC hL x h,fun e=>by cases e⟩
    | false =>rw[a2U hb] at h;exact ⟨fun e=>(by cases e),fun _=>wE hV hW hC hL y h⟩
   .cases b with
    | true=>exact ⟨fun _=>wE hV hW hC hL x h,fun e=>by cases e⟩
    | false=>exact ⟨fun e=>(by cases e),fun _=>wE hV hW hC hL y h⟩
  .cases h
 | .block id x,K,Z,h=>by
  refine yC x (fun e Z' he => ?_) (wE hV hW hC hL x h);cases e with
  | normal=>exact he
  | ret=>exact he
  | exit i =>
   simp only[ak] at he;simp only[O3];split at he
   .rename_i e; rw[aX e]; exact he
   .rename_i e; rw[aV e]; exact he
 | .scope x,K,Z,h=>by exact wE hV hW hC hL x h
 | .loop x,K,Z,h=>by exact hL _ _ _ _ _ _ h
 | .rangeFunc _ _ _ _,K,Z,h=>by simp[bH] at h
 | .goto _,K,Z,h=>by simp[bH] at h
 | .refuse _,K,Z,h=>by simp[bH] at h
end
structure ww where
 vars:List Nat
 mv:List Nat
 mu:List Nat
 sz:List (Nat×List Nat)
 jt:List (Nat×List Nat)
 lt:List (Nat×List Nat)
 pt:List (Nat×List Nat)
 fz:List Nat
 ro:List (List Nat×Bool)
 ft:List (Nat×List Nat) := []
 sy:List Nat := []
 ln:List Nat := []
 df:Bool:=false
abbrev xy:=AE->Nat->List Nat->Nat->Code->(AX->ASt->R)->ASt->R
structure SE where
 P:Program
 iL:FuncId->ww
 V:TypeId->PV->(PV->R)->R
 W:FuncId->aG->PV->aG->(PV->aG->R)->R
 C0:Cal
def SE.ae (S:SE) (g:FuncId) (n:Nat):AE:=⟨S.P,n,(S.iL g).vars,(S.iL g).mv,(S.iL g).mu,(S.iL g).sz,(S.iL g).jt,(S.iL g).lt,(S.iL g).pt,(S.iL g).fz,(S.iL g).ft,(S.iL g).sy,(S.iL g).ln⟩
def SE.xe (S:SE) (C:Cal) (L:xy) (E:AE) (m0:Nat):XE:=⟨E,C,S.V,S.W,L E m0,m0⟩
def MG:PV->Nat
 | .ptr i _=>i+1
 | .tuple ps=>PV.GX ps
 | _=>0
def aTA (P:Program) (rs:List ResultVar) (Z:ASt):Option PV:=match rs with
 | [x]=>resV P Z x
 | rs=>(ji (rs.map (resV P Z))).map fun ps=>PV.tuple (ps.map PV.un)
def aUH:PV->List Nat
 | .tuple ps=>Dj ps
 | _ => []
def GG (P:Program) (rs:List ResultVar) (ro:List (List Nat×Bool)) (m0:Nat) (fl:List Nat) (Z:ASt):R:=match aTA P rs Z with
 | some r=>chk (plainO (Z.h.take (Nat.max m0 (MG r))) (xB fl (aUH r))) (match decide (Nat.max m0 (MG r)<=Z.h.length)&&(r.blw (Nat.max m0 (MG r))&&AL (Nat.max m0 (MG r)) (J3 (xB fl (aUH r)) 0 (Z.h.take (Nat.max m0 (MG r))))) with
  | true=>some (xJ ro r,Z.h.take (Nat.max m0 (MG r)))
  | false=>none)
 | none=>none
def G5 (P:Program) (rs:List ResultVar) (ro:List (List Nat×Bool)) (m0:Nat) (fl:List Nat):AX->ASt->R
 | .normal,Z=>GG P rs ro m0 fl Z
 | .ret,Z=>GG P rs ro m0 fl Z
 | .exit _,_=>none
def bJD (o:Oper):Bool:=match o.op with | .defer _=>true | _=>false
def Dx:Code->Bool
 | .region _ ops draw => !draw&&ops.toList.any bJD
 | .seq x y=>Dx x||Dx y
 | .cond _ x y=>Dx x||Dx y
 | .block _ x=>Dx x
 | _=>false
def a3L:List Oper->Option (List Oper×Oper×Call×List Oper)
 | []=>none
 | o::l=>match o.op with
  | .defer c=>some ([],o,c,l)
  | _=>(match a3L l with | some (a,o',c,b)=>some (o::a,o',c,b) | none=>none)
abbrev Nb:=Nat->FuncId->bZZ->AX->ASt->R
def YV (m0:Nat) (o:Oper) (c:Call) (K:Nat->FuncId->bZZ->ASt->R) (Z:ASt):R:=match o.guard,o.dst,c.callee with
 | none,none,.value f=>(match Z.rd f,ji (c.args.toList.map Z.rd) with
  | some (.func (.func g) first caps),some az=>(match PV.blws (Nat.max m0 (PV.GX (first ++ az ++ caps))) (first ++ az ++ caps) with
   | true=>K (Nat.max m0 (PV.GX (first ++ az ++ caps))) g (first ++ az ++ caps) Z
   | false=>none)
  | _,_=>none)
 | _,_,_=>none
def SE.uM (S:SE) (C:Cal) (L:xy) (E:AE) (m0:Nat):Code->(AX->ASt->R)->Nb->ASt->R
 | .seq x y,K0,KD,Z=>(match Dx x with
  | true=>S.uM C L E m0 x (wU (wH E m0 y (bH (S.xe C L E m0) y K0)) K0) (fun m g ps=>wU (wH E m y (bH (S.xe C L E m) y (KD m g ps))) (KD m g ps)) Z
  | false=>bH (S.xe C L E m0) x (wU (S.uM C L E m0 y K0 KD) K0) Z)
 | .cond c x y,K0,KD,Z=>(match Z.rd c with
  | some (.bool b)=>(match c with
   | .tmp d=>aA b (match Dx x with | true=>S.uM C L E m0 x K0 KD (Z.lit d true) | false=>bH (S.xe C L E m0) x K0 (Z.lit d true)) (match Dx y with | true=>S.uM C L E m0 y K0 KD (Z.lit d false) | false=>bH (S.xe C L E m0) y K0 (Z.lit d false))
   | _=>none)
  | _=>none)
 | .block id x,K0,KD,Z=>S.uM C L E m0 x (ak id K0) (fun m g ps=>ak id (KD m g ps)) Z
 | .region _ ops draw,_,KD,Z=>(match draw with
  | true=>none
  | false=>(match a3L ops.toList with
   | some (pre,o,c,post)=>jm (S.xe C L E m0) false ops pre (YV m0 o c fun m g ps=>jm (S.xe C L E m0) false ops post (KD m g ps .normal)) (Z.head E)
   | none=>none))
 | _,_,_,_=>none
def SE.CD (S:SE) (C:Cal):Cal:=fun g args h=>match S.C0 g args h with
 | some _=>none
 | none=>(match (S.iL g).df with | true=>none | false=>C g args h)
def SE.Vj (S:SE) (C:Cal) (L:xy) (E:AE) (rs:List ResultVar) (ro:List (List Nat×Bool)) (m0:Nat) (fl:List Nat):Nb:=fun _ g ps e Z=>match e with
 | .exit _=>none
 | _=>zM (S.xe (S.CD C) L E m0) none g ps (He Z.h 3 (xB [] (PV.xM ps))) (GG S.P rs ro m0 fl) Z
def SE.run (S:SE) (C:Cal) (L:xy) (g:FuncId) (args:bZZ) (h:aG):R:=match S.P.funcs[g]? with
 | some fn=>(match fn.body with
  | some c=>(match decide (args.length<=fn.ntmps)&&(fn.name != "runtime.NumGoroutine") with
   | true=>(match (S.iL g).df with
    | false=>bH (S.xe C L (S.ae g fn.ntmps) h.length) c (G5 S.P fn.results.toList (S.iL g).ro h.length (Dj args)) ⟨mO 0 args,h⟩
    | true=>S.uM C L (S.ae g fn.ntmps) h.length c (G5 S.P fn.results.toList (S.iL g).ro h.length (Dj args)) (S.Vj C L (S.ae g fn.ntmps) fn.results.toList (S.iL g).ro h.length (Dj args)) ⟨mO 0 args,h⟩)
   | false=>none)
  | none=>none)
 | none=>none
def SE.wp (S:SE) (E:AE):AE := { E with P:=S.P }
def SE.turn (S:SE) (C:Cal) (L:xy):xy:=fun E m0 l m x K Z =>
 chk (Ff l m Z) (match decide (m0<=m)&&Du l m Z with
 | true=>bH (S.xe C L (S.wp E) m0) x (wU (fun Z'=>L E m0 l m x K (Z'.gc l m)) K) (Z.gc l m)
 | false=>none)
def Fb (a b:R):R:=match a with | some x=>some x | none=>b
def SE.bC (S:SE):Nat->Cal×xy
 | 0=>(S.C0,fun _ _ _ _ _ _ _=>none)
 | n+1=>(fun g args h=>Fb (S.C0 g args h) (S.run (S.bC n).1 (S.bC n).2 g args h),S.turn (S.bC n).1 (S.bC n).2)
open Classical in
def lim (f:Nat->R):R:=if h:∃ n v,f n=some v then some (Classical.choose (Classical.choose_spec h)) else none
def SE.CC (S:SE):Cal:=fun g args h=>lim fun n=>(S.bC n).1 g args h
def SE.LL (S:SE):xy:=fun E m0 l m x K Z=>lim fun n=>(S.bC n).2 E m0 l m x K Z
structure SE.OK (S:SE):Prop where
 V:yf S.V
 W:uT S.W
section
variable {S:SE}
theorem a7V (l:List Nat) (m:Nat) (Z:ASt):(Z.gc l m).gc l m=Z.gc l m:=by grind [ASt.gc,List.filter_filter]
theorem bHT (l:List Nat) (m:Nat) (Z:ASt):Du l m (Z.gc l m)=Du l m Z:=by unfold Du; rw[a7V]
theorem bPT (l:List Nat) (m:Nat) (Z:ASt):Ff l m (Z.gc l m)=Ff l m Z:=by unfold Ff; rw[a7V]
theorem bU1 (C:Cal) (L:xy) (E:AE) (m0:Nat) (l:List Nat) (m:Nat) (x:Code) (K:AX->ASt->R) (Z:ASt):S.turn C L E m0 l m x K (Z.gc l m)=S.turn C L E m0 l m x K Z:=by unfold SE.turn; rw[bHT,bPT,a7V]
variable {ι:Type} {Good:(ι->R)->Prop} (F:JV Good) (hS:S.OK) {C:ι->Cal} {L:ι->xy} (hC:∀ g args h,Good fun i=>C i g args h)
 (hL:∀ (E:AE) (m0:Nat) (l:List Nat) (m:Nat) (x:Code) (K:ι->AX->ASt->R) (Z:ASt),(∀ e Z,Good fun i=>K i e Z)->Good fun i=>L i E m0 l m x (K i) Z)
include F hS hC hL in
theorem KN {E:AE} {m0:Nat} (c:Code) {K:ι->AX->ASt->R} {Z:ASt} (h:∀ e Z,Good fun i=>K i e Z):Good fun i=>bH (S.xe (C i) (L i) E m0) c (K i) Z :=Dv F (X:=S.xe (fun _ _ _=>none) (fun _ _ _ _ _ _ _=>none) E m0) (C:=C) (L:=fun i=>L i E m0) hS.V hS.W hC (fun l m x K Z h=>hL E m0 l m x K Z h) c h
include F hS hC hL in
theorem aN4 {E:AE} {m0:Nat} {ops:Array Oper} (l:List Oper) {K:ι->ASt->R} {Z:ASt} (h:∀ Z,Good fun i=>K i Z):Good fun i=>jm (S.xe (C i) (L i) E m0) false ops l (K i) Z :=UQ F (X:=S.xe (fun _ _ _=>none) (fun _ _ _ _ _ _ _=>none) E m0) (C:=C) (L:=fun i=>L i E m0) hS.V hS.W hC l h
include F hS hC hL in
theorem aN1 {E:AE} {m0:Nat} {y:Code} {K:ι->AX->ASt->R} {Z:ASt} (h:∀ e Z,Good fun i=>K i e Z):Good fun i=>wH E m0 y (bH (S.xe (C i) (L i) E m0) y (K i)) Z:=by
 have hj:∀ Z,Good fun i=>EC E m0 y (bH (S.xe (C i) (L i) E m0) y (K i)) Z:=fun Z=>by
  unfold EC;split
  .refine gz F ?_;split
   .exact KN F hS hC hL y h
   .exact F.no
  .exact KN F hS hC hL y h
 unfold wH;split
 .exact pY F hj _
 .exact hj _
include F in
theorem bI0 {m0:Nat} {o:Oper} {c:Call} {K:ι->Nat->FuncId->bZZ->ASt->R} {Z:ASt} (h:∀ m g ps Z,Good fun i=>K i m g ps Z):Good fun i=>YV m0 o c (K i) Z:=by
 unfold YV;split
 .split
  .split
   .exact h _ _ _ _
   .exact F.no
  .exact F.no
 .exact F.no
include F hS hC hL in
theorem P5 {E:AE} {m0:Nat}:∀ (c:Code) {K0:ι->AX->ASt->R} {KD:ι->Nb} {Z:ASt},(∀ e Z,Good fun i=>K0 i e Z)->(∀ m g ps e Z,Good fun i=>KD i m g ps e Z)->Good fun i=>S.uM (C i) (L i) E m0 c (K0 i) (KD i) Z
 | .seq x y,K0,KD,Z,h,h'=>by
  simp only[SE.uM];split
  .exact P5 x (fun e Z=>UR (fun Z=>aN1 F hS hC hL h) h e Z) (fun m g ps e Z=>UR (fun Z=>aN1 F hS hC hL (h' m g ps)) (h' m g ps) e Z)
  .exact KN F hS hC hL x fun e Z=>UR (fun Z=>P5 y h h') h e Z
 | .cond c x y,K0,KD,Z,h,h'=>by
  simp only[SE.uM];split
  .split
   .refine AV F ?_ ?_
    .split
     .exact P5 x h h'
     .exact KN F hS hC hL x h
    .split
     .exact P5 y h h'
     .exact KN F hS hC hL y h
   .exact F.no
  .exact F.no
 | .block id x,K0,KD,Z,h,h'=>by simp only[SE.uM];exact P5 x (fun e Z=>a7Y h e Z) (fun m g ps e Z=>a7Y (h' m g ps) e Z)
 | .region _ ops draw,K0,KD,Z,h,h'=>by
  simp only[SE.uM];split
  .exact F.no
  .split
   .exact aN4 F hS hC hL _ fun Z=>bI0 F fun m g ps Z=>aN4 F hS hC hL _ fun Z=>h' m g ps .normal Z
   .exact F.no
 | .skip,K0,KD,Z,h,h'=>F.no
 | .label _,K0,KD,Z,h,h'=>F.no
 | .exit _,K0,KD,Z,h,h'=>F.no
 | .ret,K0,KD,Z,h,h'=>F.no
 | .scope _,K0,KD,Z,h,h'=>F.no
 | .loop _,K0,KD,Z,h,h'=>F.no
 | .rangeFunc _ _ _ _,K0,KD,Z,h,h'=>F.no
 | .goto _,K0,KD,Z,h,h'=>F.no
 | .refuse _,K0,KD,Z,h,h'=>F.no
include F hS hC in
theorem bIA {E:AE} {rs:List ResultVar} {ro:List (List Nat×Bool)} {m0:Nat} {fl:List Nat} (m:Nat) (g:FuncId) (ps:bZZ) (e:AX) (Z:ASt):Good fun i=>S.Vj (C i) (L i) E rs ro m0 fl m g ps e Z:=by
 have hC':∀ g args h,Good fun i=>S.CD (C i) g args h:=fun g args h=>by
  unfold SE.CD;split
  .exact F.no
  .split
   .exact F.no
   .exact hC _ _ _
 have hH:Good fun i=>zM (S.xe (S.CD (C i)) (L i) E m0) none g ps (He Z.h 3 (xB [] (PV.xM ps))) (GG S.P rs ro m0 fl) Z:=by
  simp only[zM];split
  .exact a0N F hC' fun r h'=>Oz (X:=S.xe (fun _ _ _=>none) (fun _ _ _ _ _ _ _=>none) E m0) F hS.W fun p q=>gV F fun Z=>F.const _
  .exact F.no
 unfold SE.Vj;cases e
 .exact hH
 .exact hH
 .exact F.no
include F hS hC hL in
theorem a81 {g:FuncId} {args:bZZ} {h:aG}:Good fun i=>S.run (C i) (L i) g args h:=by
 unfold SE.run;split
 .split
  .split
   .split
    .exact KN F hS hC hL _ fun e Z=>F.const _
    .exact P5 F hS hC hL _ (fun e Z=>F.const _) fun m g ps e Z=>bIA F hS hC m g ps e Z
   .exact F.no
  .exact F.no
 .exact F.no
include F hS hC hL in
theorem a0O {E:AE} {m0:Nat} {l:List Nat} {m:Nat} {x:Code} {K:ι->AX->ASt->R} {Z:ASt} (h:∀ e Z,Good fun i=>K i e Z):Good fun i=>S.turn (C i) (L i) E m0 l m x (K i) Z:=by
 unfold SE.turn;refine gz F ?_;split
 .exact KN F hS hC hL _ fun e Z=>UR (fun Z=>hL _ _ _ _ _ _ _ h) h e Z
 .exact F.no
include F in
theorem a7' {a:R} {f:ι->R} (h:Good f):Good fun i=>Fb a (f i):=by
 cases a
 .exact h
 .exact F.const _
theorem a88 (F:JV Good) (hS:S.OK):∀ (n:Nat) (E:AE) (m0:Nat) (l:List Nat) (m:Nat) (x:Code) (K:ι->AX->ASt->R) (Z:ASt),(∀ e Z,Good fun i=>K i e Z)->Good fun i=>(S.bC n).2 E m0 l m x (K i) Z
 | 0,_,_,_,_,_,_,_,_=>F.no
 | n+1,_,_,_,_,_,_,_,h=>a0O F hS (C:=fun _=>(S.bC n).1) (fun _ _ _=>F.const _) (a88 F hS n) h
def D8 (F:Bool->R):Prop:=∀ v,F false=some v->F true=some v
theorem Ju:JV D8:=⟨fun _ _ h=>h,fun c k hc hk v h=>by
 have h:(match c false with | some (r,h)=>k false r h | none=>none)=some v:=h;show (match c true with | some (r,h)=>k true r h | none=>none)=some v;cases hf:c false with
 | none=>rw[hf] at h; cases h
 | some x =>obtain ⟨r,hh⟩:=x;rw[hf] at h;rw[hc _ hf];exact hk r hh v h⟩
theorem GI (hS:S.OK):∀ n,(∀ g args h v,(S.bC n).1 g args h=some v->(S.bC (n+1)).1 g args h=some v) /\
 (∀ E m0 l m x (K K':AX->ASt->R) Z v,(∀ e Z v,K e Z=some v->K' e Z=some v)->(S.bC n).2 E m0 l m x K Z=some v->(S.bC (n+1)).2 E m0 l m x K' Z=some v)
 | 0=>⟨fun g args h v hv=>by show Fb (S.C0 g args h) _=some v; rw[show S.C0 g args h=some v from hv]; rfl,fun _ _ _ _ _ _ _ _ _ _ h=>by cases h⟩
 | n+1=>by
  obtain ⟨ih1,ih2⟩:=GI hS n;have hC:∀ g args h,D8 fun i=>(bif i then (S.bC (n+1)).1 else (S.bC n).1) g args h:=fun g args h v hv=>ih1 g args h v hv
  have hL:∀ (E:AE) (m0:Nat) (l:List Nat) (m:Nat) (x:Code) (K:Bool->AX->ASt->R) (Z:ASt),(∀ e Z,D8 fun i=>K i e Z)->D8 fun i=>(bif i then (S.bC (n+1)).2 else (S.bC n).2) E m0 l m x (K i) Z :=fun E m0 l m x K Z hK v hv=>ih2 E m0 l m x _ _ Z v (fun e Z v h=>hK e Z v h) hv
  refine ⟨fun g args h v hv => ?_,fun E m0 l m x K K' Z v hK hv => ?_⟩
  .exact a7' Ju (a81 Ju hS hC hL) v hv
  .exact a0O Ju hS hC hL (K:=fun i=>bif i then K' else K) (fun e Z v h=>hK e Z v h) v hv
theorem bLS (hS:S.OK) {E:AE} {m0:Nat} {l:List Nat} {m:Nat} {x:Code} {K:AX->ASt->R} {Z:ASt} {v:PV×aG} {n k:Nat} (hk:n<=k) (hv:(S.bC n).2 E m0 l m x K Z=some v):(S.bC k).2 E m0 l m x K Z=some v:=by
 induction hk with
 | refl=>exact hv
 | step _ ih=>exact (GI hS _).2 _ _ _ _ _ _ _ _ _ (fun _ _ _ h=>h) ih
theorem aQI (hS:S.OK) (n:Nat) {E:AE} {m0:Nat} {l:List Nat} {m:Nat} {x:Code} {K K':AX->ASt->R} {Z:ASt} {v:PV×aG} (hK:∀ e Z v,K e Z=some v->K' e Z=some v) (hv:(S.bC n).2 E m0 l m x K Z=some v):(S.bC n).2 E m0 l m x K' Z=some v :=a88 Ju hS n E m0 l m x (fun i=>bif i then K' else K) Z (fun e Z v h=>hK e Z v h) v hv
theorem a9R {f:Nat->R} (hm:∀ n v,f n=some v->f (n+1)=some v) {v:PV×aG}:lim f=some v↔∃ n,f n=some v:=by
 have hle:∀ {n k:Nat} {v:PV×aG},n<=k->f n=some v->f k=some v:=fun hk hv=>by
  induction hk with
  | refl=>exact hv
  | step _ ih=>grind
 unfold lim;constructor
 .intro h;split at h
  grind
  .cases h
 .intro ⟨n,hn⟩;have hx:∃ n v,f n=some v:=⟨n,v,hn⟩;grind
structure NU (F:Option Nat->R):Prop where
 mono:∀ n v,F (some n)=some v->F (some (n+1))=some v
 lim:∀ v,F none=some v↔∃ n,F (some n)=some v
theorem NU.le {F:Option Nat->R} (h:NU F) {n k:Nat} {v:PV×aG} (hk:n<=k) (hv:F (some n)=some v):F (some k)=some v:=by
 induction hk with
 | refl=>exact hv
 | step _ ih=>exact h.mono _ _ ih
theorem OT:JV NU:=⟨fun c=>⟨fun _ _ h=>h,fun v=>⟨fun h=>⟨0,h⟩,fun ⟨_,h⟩=>h⟩⟩,fun c k hc hk=>by
 refine ⟨fun n v h => ?_,fun v=>⟨fun h => ?_,fun ⟨n,h⟩ => ?_⟩⟩
 .cases hf:c (some n) with
  | none=>rw[hf] at h; cases h
  | some x =>obtain ⟨r,hh⟩:=x;rw[hf] at h;rw[hc.mono _ _ hf];exact (hk r hh).mono _ _ h
 .cases hf:c none with
  | none=>rw[hf] at h; cases h
  | some x =>obtain ⟨r,hh⟩:=x;rw[hf] at h;obtain ⟨n1,h1⟩:=(hc.lim _).1 hf;obtain ⟨n2,h2⟩:=((hk r hh).lim v).1 h;refine ⟨max n1 n2,?_⟩;rw[hc.le (Nat.le_max_left n1 n2) h1];exact (hk r hh).le (Nat.le_max_right n1 n2) h2
 .cases hf:c (some n) with
  | none=>rw[hf] at h; cases h
  | some x =>obtain ⟨r,hh⟩:=x;rw[hf] at h;rw[(hc.lim _).2 ⟨n,hf⟩];exact ((hk r hh).lim v).2 ⟨n,h⟩⟩
def SE.aZI (S:SE):Option Nat->Cal | none=>S.CC | some n=>(S.bC n).1
def SE.bLT (S:SE):Option Nat->xy | none=>S.LL | some n=>(S.bC n).2
theorem SX (hS:S.OK) (g:FuncId) (args:bZZ) (h:aG):NU fun i=>S.aZI i g args h :=⟨fun n v hv=>(GI hS n).1 g args h v hv,fun _=>a9R fun n v hv=>(GI hS n).1 g args h v hv⟩
theorem a9Y (hS:S.OK) (E:AE) (m0:Nat) (l:List Nat) (m:Nat) (x:Code) (K:Option Nat->AX->ASt->R) (Z:ASt) (hK:∀ e Z,NU fun i=>K i e Z):NU fun i=>S.bLT i E m0 l m x (K i) Z:=by
 have hl:∀ v,S.LL E m0 l m x (K none) Z=some v↔∃ n,(S.bC n).2 E m0 l m x (K none) Z=some v:=fun v=>a9R fun n v hv=>(GI hS n).2 _ _ _ _ _ _ _ _ _ (fun _ _ _ h=>h) hv
 refine ⟨fun n v hv=>(GI hS n).2 _ _ _ _ _ _ _ _ _ (fun e Z v h=>(hK e Z).mono n v h) hv,fun v=>⟨fun h => ?_,fun ⟨n,h⟩ => ?_⟩⟩
 .obtain ⟨n,hn⟩:=(hl v).1 h;obtain ⟨k,hk⟩:=((a88 OT hS n E m0 l m x K Z hK).lim v).1 hn;refine ⟨max n k,?_⟩;exact bLS hS (Nat.le_max_left n k) (aQI hS n (fun e Z v h=>(hK e Z).le (Nat.le_max_right n k) h) hk)
 .exact (hl v).2 ⟨n,aQI hS n (fun e Z v h=>((hK e Z).lim v).2 ⟨n,h⟩) h⟩
theorem JU (hS:S.OK) (g:FuncId) (args:bZZ) (h:aG):S.CC g args h=Fb (S.C0 g args h) (S.run S.CC S.LL g args h):=by
 have hg:=a7' OT (a:=S.C0 g args h) (a81 OT hS (SX hS) (a9Y hS) (g:=g) (args:=args) (h:=h));refine Option.ext fun v => ?_
 have h1:S.CC g args h=some v↔∃ n,(S.bC n).1 g args h=some v:=(SX hS g args h).lim v;have h2:Fb (S.C0 g args h) (S.run S.CC S.LL g args h)=some v↔∃ n,(S.bC (n+1)).1 g args h=some v:=hg.lim v;rw[h1,h2];exact ⟨fun ⟨n,hn⟩=>⟨n,(GI hS n).1 _ _ _ _ hn⟩,fun ⟨n,hn⟩=>⟨n+1,hn⟩⟩
theorem aF4 (hS:S.OK) (E:AE) (m0:Nat) (l:List Nat) (m:Nat) (x:Code) (K:AX->ASt->R) (Z:ASt):S.LL E m0 l m x K Z=S.turn S.CC S.LL E m0 l m x K Z:=by
 have hg:=a0O OT hS (SX hS) (a9Y hS) (E:=E) (m0:=m0) (l:=l) (m:=m) (x:=x) (K:=fun _=>K) (Z:=Z) fun e Z=>OT.const _
 refine Option.ext fun v => ?_
 have h1:S.LL E m0 l m x K Z=some v↔∃ n,(S.bC n).2 E m0 l m x K Z=some v:=(a9Y hS E m0 l m x (fun _=>K) Z fun e Z=>OT.const _).lim v;have h2:S.turn S.CC S.LL E m0 l m x K Z=some v↔∃ n,(S.bC (n+1)).2 E m0 l m x K Z=some v:=hg.lim v;rw[h1,h2];exact ⟨fun ⟨n,hn⟩=>⟨n,(GI hS n).2 _ _ _ _ _ _ _ _ _ (fun _ _ _ h=>h) hn⟩,fun ⟨n,hn⟩=>⟨n+1,hn⟩⟩
theorem DI (hS:S.OK) {E:AE} {m0:Nat} {l:List Nat} {m:Nat} {x:Code} {K:AX->ASt->R} {Z:ASt} (hm:m0<=m) (hg:Du l m Z=true) (hP:S.wp E=E) :
 S.LL E m0 l m x K Z=chk (Ff l m Z) (bH (S.xe S.CC S.LL E m0) x (wU (fun Z'=>S.LL E m0 l m x K (Z'.gc l m)) K) (Z.gc l m)):=by
 rw[aF4 hS]; grind [SE.turn]
theorem uI (hS:S.OK) {g:FuncId} {args:bZZ} {h:aG} (h0:S.C0 g args h=none):S.CC g args h=S.run S.CC S.LL g args h:=by rw[JU hS,h0]; rfl
theorem aC6 {rs:List ResultVar} {ro:List (List Nat×Bool)} {m0:Nat} {fl:List Nat} {Z:ASt} {r:PV} {h':aG} (h:GG P rs ro m0 fl Z=some (r,h')):∃ r0,Lh P rs m0 r0 h' Z/\xJ ro r0=r:=by
 unfold GG at h;split at h
 .rename_i q hq;obtain ⟨hpl,h⟩:=gU h;split at h
  .rename_i hb;injection h with h
   injection h with h1 h2
   subst h1;simp only[bI,ny] at hb;obtain ⟨b1,b2,b3⟩:=hb;have hlen:h'.length=Nat.max m0 (MG q):=by rw[<- h2,wY]; omega
   refine ⟨q,⟨by grind,by rw[hlen]; exact h2,by rw[hlen]; exact b2,by rw[hlen,<- h2]; exact aG4 hpl b3,?_⟩,rfl⟩;grind [aTA]
  .cases h
 .cases h
theorem aUO:∀ {l:List Oper} {a:List Oper} {o:Oper} {c:Call} {b:List Oper},a3L l=some (a,o,c,b)->l=a ++ o::b/\o.op = .defer c
 | [],_,_,_,_,h=>by cases h
 | x::l,a,o,c,b,h=>by
  unfold a3L at h;split at h
  .rename_i hx; cases h; exact ⟨rfl,hx⟩
  .split at h
   .rename_i a' o' c' b' hs;cases h;obtain ⟨h1,h2⟩:=aUO hs;exact ⟨by rw[h1]; rfl,h2⟩
   .cases h
def RJ (M:Mem) (B:aP) (m:Nat) (g:FuncId) (ps:bZZ) (d:Deferred):Prop:=∃ cap vals,d.target = .fn (.func g) cap/\d.args ++ cap=vals/\ay M (B.take m) ps vals.toList
section
variable {n:Nat} {out:Nat->Nat} {m m0:Nat} {M M':Mem} {B B':aP} {Z Z':ASt} {t t':Array Value} {w w':World} {g:FuncId} {ps:bZZ} {d:Deferred}
theorem RJ.mono (h:RJ M B m g ps d) (hG:cu n out m M B Z t w M' B' Z' t' w'):RJ M' B' m g ps d:=by
 obtain ⟨cap,vals,h1,h2,h3⟩:=h;refine ⟨cap,vals,h1,h2,h3.mono ⟨hG.mem,fun i c hi => ?_⟩⟩;rw[mV] at hi ⊢;split at hi
 .rename_i hlt; rw[aX hlt]; exact hG.pre i c hlt hi
 .cases hi
theorem cu.lessM (h:cu n out m M B Z t w M' B' Z' t' w') (hm:m0<=m):cu n out m0 M B Z t w M' B' Z' t' w':=⟨h.inv,h.mem,fun i c hi e=>h.pre i c (Qy hi hm) e,h.fr,h.own⟩
end
def V5 (E:AE) (out:Nat->Nat) (m0:Nat) (M:Mem) (B:aP) (Z:ASt) (t:Array Value) (w:World) (v:PV×aG) (K0:AX->ASt->R) (KD:Nb) (e:Exit) (a':Act) (w':World):Prop :=∃ ax Z' M' B',e=ax.toExit/\cu E.n out m0 M B Z t w M' B' Z' a'.tmps w'/\((K0 ax Z'=some v/\a'.defers = [])\/∃ m g ps d,m0<=m/\a'.defers = [d]/\RJ M' B' m g ps d/\KD m g ps ax Z'=some v)
theorem bLE {E:AE} {out:Nat->Nat} {m0:Nat} {M M1:Mem} {B B1:aP} {Z Z1:ASt} {t t1:Array Value} {w w1:World} {v:PV×aG} {K0:AX->ASt->R} {KD:Nb} (h:cu E.n out m0 M B Z t w M1 B1 Z1 t1 w1) {e:Exit} {a':Act} {w':World} (k:V5 E out m0 M1 B1 Z1 t1 w1 v K0 KD e a' w'):V5 E out m0 M B Z t w v K0 KD e a' w':=by obtain ⟨ax,Z',M',B',h1,h2,h3⟩:=k;exact ⟨ax,Z',M',B',h1,h.trans h2,h3⟩
theorem aOF {E:AE} {n:Nat} {out:Nat->Nat} {m0:Nat} {M:Mem} {B:aP} {Z:ASt} {t:Array Value} {w:World} {y:Code} {k:ASt->R} {v:PV×aG} (hI:Inv n M B out Z t w) (h:wH E m0 y k Z=some v) :
 ∃ M2 B2 Z2,cu n out m0 M B Z t w M2 B2 Z2 t w/\k Z2=some v:=by
 have hj:∀ {M1:Mem} {B1:aP} {Z1:ASt},cu n out m0 M B Z t w M1 B1 Z1 t w->EC E m0 y k Z1=some v->∃ M2 B2 Z2,cu n out m0 M B Z t w M2 B2 Z2 t w/\k Z2=some v:=fun {M1 B1 Z1} hG he=>by
  unfold EC at he;cases hl:E.jt.lookup (CV y) with
  | none=>grind
  | some l =>
   rw[hl] at he;obtain ⟨hpl,he⟩:=gU he;split at he
   .rename_i hg;simp only[bI,ny] at hg;exact ⟨_,_,_,hG.trans (FH hG.inv hg.1 (a7U hpl hg.2)),he⟩
   .cases he
 unfold wH at h;split at h
 .obtain ⟨ks,he⟩:=pX _ h;obtain ⟨M2,B2,hz⟩:=Yw (m0:=m0) ks hI;grind
 .exact hj (cu.refl hI) h
theorem OI {C:Cal} {L:xy} {E:AE} {out:Nat->Nat} {m0:Nat} {v:PV×aG} (hm:E.P.follows .mixedOrders=true) (hS:S.OK) (hC:oN E.P C) (hL:∀ m,IL (S.xe C L E m)):∀ (c:Code) {K0:AX->ASt->R} {KD:Nb} {M:Mem} {B:aP} {Z:ASt} {a:Act} {w:World},
 S.uM C L E m0 c K0 KD Z=some v->Inv E.n M B out Z a.tmps w->a.defers = []->c.wp E.P (V5 E out m0 M B Z a.tmps w v K0 KD) a w
 | .seq x y,K0,KD,M,B,Z,a,w,h,hI,hd0=>by
  simp only[SE.uM] at h;split at h
  .refine wp_seq (vZ (OI hm hS hC hL x h hI hd0) fun e a' w' hl => ?_);obtain ⟨ax,Z',M',B',rfl,hG,hl⟩:=hl;rcases hl with ⟨hq,hd⟩ | ⟨m,g,ps,d,hm0,hd,hD,hq⟩
   .cases ax with
    | normal =>
     obtain ⟨M2,B2,Z2,hj,hk⟩:=aOF hG.inv hq;refine vZ (xH hm y hj.inv (wE hS.V hS.W hC (hL m0) y hk)) fun e a2 w2 hl2 => ?_
     obtain ⟨SH,Z3,M3,B3,rfl,hq3,hd3,hG3⟩:=hl2;exact ⟨SH,Z3,M3,B3,rfl,(hG.trans hj).trans hG3,.inl ⟨hq3,by rw[hd3,hd]⟩⟩
    | ret=>exact ⟨.ret,Z',M',B',rfl,hG,.inl ⟨hq,hd⟩⟩
    | exit i=>exact ⟨.exit i,Z',M',B',rfl,hG,.inl ⟨hq,hd⟩⟩
   .cases ax with
    | normal =>
     obtain ⟨M2,B2,Z2,hj,hk⟩:=aOF hG.inv hq;refine vZ (xH hm y hj.inv (wE hS.V hS.W hC (hL m) y hk)) fun e a2 w2 hl2 => ?_
     obtain ⟨SH,Z3,M3,B3,rfl,hq3,hd3,hG3⟩:=hl2;exact ⟨SH,Z3,M3,B3,rfl,hG.trans ((hj.trans hG3).lessM hm0),.inr ⟨m,g,ps,d,hm0,by rw[hd3,hd],hD.mono (hj.trans hG3),hq3⟩⟩
    | ret=>exact ⟨.ret,Z',M',B',rfl,hG,.inr ⟨m,g,ps,d,hm0,hd,hD,hq⟩⟩
    | exit i=>exact ⟨.exit i,Z',M',B',rfl,hG,.inr ⟨m,g,ps,d,hm0,hd,hD,hq⟩⟩
  .refine wp_seq (vZ (xH hm x hI (wE hS.V hS.W hC (hL m0) x h)) fun e a' w' hl => ?_);obtain ⟨ax,Z',M',B',rfl,hq,hd,hG⟩:=hl;cases ax with
   | normal=>exact vZ (OI hm hS hC hL y hq hG.inv (by rw[hd,hd0])) fun e a2 w2 hl2=>bLE hG hl2
   | ret=>exact ⟨.ret,Z',M',B',rfl,hG,.inl ⟨hq,by rw[hd,hd0]⟩⟩
   | exit i=>exact ⟨.exit i,Z',M',B',rfl,hG,.inl ⟨hq,by rw[hd,hd0]⟩⟩
 | .cond c x y,K0,KD,M,B,Z,a,w,h,hI,hd0=>by
  have hx:∀ (x:Code),(∀ {Z1:ASt},S.uM C L E m0 x K0 KD Z1=some v->Inv E.n M B out Z1 a.tmps w->x.wp E.P (V5 E out m0 M B Z1 a.tmps w v K0 KD) a w)->(match Dx x with | true=>S.uM C L E m0 x K0 KD Z | false=>bH (S.xe C L E m0) x K0 Z)=some v->x.wp E.P (V5 E out m0 M B Z a.tmps w v K0 KD) a w:=fun x ih hh=>by
   cases hd:Dx x with
   | true=>grind
   | false =>
    rw[hd] at hh;refine vZ (xH hm x hI (wE hS.V hS.W hC (hL m0) x hh)) fun e a2 w2 hl2 => ?_
    obtain ⟨SH,Z3,M3,B3,rfl,hq3,hd3,hG3⟩:=hl2;exact ⟨SH,Z3,M3,B3,rfl,hG3,.inl ⟨hq3,by rw[hd3,hd0]⟩⟩
  simp only[SE.uM] at h;split at h
  .rename_i b hb;have he:=kE.1 (hI.rd _ _ hb).1;split at h
   .cases b with
    | true =>simp only[a2U hb] at h;exact wp_cond_split he (fun _=>hx x (fun k1 k2=>OI hm hS hC hL x k1 k2 hd0) h) (fun e=>by cases e)
    | false =>simp only[a2U hb] at h;exact wp_cond_split he (fun e=>by cases e) (fun _=>hx y (fun k1 k2=>OI hm hS hC hL y k1 k2 hd0) h)
   .cases h
  .cases h
 | .block id x,K0,KD,M,B,Z,a,w,h,hI,hd0=>by
  refine wp_block (vZ (OI hm hS hC hL x h hI hd0) fun e a' w' hl => ?_);obtain ⟨ax,Z',M',B',rfl,hG,hl⟩:=hl;cases ax with
  | normal=>exact ⟨.normal,Z',M',B',rfl,hG,hl⟩
  | ret=>exact ⟨.ret,Z',M',B',rfl,hG,hl⟩
  | exit i =>
   simp only[AX.toExit,Exit.inBlock];simp only[ak] at hl;split
   .rename_i e; simp only[aX e] at hl; exact ⟨.normal,Z',M',B',rfl,hG,hl⟩
   .rename_i e; simp only[aV e] at hl; exact ⟨.exit i,Z',M',B',rfl,hG,hl⟩
 | .region id ops draw,K0,KD,M,B,Z,a,w,h,hI,hd0=>by
  simp only[SE.uM] at h;split at h
  .cases h
  .split at h
   .rename_i pre o c post hs;obtain ⟨hl,ho⟩:=aUO hs;have hk:=a0Q (E:=E) hI;refine wp_region_list ?_;rw[hl];refine a5G pre hk.inv (TE hS.V hS.W hC pre h) fun Z1 M1 B1 a1 w1 hq hG hd => ?_
    unfold YV at hq;split at hq
    .rename_i f hg hdst bXJ;split at hq
     .rename_i g first caps az hf has
      split at hq
      .rename_i hbl;obtain ⟨f',c',e1,r1,r2⟩:=zn.1 (hG.inv.rd _ _ hf).1;obtain ⟨ra,_⟩:=Ld hG.inv.rd has;unfold wpList;rw[aX (by simp[Region.wanted,hg])];refine .inl ?_;unfold Oper.wp;have hrun:(execOp a1.eval o).run E.P w1 = .ok (.defer { target := .fn (.func g) c',args:=f' ++ c.args.map a1.eval }) w1:=by grind [execOp,resolve,Deferred.ofValue,Sem.run_pure]
       rw[hrun,Oper.upon_defer];have hput:∀ (a:Act) (u:Value),a.put o.dst u=a:=fun a u=>by rw[hdst]; rfl
       rw[hput];refine SG post hG.inv (TE hS.V hS.W hC post hq) fun Z2 M2 B2 a2 w2 hq2 hG2 hd2 => ?_
       refine ⟨.normal,Z2,M2,B2,rfl,((hk.trans hG).trans hG2).c,.inr ⟨_,g,_,{ target := .fn (.func g) c',args:=f' ++ c.args.map a1.eval },Nat.le_max_left _ _,by simp_all,RJ.mono ?_ hG2.c,hq2⟩⟩;refine ⟨c',_,rfl,rfl,?_⟩;have hr:ay M1 B1 (first ++ az ++ caps) (f' ++ c.args.map a1.eval ++ c').toList:=by simpa using ER (ER r1 ra) r2
       exact hr.blw hbl
      .cases hq
     .cases hq
    .cases hq
   .cases h
 | .skip,_,_,_,_,_,_,_,h,_,_=>by cases h
 | .label _,_,_,_,_,_,_,_,h,_,_=>by cases h
 | .exit _,_,_,_,_,_,_,_,h,_,_=>by cases h
 | .ret,_,_,_,_,_,_,_,h,_,_=>by cases h
 | .scope _,_,_,_,_,_,_,_,h,_,_=>by cases h
 | .loop _,_,_,_,_,_,_,_,h,_,_=>by cases h
 | .rangeFunc _ _ _ _,_,_,_,_,_,_,_,h,_,_=>by cases h
 | .goto _,_,_,_,_,_,_,_,h,_,_=>by cases h
 | .refuse _,_,_,_,_,_,_,_,h,_,_=>by cases h
theorem Ev.bNB {C:Cal} {L:xy} {g:FuncId} {fn:Func} {c:Code} (hm:S.P.follows .mixedOrders=true) (hS:S.OK) (hC:oN S.P C) (hCD:∀ g args h r h',S.CD C g args h=some (r,h')->sQ S.P (CD S.P) g args h r h') (hL:∀ m,IL (S.xe C L (S.ae g fn.ntmps) m))
 (hf:S.P.funcs[g]? = some fn) (hb:fn.body=some c) (hn:(fn.name != "runtime.NumGoroutine")=true) {args:bZZ} {h:aG} {r:PV} {h':aG} (hlen:args.length<=fn.ntmps)
 (hA:S.uM C L (S.ae g fn.ntmps) h.length c (G5 S.P fn.results.toList (S.iL g).ro h.length (Dj args)) (S.Vj C L (S.ae g fn.ntmps) fn.results.toList (S.iL g).ro h.length (Dj args)) ⟨mO 0 args,h⟩=some (r,h')):Ev S.P g args h r h':=by
 refine ⟨by grind [callable],fun out M B w vals hmem hheap hcnt hnew hv => ?_⟩;have hI:=aO4 hlen hmem hheap hcnt hnew hv;refine calls_of_wp_defers hf hb (vZ (OI hm hS hC hL c hA hI rfl) fun e a' w' hl => ?_);obtain ⟨ax,Z',M',B',rfl,hG,hl⟩:=hl;have fin:∀ {M2 B2 Z2 w2},cu fn.ntmps out h.length M B ⟨mO 0 args,h⟩ (vals ++ Array.replicate (fn.ntmps-vals.size) undef) w M2 B2 Z2 a'.tmps w2->GG S.P fn.results.toList (S.iL g).ro h.length (Dj args) Z2=some (r,h')->∃ v,(results fn a'.tmps).run S.P w2 = .ok v w2/\∃ v' M' B',Ending.returned v = .returned v'/\Post h B out M w r h' v' M' B' w2:=fun {M2 B2 Z2 w2} hG2 hk=>by obtain ⟨r0,hret,rfl⟩:=aC6 hk;obtain ⟨v,hrun,M'',B'',hpost⟩:=aHX (ro:=(S.iL g).ro) hheap hG2 hret;grind
 rcases hl with ⟨hk,hd⟩ | ⟨m,g2,ps,d,hm0,hd,hD,hk⟩
 .have key:GG S.P fn.results.toList (S.iL g).ro h.length (Dj args) Z'=some (r,h')->Leaves S.P fn a'.tmps (fun e w'=>∃ v M' B',e = .returned v/\Post h B out M w r h' v M' B' w') a'.defers .returning w':=fun hk=>by rw[hd]; exact fin hG hk
  cases ax with
  | normal=>exact key hk
  | ret=>exact key hk
  | exit i=>cases hk
 .have key:zM (S.xe (S.CD C) L (S.ae g fn.ntmps) h.length) none g2 ps (He Z'.h 3 (xB [] (PV.xM ps))) (GG S.P fn.results.toList (S.iL g).ro h.length (Dj args)) Z'=some (r,h')->Leaves S.P fn a'.tmps (fun e w'=>∃ v M' B',e = .returned v/\Post h B out M w r h' v M' B' w') a'.defers .returning w':=fun hk=>by
   obtain ⟨r1,h1,hE,hp⟩:=aHH (aGI S.P) hS.W hCD (fun _ _ _ x=>x) hk;unfold jE at hp;split at hp
   .rename_i Z2 hput;obtain ⟨cap,vs,htar,bXR,P7⟩:=hD;have P7:ay M' B' ps vs.toList:=P7.mono ⟨fun _ _ _ x=>x,fun i c hi=>by rw[mV] at hi;simp_all⟩;have hcall:=hE.1;unfold callable at hcall;split at hcall
    .rename_i fn2 hfn2;have hinv:(invoke d.target d.args).run S.P w' = .ok (.enter g2 vs) w':=by
      rw[htar];have bXL:S.P.funcs[g2]? = some fn2:=hfn2;simp only[invoke,callFunc,run_program,mX,wZ];have hnb:fn2.body.isNone=false:=by cases hb:fn2.body<;>simp[hb] at hcall ⊢
      grind [Sem.run_pure]
     rw[hd];refine ⟨by simp,_,cap,g2,vs,htar,hinv,?_⟩;refine CallsD.mono (aGA (aGI S.P) hG.inv P7 hE hput (R:=fun e w2=>∃ v,e = .returned v/\∃ v2,(results fn a'.tmps).run S.P w2 = .ok v2 w2/\∃ v' M' B',Ending.returned v2 = .returned v'/\Post h B out M w r h' v' M' B' w2) fun v M2 B2 w2 hG2 => ?_) fun e u' w2 hh => ?_
     .exact ⟨v,rfl,fin (hG.trans hG2.c) hp⟩
     .obtain ⟨rfl,v,rfl,hh⟩:=hh;exact hh
    grind
   simp_all
  cases ax with
  | normal=>exact key hk
  | ret=>exact key hk
  | exit i=>cases hk
theorem aCQ (hm:S.P.follows .mixedOrders=true) (hS:S.OK) (h0:oN S.P S.C0):∀ n,(oN S.P (S.bC n).1/\∀ g args h r h',S.CD (S.bC n).1 g args h=some (r,h')->sQ S.P (CD S.P) g args h r h') /\
 ∀ E m0 l m x (K:AX->ASt->R) Z v,S.wp E=E->(S.bC n).2 E m0 l m x K (Z.gc l m)=some v->Ll m0 (dS E m0 x) (fun e Z'=>K e Z'=some v) n Z
 | 0=>by
  refine ⟨⟨h0,fun g args h r h' hv => ?_⟩,fun _ _ _ _ _ _ _ _ _ h=>by cases h⟩;unfold SE.CD at hv;split at hv
  .cases hv
  .rename_i hc;split at hv
   .cases hv
   .rw[show (S.bC 0).1 g args h=S.C0 g args h from rfl,hc] at hv; cases hv
 | n+1=>by
  obtain ⟨⟨ih1,ihD⟩,ih2⟩:=aCQ hm hS h0 n;have a8I:∀ E m0,S.wp E=E->IL (S.xe (S.bC n).1 (S.bC n).2 E m0):=fun E m0 hE l m x K Z v hv=>by refine ⟨n,?_⟩;exact ih2 E m0 l m x K Z v hE hv
  have body:∀ {cp:CP} (g:FuncId) (args:bZZ) (h:aG) (r:PV) (h':aG),(∀ (fn:Func) (c:Code),S.P.funcs[g]? = some fn->fn.body=some c->∀ (vals:Array Value) (w:World) (R:Ending->World->Prop),c.wp S.P (bodyPost S.P fn R) { tmps:=vals ++ Array.replicate (fn.ntmps-vals.size) undef,defers := [] } w->cp g vals w R) ->
   (S.iL g).df=false->S.run (S.bC n).1 (S.bC n).2 g args h=some (r,h')->sQ S.P cp g args h r h':=fun {cp} g args h r h' hcp hdf hv=>by
   unfold SE.run at hv;split at hv
   .rename_i fn hf;split at hv
    .rename_i c hb;split at hv
     .rename_i hd;rw[hdf] at hv;simp only[bI,ny] at hd;have key:=wE hS.V hS.W ih1 (a8I _ _ rfl) c hv;refine sQ.aAA (fun k=>hcp _ _ hf hb _ _ _ k) hm hf hb hd.2 (S.iL g).vars (S.iL g).mv (S.iL g).mu (S.iL g).sz (S.iL g).jt (S.iL g).lt (S.iL g).pt (S.iL g).fz (S.iL g).ro (S.iL g).ft (S.iL g).sy (S.iL g).ln hd.1 (yC c (fun e Z' he => ?_) key);cases e with
      | normal=>exact ⟨trivial,aC6 he⟩
      | ret=>exact ⟨trivial,aC6 he⟩
      | exit i=>cases he
     .cases hv
    .cases hv
   .cases hv
  refine ⟨⟨fun g args h r h' hv => ?_,fun g args h r h' hv => ?_⟩,fun E m0 l m x K Z v hE hv => ?_⟩
  .have hv:Fb (S.C0 g args h) (S.run (S.bC n).1 (S.bC n).2 g args h)=some (r,h'):=hv;cases hc:S.C0 g args h with
   | some x=>rw[hc] at hv; injection hv with hv; subst hv; exact h0 _ _ _ _ _ hc
   | none =>
    rw[hc] at hv;cases hdf:(S.iL g).df with
    | false=>exact body g args h r h' (fun _ _ hf hb _ _ _ k=>calls_of_wp hf hb k) hdf hv
    | true =>
     unfold SE.run at hv;split at hv
     .rename_i fn hf;split at hv
      .rename_i c hb;split at hv
       .rename_i hd;rw[hdf] at hv;simp only[bI,ny] at hd;exact Ev.bNB hm hS ih1 ihD (fun m=>a8I _ _ rfl) hf hb hd.2 hd.1 hv
       .cases hv
      .cases hv
     .cases hv
  .unfold SE.CD at hv;split at hv
   .cases hv
   .rename_i hc;split at hv
    .cases hv
    .rename_i hdf;have hv:Fb (S.C0 g args h) (S.run (S.bC n).1 (S.bC n).2 g args h)=some (r,h'):=hv;rw[hc] at hv;exact body g args h r h' (fun _ _ hf hb _ _ _ k=>callsD_of_wp hf hb k) hdf hv
  .have hv:S.turn (S.bC n).1 (S.bC n).2 E m0 l m x K (Z.gc l m)=some v:=hv;rw[bU1] at hv;obtain ⟨hpl,hv⟩:=gU hv;split at hv
   .rename_i hc;simp only[bI,ny] at hc;rw[hE] at hv;refine ⟨l,m,hc.1,a7U hpl hc.2,yC x (fun e Z' he => ?_) (wE hS.V hS.W (by rw[<- hE]; exact ih1) (a8I _ _ hE) x hv)⟩;cases e with
    | normal=>exact ih2 E m0 l m x K Z' v hE he
    | ret=>exact he
    | exit i=>exact he
   .cases hv
theorem XN (hS:S.OK) (n:Nat) {g:FuncId} {args:bZZ} {h:aG} {v:PV×aG} (e:(S.bC n).1 g args h=some v):S.CC g args h=some v:=((SX hS g args h).lim v).2 ⟨n,e⟩
theorem NL (hm:S.P.follows .mixedOrders=true) (hS:S.OK) (h0:oN S.P S.C0):oN S.P S.CC:=fun g args h r h' hv=>by obtain ⟨n,hn⟩:=((SX hS g args h).lim _).1 hv;exact (aCQ hm hS h0 n).1.1 g args h r h' hn
end
def vI (k:IntKind) (p:PV) (K:Int->R):R:=match p with | .int k' n=>(match decide (k'=k) with | true=>K n | false=>none) | _=>none
def vB (p:PV) (K:Bool->R):R:=match p with | .bool b=>K b | _=>none
def vS (p:PV) (K:ByteArray->R):R:=match p with | .str b=>K b | _=>none
def vL (o:Bool) (z:Nat) (p:PV) (K:bZZ->R):R:=match p with | .sl o' z' es=>(match o'==o&&Nat.beq z' z with | true=>K es | false=>none) | _=>none
def w0 (p:PV) (K:R):R:=match p with | .tuple []=>K | _=>none
@[simp] theorem ui (k : IntKind) (n : Int) (K : Int -> R) : vI k (.int k n) K = K n := by simp [vI]
@[simp] theorem zu (b : Bool) (K : Bool -> R) : vB (.bool b) K = K b := rfl
@[simp] theorem jT (b : ByteArray) (K : ByteArray -> R) : vS (.str b) K = K b := rfl
@[simp] theorem aVU (o : Bool) (z : Nat) (es : bZZ) (K : bZZ -> R) : vL o z (.sl o z es) K = K es := by simp [vL]
@[simp] theorem bZR (K : R) : w0 (.tuple []) K = K := rfl
theorem sH (k:IntKind) (p:PV):(∀ K:PV->R,vI k p (fun n=>K (.int k n))=K p)\/(∀ K:PV->R,vI k p (fun n=>K (.int k n))=none):=by unfold vI; grind
theorem J8 (p:PV):(∀ K:PV->R,vB p (fun n=>K (.bool n))=K p)\/(∀ K:PV->R,vB p (fun n=>K (.bool n))=none):=by unfold vB; grind
theorem Wl (p:PV):(∀ K:PV->R,vS p (fun n=>K (.str n))=K p)\/(∀ K:PV->R,vS p (fun n=>K (.str n))=none):=by unfold vS; grind
theorem Aq (o:Bool) (z:Nat) (p:PV):(∀ K:PV->R,vL o z p (fun n=>K (.sl o z n))=K p)\/(∀ K:PV->R,vL o z p (fun n=>K (.sl o z n))=none):=by unfold vL; grind [Nat.eq_of_beq_eq_true]
theorem bVP (p:PV) (h:aG):(∀ K:PV->aG->R,w0 p (K (.tuple []) h)=K p h)\/(∀ K:PV->aG->R,w0 p (K (.tuple []) h)=none):=by grind [w0]
theorem zk {f:(PV->R)->R} {p:PV} (hf:(∀ K:PV->R,f K=K p)\/(∀ K:PV->R,f K=none)) (h:aG):(∀ K:PV->aG->R,f (fun q=>K q h)=K p h)\/(∀ K:PV->aG->R,f (fun q=>K q h)=none):=by grind
theorem kZ {b:Bool} {f g:(PV->R)->R} {p:PV} (hf:(∀ K:PV->R,f K=K p)\/(∀ K:PV->R,f K=none)) (hg:(∀ K:PV->R,g K=K p)\/(∀ K:PV->R,g K=none)) :
 (∀ K:PV->R,aA b (f K) (g K)=K p)\/(∀ K:PV->R,aA b (f K) (g K)=none):=by
 cases b
 .exact hg
 .exact hf
theorem tY {b:Bool} {f g:(PV->aG->R)->R} {p:PV} {h:aG} (hf:(∀ K:PV->aG->R,f K=K p h)\/(∀ K:PV->aG->R,f K=none)) (hg:(∀ K:PV->aG->R,g K=K p h)\/(∀ K:PV->aG->R,g K=none)) :
 (∀ K:PV->aG->R,aA b (f K) (g K)=K p h)\/(∀ K:PV->aG->R,aA b (f K) (g K)=none):=by
 cases b
 .exact hg
 .exact hf
noncomputable def qh (f:Func):Code:=match f.body with | some c=>c | none => .skip
def Code.sub:List Bool->Code->Code
 | [],c=>c
 | b::p,.seq x y=>match b with | true=>Code.sub p y | false=>Code.sub p x
 | b::p,.cond _ x y=>match b with | true=>Code.sub p y | false=>Code.sub p x
 | b::p,.rangeFunc _ _ x y=>match b with | true=>Code.sub p y | false=>Code.sub p x
 | _::p,.block _ x=>Code.sub p x
 | _::p,.scope x=>Code.sub p x
 | _::p,.loop x=>Code.sub p x
 | _,c=>c
@[simp] theorem aI (A B : R) : aA true A B = A := rfl
@[simp] theorem aC (A B : R) : aA false A B = B := rfl
theorem O5 (b:Bool) (A B:R):aA b A B=if b=true then A else B:=by cases b<;>rfl
theorem aQ {A:R} (h:b=true):chk b A=A:=by subst h; rfl
theorem nS {es:bZZ} {n:Int} {K:PV->R} {e:PV} (h0:0<=n) (h:es[n.toNat]? = some e):bz es n K=K e:=by grind [bz]
theorem Ew {n:Int} {K:Int->R} {b:UInt8} (h0:0<=n) (h:s[n.toNat]? = some b):vw s n K=K b.toNat:=by grind [vw]
theorem qQ {C:Cal} {g:FuncId} {args:bZZ} {K:PV->R} {r:PV} (h:C g args []=some (r,[])):jO C g args K=K r:=by unfold jO; rw[h]
theorem aRB {es:bZZ} {K:Bool->R} {v:PV×aG} (h1:K false=some v) (h2:es = []->K true=some v):IV es K=some v:=by grind [IV,a_2]
section
variable {E:AE} {ops:Array Oper} {K:ASt->Prop}
end
end Go.Proofs.YtilpiopkekkbiaaGreatDoor
namespace Go.Proofs.YtilpiopkekkbiaaGreatDoor
open Go.RowKit Go.ChangeShapes Go.WideShapes Go.ChangeAt
def a4A (w:World) (b o:Nat):Option Value:=match w.cell? ⟨b,o,none⟩ with | some v=>if v.oneCell' then some v else none | none=>none
theorem aDR {w:World} {b o:Nat} {v:Value}:a4A w b o=some v↔w.cell? ⟨b,o,none⟩=some v/\v.oneCell'=true:=by grind [a4A]
def GW (w:World):Prop:=∃ m,∀ b o v,BH m b o=some v->a4A w b o=some v
def whole (w:World) (h:GW w):Mem:=⟨Classical.choose h,a4A w,Classical.choose_spec h⟩
theorem aDS {w:World} {hw:GW w} {b o:Nat} {v:Value}:whole w hw b o=some v↔w.cell? ⟨b,o,none⟩=some v/\v.oneCell'=true:=aDR
theorem bWC (w:World) (hw:GW w):zf (whole w hw) w:=fun _ _ _ h=>aDS.1 h
theorem Ev.top {P:Program} {g:FuncId} {args:bZZ} {r:PV} {w:World} {hw:GW w} {vals:Array Value} (h:Ev P g args [] r []) (ha:ay (whole w hw) [] args vals.toList) :
 Calls P g vals w fun e w'=>∃ v M',e = .returned v/\Rep M' [] r v/\zf M' w'/\Below w.heap.size w w':=by
 have h0:∀ w b,aT w [] [] b=0:=fun w b=>by simp[aT]
 refine (h.2 (fun _=>0) (whole w hw) [] w vals (bWC w hw) ⟨rfl,fun i cs hi=>by simp at hi⟩ (fun b=>by rw[h0]; omega) (fun b _=>by rw[h0]) ha).mono fun e w' he => ?_
 obtain ⟨v,M',B',rfl,hP⟩:=he;have hB':B' = []:=lJ (by have:=hP.heap.1; simp_all);subst hB';exact ⟨v,M',rfl,hP.rep,hP.mem,hP.fr.os,hP.fr.tape,hP.fr.output,hP.fr.size,fun k hk=>(hP.fr.blk k hk (h0 w k)).1⟩
def Ep (P:Program) (t:TypeId):Bool:=match P.underlying t with | some (.struct _) | some (.array ..)=>true | _=>false
def zG (P:Program) (t:TypeId) (qs:bZZ):PV:=if Ep P t then .agg qs else qs.headD .nilp
def parts (P:Program) (t:TypeId):List (Nat×TypeId):=match P.underlying t with
 | some (.struct fs)=>fs.toList.map fun f=>(f.offset,f.type)
 | some (.array n e)=>(List.range n).map fun i=>(i*P.cellsOf e,e)
 | _ => []
def jG (P:Program):Nat->TypeId->bZZ->Prop
 | 0,_,_=>False
 | fuel+1,t,ps=>match P.underlying t with
  | some .bool=>∃ b,ps = [.bool b]
  | some (.int k)=>∃ n,ps = [.int k n]/\(Lit.int k n).wf=true
  | some .string=>∃ s:ByteArray,ps = [.str s]/\s.size<=reachBytes
  | some (.slice e)=>∃ es:bZZ,ps = [.sl false (P.cellsOf e) es]/\es.length*P.bytesOf e<=reachBytes/\∀ p,p∈es->∃ qs,jG P fuel e qs/\p=zG P e qs
  | some (.struct _) | some (.array ..)=>ps.length=P.cellsOf t/\∀ x,x∈parts P t->jG P fuel x.2 ((ps.drop x.1).take (P.cellsOf x.2))
  | _=>False
def GN (P:Program) (total:Nat):Nat->List (Nat×TypeId)->Bool
 | off,[]=>off==total
 | off,x::l=>x.1==off&&GN P total (off+P.cellsOf x.2) l
def a5S (P:Program) (l:List TypeId):Bool:=l.all fun t=>match P.underlying t with
 | some .bool=>P.cellsOf t==1
 | some (.int _)=>P.cellsOf t==1
 | some .string=>P.cellsOf t==1
 | some (.slice e)=>l.contains e&&decide (0<P.cellsOf e)&&P.cellsOf t==1
 | some (.struct _)=>(parts P t).all (fun x=>l.contains x.2)&&GN P (P.cellsOf t) 0 (parts P t)
 | some (.array ..)=>(parts P t).all (fun x=>l.contains x.2)&&GN P (P.cellsOf t) 0 (parts P t)
 | _=>false
theorem aT2 {M:Mem} {B:aP}:∀ {ps qs:bZZ} {us vs:List Value},ay M B ps us->ay M B qs vs->ay M B (ps ++ qs) (us ++ vs)
 | [],qs,us,vs,h,k=>by rw[dW] at h; simp_all
 | p::ps,qs,us,vs,h,k=>by obtain ⟨u,wW,rfl,h1,h2⟩:=cO.1 h;exact cO.2 ⟨u,wW ++ vs,rfl,h1,aT2 h2 k⟩
theorem aVB {P:Program} {total:Nat}:∀ {l:List (Nat×TypeId)} {off:Nat},GN P total off l=true->off<=total/\∀ x,x∈l->off<=x.1
 | [],off,h=>by grind [GN]
 | x::l,off,h=>by simp only[GN,bI,uH] at h;obtain ⟨h1,h2⟩:=aVB h.2;grind
theorem aC' {P:Program} {M:Mem} {S:TypeId->bZZ->Prop} {cs:List Value}:∀ {l:List (Nat×TypeId)} {off:Nat},GN P cs.length off l=true ->
 (∀ x,x∈l->∃ qs,S x.2 qs/\ay M [] qs ((cs.drop x.1).take (P.cellsOf x.2))/\∀ v,v∈(cs.drop x.1).take (P.cellsOf x.2)->v.oneCell'=true)->∃ ps,ay M [] ps (cs.drop off)/\(∀ v,v∈cs.drop off->v.oneCell'=true)/\∀ x,x∈l->S x.2 ((ps.drop (x.1-off)).take (P.cellsOf x.2))
 | [],off,h,_=>by simp[GN] at h; subst h;exact ⟨[],by rw[List.drop_length]; exact dW.2 rfl,by simp,by simp⟩
 | x::l,off,h,hx=>by
  simp only[GN,bI,uH] at h;obtain ⟨e,ht⟩:=h;subst e;obtain ⟨hle,hge⟩:=aVB ht;obtain ⟨qs,hq,hr,ho⟩:=hx x (by simp);obtain ⟨ps,hp,ho',hs⟩:=aC' ht fun y hy=>hx y (by simp[hy])
  have hlen:qs.length=P.cellsOf x.2:=by rw[oH hr,wY,xw]; omega
  refine ⟨qs ++ ps,?_,fun v hv => ?_,fun y hy => ?_⟩;grind [aT2,List.drop_drop,List.take_append_drop]
  grind [List.take_append_drop,List.drop_drop]
  .rcases kG.1 hy with rfl | hy
   simp_all;grind [List.drop_append,List.drop_eq_nil_of_le]
theorem aDQ {H:Type} {P:Program} {e:TypeId}:∀ {ds:List (DataW H)} {d:DataW H} {n:Nat},d∈ds->n∈d.weights P e->n∈DataW.weightsAll P e ds
 | d0::ds,d,n,hd,hn=>by
  rw[DataW.weightsAll,vX];rcases kG.1 hd with rfl | hd
  .exact .inl hn
  .exact .inr (aDQ hd hn)
theorem aQ4 {α:Type} {R:Nat->α->Prop}:∀ n:Nat,(∀ j,j<n->∃ p,R j p)->∃ l:List α,l.length=n/\∀ (j:Nat) p,l[j]? = some p->R j p
 | 0,_=>⟨[],rfl,by simp⟩
 | n+1,h=>by
  obtain ⟨l,hl,hr⟩:=aQ4 n fun j hj=>h j (by omega)
  obtain ⟨p,hp⟩:=h n (by omega);refine ⟨l ++ [p],by simp[hl],fun j q hq => ?_⟩;grind
theorem aUA {P:Program} {fuel:Nat} {t:TypeId} {ps:bZZ} (h:jG P fuel t ps) (ha:Ep P t=false):∃ q,ps = [q]/\q.isAgg=false/\(∀ cs,q ≠ .tuple cs)/\q.size=1:=by
 cases fuel with
 | zero=>exact h.elim
 | succ fuel =>
  unfold jG at h;unfold Ep at ha;split at h
  .obtain ⟨b,rfl⟩:=h; simp
  .obtain ⟨b,rfl,_⟩:=h; simp
  .obtain ⟨b,rfl,_⟩:=h; simp
  .obtain ⟨b,rfl,_⟩:=h; simp
  .simp_all
  .simp_all
  simp_all
section
variable {H:Type} {enc:TypeId×Value->H} {W:World} {hW:GW W} {P:Program}
theorem a'S {fuel:Nat} {e:TypeId} {ps:bZZ} {cs:List Value} (hs:jG P fuel e ps) (hr:ay (whole W hW) [] ps cs) (hl:cs.length=P.cellsOf e) (ho:∀ v,v∈cs->v.oneCell'=true) :
 (zG P e ps).size=P.cellsOf e/\∀ b off,(∀ i,i<cs.length->W.cell? ⟨b,off+i,none⟩=cs[i]?)->Loc (whole W hW) [] (zG P e ps) b off:=by
 unfold zG;have hlen:=oH hr;cases ha:Ep P e with
 | true =>refine ⟨by simp_all,fun b off h=>yO.2 (Ey fun j p hp => ?_)⟩;obtain ⟨u,hu,FK⟩:=vN hr hp;exact ⟨u,aDS.2 ⟨(h j (iO.1 hu).1).trans hu,ho u (nZ hu)⟩,FK⟩
 | false =>
  obtain ⟨q,rfl,h1,h2,h3⟩:=aUA hs ha;have hc1:cs.length=1:=by rw[<- hlen]; rfl
  refine ⟨by simp_all,fun b off h=>(zX h1 h2).2 ?_⟩;obtain ⟨u,hu,FK⟩:=vN hr (j:=0) (p:=q) rfl;exact ⟨u,aDS.2 ⟨(h 0 (by omega)).trans hu,ho u (nZ hu)⟩,FK⟩
theorem aFJ (b off n:Nat):(⟨b,off,none⟩:Addr).add n=⟨b,off+n,none⟩:=by grind [Addr.add]
theorem open_any {l:List TypeId} (hl:a5S P l=true):∀ (fuel:Nat) (t:TypeId) (cs:List Value) (x:DataW H×List MemPlace),t∈l->DataW.trod enc P W 0 (fun _=>true) true fuel t cs=some x->(∀ n,n∈x.1.weights P t->n<=reachBytes) ->
 ∃ ps,jG P fuel t ps/\ay (whole W hW) [] ps cs/\cs.length=P.cellsOf t/\∀ v,v∈cs->v.oneCell'=true:=by
 intro fuel;induction fuel with
 | zero=>intro t cs x _ h; simp[DataW.trod] at h
 | succ fuel ih =>
  intro t cs x ht h hw;have hc:=jF.1 hl t ht;simp only[jG];cases hu:P.underlying t with
  | none=>rw[hu] at hc; cases hc
  | some ty =>
   cases ty with
   | bool =>simp only[hu] at hc;obtain ⟨b,rfl,_⟩:=DataW.trod_bool hu h;exact ⟨[.bool b],⟨b,rfl⟩,cO.2 ⟨_,_,rfl,kE.2 rfl,dW.2 rfl⟩,(eq_of_beq hc).symm,by simp_all⟩
   | int k =>simp only[hu] at hc;obtain ⟨n,rfl,_,hn⟩:=DataW.trod_int hu h;exact ⟨[.int k n],⟨n,rfl,hn⟩,cO.2 ⟨_,_,rfl,dw.2 rfl,dW.2 rfl⟩,(eq_of_beq hc).symm,by simp_all⟩
   | string =>simp only[hu] at hc;obtain ⟨s,rfl,rfl,hn⟩:=DataW.trod_string hu h;exact ⟨[.str s],⟨s,rfl,by have:=hw s.size (by simp[DataW.weights]); exact this⟩,cO.2 ⟨_,_,rfl,iq.2 rfl,dW.2 rfl⟩,(eq_of_beq hc).symm,by simp_all⟩
   | slice e =>
    simp only[hu,bI,ny,uH,List.contains_iff_mem] at hc;obtain ⟨⟨he,hpos⟩,h1⟩:=hc;rcases DataW.trod_slice hu h with ⟨rfl,rfl⟩ | ⟨a,len,cap,elems,rest,n',hf,rfl,rfl,_,hle,_,hel,hall,hsp,_⟩
    .exact ⟨[.sl false (P.cellsOf e) []],⟨[],rfl,by simp,by simp⟩,cO.2 ⟨_,_,rfl,jR.2 ⟨none,0,rfl,fK _,by simp,fun _=>⟨rfl,rfl,rfl⟩,by simp⟩,dW.2 rfl⟩,h1.symm,by simp_all⟩
    .injection hf with hf; subst hf
     have hwt:∀ k,k∈(DataW.slice (elems.map (·.1)) (rest.map (·.1)):DataW H).weights P t->k<=reachBytes:=hw;have hw0:len*P.bytesOf e<=reachBytes:=by have:=hwt ((elems.length+rest.length)*P.bytesOf e) (by simp[DataW.weights,hu]);grind
     have hone:∀ j,j<len->∃ p,(∃ qs,jG P fuel e qs/\p=zG P e qs)/\p.size=P.cellsOf e/\∀ b off,a=⟨b,off,none⟩->Loc (whole W hW) [] p b (off+j*P.cellsOf e):=by
      intro j hj;have hjj:=hall j hj;rw[jU (by omega)] at hjj;obtain ⟨cs',hc',ht'⟩:=aW7.1 hjj;obtain ⟨qs,q1,q2,q3,q4⟩:=ih e cs' _ he ht' fun k hk=>hwt k (by simp only[DataW.weights,hu,kG,vX];exact .inr (.inl (aDQ (uG.2 ⟨_,dY (by omega),rfl⟩) hk)))
      obtain ⟨s1,s2⟩:=a'S q1 q2 q3 q4;refine ⟨_,⟨qs,q1,rfl⟩,s1,fun b off hab=>s2 b _ fun i hi => ?_⟩;obtain ⟨_,_,hcell⟩:=World.cells?_some hc';have:=hcell i (by omega);rw[hab,aFJ,aFJ] at this;exact this
     have hspot:cap≠0->∃ b off,a=⟨b,off,none⟩:=fun hcap=>by
      have key:∀ k cs',k=0->W.cells? 0 (a.add k) (P.cellsOf e)=some cs'->a.spot=none:=fun k cs' hk hc'=>by subst hk;obtain ⟨_,h2,hcell⟩:=World.cells?_some hc';have:=hcell 0 hpos;rw[jU (by omega)] at this;grind [Addr.add,World.cell?_spot]
      have:a.spot=none:=by
       by_cases h0:0<len
       .have hjj:=hall 0 h0;rw[jU (by omega)] at hjj;obtain ⟨cs',hc',_⟩:=aW7.1 hjj;simp_all
       .obtain ⟨r1,r2⟩:=hsp rfl;have hjj:=r2 0 (by omega);rw[jU (by omega)] at hjj;obtain ⟨cs',hc',_⟩:=aW7.1 hjj;grind
      exact ⟨a.block,a.off,by cases a; simp_all⟩
     obtain ⟨es,hlen,hes⟩:=aQ4 len hone;subst hlen;refine ⟨[.sl false (P.cellsOf e) es],⟨es,rfl,hw0,fun p hp => ?_⟩,cO.2 ⟨_,_,rfl,jR.2 ⟨some a,cap,rfl,hle,fun p hp => ?_,fun h0=>by omega,fun hne => ?_⟩,dW.2 rfl⟩,h1.symm,by simp_all⟩
     .obtain ⟨j,hj⟩:=yu.1 hp;grind
     .obtain ⟨j,hj⟩:=yu.1 hp;grind
     .have hne':es.length≠0:=fun h0=>hne (lJ h0)
      grind [zY]
   | struct fs =>
    simp only[hu,bI,jF,List.contains_iff_mem] at hc;obtain ⟨hm,UW⟩:=hc;obtain ⟨xs,n,hf,rfl,hlen,hxs,hg⟩:=DataW.trod_struct hu h;injection hf with hf; subst hf
    rw[<- hlen] at UW;obtain ⟨ps,p1,p2,p3⟩:=aC' (M:=whole W hW) (S:=jG P fuel) (cs:=cs) (off:=0) UW fun y hy=>by
     have hp:parts P t=fs.toList.map fun f=>(f.offset,f.type):=by unfold parts; rw[hu]
     obtain ⟨f,hf,hfe⟩:=uG.1 (hp▸hy);obtain ⟨i,hi⟩:=yu.1 hf;have hi':fs[i]? = some f:=by grind
     have hlt:i<xs.length:=by rw[hxs]; grind
     have hgi:=hg i f hi';rw[jU hlt] at hgi;subst hfe;obtain ⟨qs,q1,q2,q3,q4⟩:=ih f.type _ _ (hm _ hy) hgi fun k hk=>hw k (by simp only[DataW.weights,hu];exact DataW.weights_mem_each (j:=i) (t:=f.type) (by rw[lL,hi]; rfl) (by rw[lL,jU hlt]; rfl) k hk)
     grind
    rw[List.drop_zero] at p1 p2;grind [oH]
   | array n e =>
    simp only[hu,bI,jF,List.contains_iff_mem] at hc;obtain ⟨hm,UW⟩:=hc;obtain ⟨xs,n',hf,rfl,hlen,hxs,hg⟩:=DataW.trod_array hu h;injection hf with hf; subst hf
    rw[<- hlen] at UW;obtain ⟨ps,p1,p2,p3⟩:=aC' (M:=whole W hW) (S:=jG P fuel) (cs:=cs) (off:=0) UW fun y hy=>by
     have hp:parts P t=(List.range n).map fun i=>(i*P.cellsOf e,e):=by unfold parts; rw[hu]
     obtain ⟨i,hi,hfe⟩:=uG.1 (hp▸hy);have hlt:i<n:=XD.1 hi;have hgi:=hg i hlt;rw[jU (by omega)] at hgi;subst hfe;obtain ⟨qs,q1,q2,q3,q4⟩:=ih e _ _ (hm _ hy) hgi fun k hk=>hw k (by simp only[DataW.weights,hu];exact aDQ (uG.2 ⟨_,dY (by omega),rfl⟩) hk)
     grind
    rw[List.drop_zero] at p1 p2;grind [oH]
   | _=>simp only[hu] at hc; cases hc
theorem open_arg {l:List TypeId} (hl:a5S P l=true) {r:Reach} {b0:Nat} {t:TypeId} {v:Value} {d:DataW H} {ps:List MemPlace} (ht:t∈l) (hv:Value.okWide P W r b0 t v) (h:DataW.Trod enc P W 0 (fun _=>true) true t v d ps) (hw:∀ n,n∈d.weights P t->n<=reachBytes) :
 ∃ fuel qs,jG P fuel t qs/\Rep (whole W hW) [] (zG P t qs) v:=by
 obtain ⟨fuel,hf⟩:=h;obtain ⟨qs,h1,h2,h3,h4⟩:=open_any hl fuel t _ _ ht hf hw;refine ⟨fuel,qs,h1,?_⟩;unfold zG;cases ha:Ep P t with
 | true =>
  have:∃ cs,v = .agg cs:=by grind [Value.okWide,Ep]
  obtain ⟨cs,rfl⟩:=this;rw[aX rfl];exact pz.2 ⟨cs,rfl,h2⟩
 | false =>
  obtain ⟨q,rfl,h5,h6,h7⟩:=aUA h1 ha;obtain ⟨u,us,hu,hq,hn⟩:=cO.1 h2;rw[dW] at hn; subst hn;simp only[Qo,if_false,List.headD_cons];have:v.cells.toList = [v]\/∃ cs,v = .agg cs:=by cases v<;>first | exact .inr ⟨_,rfl⟩ | exact .inl rfl
  rcases this with h | ⟨cs,rfl⟩
  simp_all
  .exfalso;unfold Value.okWide at hv;unfold Ep at ha;split at hv
   .simp_all
   .simp_all
   .unfold Cell.okWide at hv;split at hv<;>simp_all[Cell.ok]
end
end Go.Proofs.YtilpiopkekkbiaaGreatDoor
namespace Go.Proofs.YtilpiopkekkbiaaGreatDoor
open Go.RowKit
variable {o:Oper} {h:aG} {args:bZZ} {C:Cal}
abbrev Iw (l:Nat):Fence:=Fence.wide.inRound l
section
variable {P:Program} {l n:Nat}
theorem aZH {f:FuncId} {args:Array Value} {w:World} {R:Ending->World->Prop} (h:Calls P f args w R):CallsIn (Iw l) n P f args w R :=callsIn_wide.2 h
theorem bRH {row:String} {args:Array Value} {w:World} {R:Value->World->Prop} (h:Rows P row args w R):RowsIn (Iw l) n P row args w R :=fun c cs _=>let ⟨v,w',r,s⟩:=h c cs; ⟨v,w',r,stepsIn_wide.2 s⟩
theorem aRV {a:Act} {w:World} {K:Act->World->Prop} {Q:Exit->Act->World->Prop} (hd:∀ c,o.op ≠ .defer c) (h:o.wp P a w K Q):o.wpIn (Iw l) n P a w K Q:=by
 refine ⟨fun _ _=>trivial,?_⟩;rw[show (Iw l).round=some l from rfl,Oper.semAt_some l a.eval o hd];unfold Oper.wp at h;generalize (execOp a.eval o).run P w=r at *;cases r with
 | ok x w' =>
  cases x<;>simp only[Oper.upon,Oper.uponIn] at h ⊢ <;>
   first
    | exact h
    | exact h.elim
    | exact ⟨fun h=>by simp[Fence.wide,Fence.inRound] at h,aZH h⟩
    | grind [Fence.wide,Fence.inRound,bRH]
 | halt x w'=>cases x<;>simp only[Oper.upon,Oper.uponIn] at h ⊢ <;> exact h
def LG (o:Oper):Bool:=match o.op with | .defer _=>false | _=>true
theorem aRH (h:LG o=true):∀ c,o.op ≠ .defer c:=fun c hc=>by simp[LG,hc] at h
theorem a9S {ops:Array Oper} {Q:Exit->Act->World->Prop} (hQ:¬ LetsOut Q):∀ (os:List Oper),(os.all LG)=true->∀ (a:Act) (w:World),wpList P ops Q os a w->wpListIn (Iw l) n P ops Q os a w
 | [],_,a,w,h=>h
 | o::os,hd,a,w,h=>by
  simp only[BC,bI] at hd;unfold wpList at h;unfold wpListIn;split at h
  .rename_i hw;rw[aX hw];rcases h with h | h
   .exact Oper.wpIn_mono (fun a w=>a9S hQ os hd.2 a w) (aRV (aRH hd.1) h)
   .exact absurd h.2 hQ
  .rename_i hw;rw[aV hw];exact ⟨fun _ _=>trivial,a9S hQ os hd.2 _ _ h⟩
theorem Rz {md:Region.Mode} {ops:Array Oper} {Q:Exit->Act->World->Prop} (hQ:¬ LetsOut Q) (hd:ops.all LG=true):∀ (fuel:Nat) (L:Array Bool) (a:Act) (w:World),wpAny P md ops Q fuel L a w->wpAnyIn (Iw l) n P md ops Q fuel L a w
 | 0,L,a,w,h=>h
 | fuel+1,L,a,w,h=>by
  refine ⟨h.1,fun i hi => ?_⟩;have h2:=h.2 i hi;unfold wpOp at h2;unfold wpOpIn;cases ho:ops[i]? with
  | none=>rw[ho] at h2; exact Rz hQ hd fuel _ a w h2
  | some o =>
   rw[ho] at h2;have hdo:LG o=true:=by obtain ⟨hlt,he⟩:=yj.1 ho;rw[Array.all_eq_true] at hd;rw[<- he]; exact hd i hlt
   show if Region.wanted o (yielded ops a.tmps)=true then _ else _
   have h2:if Region.wanted o (yielded ops a.tmps)=true then _ else _:=h2
   split at h2
   .rename_i hw;rw[aX hw];rcases h2 with h2 | h2
    .exact Oper.wpIn_mono (fun a w=>Rz hQ hd fuel _ a w) (aRV (aRH hdo) h2)
    .exact absurd h2.2 hQ
   .rename_i hw;rw[aV hw];exact ⟨fun _ _=>trivial,Rz hQ hd fuel _ _ _ h2⟩
end
def og:Code->Bool
 | .region _ ops _=>ops.all LG
 | .seq x y=>og x&&og y
 | .cond _ x y=>og x&&og y
 | .block _ x=>og x
 | .loop x=>og x
 | .scope _=>false
 | .rangeFunc _ _ _ _=>false
 | _=>true
section
variable {E:AE} {m0 l n:Nat} {out:Nat->Nat}
theorem a9Q {M:Mem} {B:aP} {Z:ASt} {t:Array Value} {w:World} {ds:List Deferred} {Q:AX->ASt->Prop}:¬ LetsOut (lift E out m0 M B Z t w ds Q):=by rintro ⟨a,w',ax,Z',M',B',h,_⟩;cases ax<;>cases h
theorem Eu (hm:E.P.follows .mixedOrders=true):∀ (c:Code),og c=true->∀ {M:Mem} {B:aP} {Z:ASt} {a:Act} {w:World} {Q:AX->ASt->Prop},Inv E.n M B out Z a.tmps w->dS E m0 c Q Z->c.wpIn (Iw l) n E.P (lift E out m0 M B Z a.tmps w a.defers Q) a w
 | .skip,_,M,B,Z,a,w,Q,hI,h=>wpIn_skip ⟨.normal,Z,M,B,rfl,h,rfl,cu.refl hI⟩
 | .label _,_,M,B,Z,a,w,Q,hI,h=>wpIn_label ⟨.normal,Z,M,B,rfl,h,rfl,cu.refl hI⟩
 | .exit id,_,M,B,Z,a,w,Q,hI,h=>wpIn_exit ⟨.exit id,Z,M,B,rfl,h,rfl,cu.refl hI⟩
 | .ret,_,M,B,Z,a,w,Q,hI,h=>wpIn_ret ⟨.ret,Z,M,B,rfl,h,rfl,cu.refl hI⟩
 | .region id ops draw,hn,M,B,Z,a,w,Q,hI,h=>by
  have hk:=a0Q (E:=E) hI;have hn:ops.all LG=true:=hn;rw[dS] at h;cases draw with
  | false =>simp only[Qo,if_false] at h;exact wpIn_region_list (a9S a9Q _ (by rw[Array.all_toList]; exact hn) _ _ (SG _ hk.inv h fun Z' M' B' a' w' hq hG hd=>⟨.normal,Z',M',B',rfl,hq,hd,(hk.trans hG).c⟩))
  | true =>
   simp only[BD] at h;have hd:=hk.inv.drew;rcases h with ⟨hok,h⟩ | h
   .obtain ⟨Z',hc,hq⟩:=a5F ops.toList 0 (fun j=>by simp) h;have hu:qB ops.size (Array.replicate ops.size false)=List.range' 0 ops.toList.length:=by unfold qB;rw[aDZ.2 (fun i hi=>by have:=XD.1 hi; simp[this]),aE6]; simp
    refine wpIn_region_any hm (Rz a9Q hn _ _ _ _ ?_);refine aFS hok ops.size (Array.replicate ops.size false) (K:=Q .normal) (Z':=Z') (by simp) (by rw[hu]; simp) (fun j o _ h => ?_) hd.1 (by rw[hu]; exact hc) hq fun M' B' a' w' hk' hG hd'=>⟨.normal,Z',M',B',rfl,hk',hd',((hk.trans hd.2).trans hG).c⟩
    have h':(Array.replicate ops.size false).getD j false=true:=h;simp[Array.getElem?_replicate] at h';split at h'<;>simp at h'
   .exact wpIn_region_any hm (Rz a9Q hn _ _ _ _ (a5A ops.size _ hd.1 (Xq _ hd.1.iC h) fun Zt M' B' a' w' hq hG hd'=>⟨.normal,Zt,M',B',rfl,hq,hd',((hk.trans hd.2).trans hG).c⟩))
 | .seq x y,hn,M,B,Z,a,w,Q,hI,h=>by
  simp only[og,bI] at hn;rw[dS] at h;refine NJ (ul (Eu hm x hn.1 hI h) fun e a' w' hl => ?_);obtain ⟨ax,Z',M',B',rfl,hq,hd,hG⟩:=hl;cases ax with
  | normal =>
   obtain ⟨ks,hq⟩:=hq;obtain ⟨M2,B2,hz⟩:=Yw (m0:=m0) ks hG.inv;have hG:=hG.trans hz;rcases hq with hq | ⟨l,m,hm0,hg,hq⟩
   .exact ul (Eu hm y hn.2 hG.inv hq) fun e a2 w2 hl2=>by rw[hd] at hl2; exact a1Q hG hl2
   .have hgc:=hG.trans (FH hG.inv hm0 hg);exact ul (Eu hm y hn.2 hgc.inv hq) fun e a2 w2 hl2=>by rw[hd] at hl2; exact a1Q hgc hl2
  | ret=>exact ⟨.ret,Z',M',B',rfl,hq,hd,hG⟩
  | exit i=>exact ⟨.exit i,Z',M',B',rfl,hq,hd,hG⟩
 | .cond c x y,hn,M,B,Z,a,w,Q,hI,h=>by
  simp only[og,bI] at hn;rw[dS] at h;split at h
  .rename_i b hb;have he:=kE.1 (hI.rd _ _ hb).1;refine wpIn_cond_split he (fun hb=>Eu hm x hn.1 hI (h.1 hb)) (fun hb=>Eu hm y hn.2 hI (h.2 hb))
  .exact h.elim
 | .block id x,hn,M,B,Z,a,w,Q,hI,h=>by
  rw[dS] at h;refine wpIn_block (ul (Eu hm x (by simpa[og] using hn) hI h) fun e a' w' hl => ?_);obtain ⟨ax,Z',M',B',rfl,hq,hd,hG⟩:=hl;cases ax with
  | normal=>exact ⟨.normal,Z',M',B',rfl,hq,hd,hG⟩
  | ret=>exact ⟨.ret,Z',M',B',rfl,hq,hd,hG⟩
  | exit i =>
   simp only[AX.toExit,Exit.inBlock];simp only[O3] at hq;split
   .rename_i e; rw[aX e] at hq; exact ⟨.normal,Z',M',B',rfl,hq,hd,hG⟩
   .rename_i e; rw[aV e] at hq; exact ⟨.exit i,Z',M',B',rfl,hq,hd,hG⟩
 | .scope x,hn,_,_,_,_,_,_,_,_=>by simp[og] at hn
 | .loop x,hn,M,B,Z,a,w,Q,hI,h=>by
  rw[dS] at h;obtain ⟨k,hk⟩:=h;refine wpIn_loop_rounds k ?_;have key:∀ (k:Nat) (M1:Mem) (B1:aP) (Z1:ASt) (a1:Act) (w1:World),cu E.n out m0 M B Z a.tmps w M1 B1 Z1 a1.tmps w1->a1.defers=a.defers->Ll m0 (dS E m0 x) Q k Z1->Code.roundsIn (Iw l) n E.P x (lift E out m0 M B Z a.tmps w a.defers Q) k a1 w1:=by
   intro k;induction k with
   | zero=>intro M1 B1 Z1 a1 w1 _ _ h; exact h.elim
   | succ k ih =>
    intro M1 B1 Z1 a1 w1 hG hd h;obtain ⟨l,m,hm0,hg,hb⟩:=h;have hgc:=FH hG.inv hm0 hg;rw[roundsIn_succ];refine ul (Eu hm x (by simpa[og] using hn) hgc.inv hb) fun e a' w' hl => ?_
    obtain ⟨ax,Z',M',B',rfl,hq,hd',hG'⟩:=hl;have hG2:=(hG.trans hgc).trans hG';cases ax with
    | normal=>exact ih M' B' Z' a' w' hG2 (by rw[hd',hd]) hq
    | ret=>exact ⟨.ret,Z',M',B',rfl,hq,by rw[hd',hd],hG2⟩
    | exit i=>exact ⟨.exit i,Z',M',B',rfl,hq,by rw[hd',hd],hG2⟩
  exact key k M B Z a w (cu.refl hI) rfl hk
 | .rangeFunc f ps az b,_,_,_,_,_,_,_,_,h=>by rw[dS] at h; exact h.elim
 | .goto l,_,_,_,_,_,_,_,_,h=>by rw[dS] at h; exact h.elim
 | .refuse l,_,_,_,_,_,_,_,_,h=>by rw[dS] at h; exact h.elim
end
structure rG (l n:Nat) (out:Nat->Nat) (m0:Nat) (M:Mem) (B:aP) (Z:ASt) (t:Array Value) (w:World) (M':Mem) (B':aP) (Z':ASt) (t':Array Value) (w':World):Prop where
 inv:Inv n M' B' out Z' t' w'
 mem:∀ (b o:Nat) (v:Value),M b o=some v->M' b o=some v
 pre:∀ (i:Nat) (c:Nat×Nat×TypeId),i<m0->B[i]? = some c->B'[i]? = some c
 os:w'.os=w.os
 tape:w'.tape=w.tape
 output:w'.output=w.output
 size:w.heap.size<=w'.heap.size
 blk:∀ b,b<w.heap.size->b≠l->fp B Z t w b=0->w'.heap[b]? = w.heap[b]? /\ ∀ o,M' b o=M b o
 own:∀ b,b<w.heap.size->fp B' Z' t' w' b<=fp B Z t w b
section
variable {n l:Nat} {out:Nat->Nat} {m0:Nat} {M M1 M2:Mem} {B B1 B2:aP} {Z Z1 Z2:ASt} {t t1 t2:Array Value} {w w1 w2:World}
theorem cu.gl (h:cu n out m0 M B Z t w M1 B1 Z1 t1 w1):rG l n out m0 M B Z t w M1 B1 Z1 t1 w1 :=⟨h.inv,h.mem,h.pre,h.fr.os,h.fr.tape,h.fr.output,h.fr.size,fun b hb _ h0=>h.fr.blk b hb h0,h.own⟩
theorem rG.trans (h:rG l n out m0 M B Z t w M1 B1 Z1 t1 w1) (k:rG l n out m0 M1 B1 Z1 t1 w1 M2 B2 Z2 t2 w2):rG l n out m0 M B Z t w M2 B2 Z2 t2 w2 :=
 ⟨k.inv,fun b o v e=>k.mem b o v (h.mem b o v e),fun i c hi e=>k.pre i c hi (h.pre i c hi e),k.os.trans h.os,k.tape.trans h.tape,k.output.trans h.output,ng h.size k.size,
  fun b hb hl h0=>by obtain ⟨h1,h2⟩:=h.blk b hb hl h0;obtain ⟨k1,k2⟩:=k.blk b (Qy hb h.size) hl (by have:=h.own b hb; omega);simp_all,
  fun b hb=>ng (k.own b (Qy hb h.size)) (h.own b hb)⟩
theorem TM (hI:Inv n M B out Z t w) (ho:1<=out l):fp B Z t w l=0:=by have:=hI.cnt l; omega
theorem aAZ (hI:Inv n M B out Z t w) (ho:1<=out l) {r:Loop} (hr:w.heap[l]? = some (.loop r)) (r':Loop):rG l n out m0 M B Z t w M B Z t (w.putObj l (.loop r')):=by
 have h0:=TM hI ho;have hx:=hI.ext (M':=M) (w':=w.putObj l (.loop r')) (dH.refl _ _) (fun b o v h=>by
  obtain ⟨h1,h2⟩:=hI.mem b o v h;grind [World.cell?,World.putObj_heap_other]) (fun b hb=>by
  grind [World.putObj_heap_other]) (by simp)
 exact ⟨hx.1,fun _ _ _ h=>h,fun _ _ _ h=>h,rfl,rfl,rfl,by simp,fun b _ hl _=>⟨World.putObj_heap_other hl,fun _=>rfl⟩,fun b _=>by rw[hx.2]; omega⟩
theorem Vd (hI:Inv n M B out Z t w) (ho:1<=out l) {r:Loop} (hr:w.heap[l]? = some (.loop r)) (hG:cu n out m0 M B Z t w M1 B1 Z1 t1 w1):w1.heap[l]? = some (.loop r):=by have hl:l<w.heap.size:=(yj.1 hr).1;rw[(hG.fr.blk l hl (TM hI ho)).1]; exact hr
end
def AX.jump:AX->Option Code
 | .normal=>none
 | .ret=>some .ret
 | .exit i=>some (.exit i)
theorem a2J {w:World} {l:Nat} {o o':Obj} (h:w.heap[l]? = some o):(w.putObj l o').heap[l]? = some o':=by have hl:l<w.heap.size:=(yj.1 h).1;simp[World.putObj,hl]
theorem bRG {E:AE} (hm:E.P.follows .mixedOrders=true) {assign body:Code} (ha:og assign=true) (hb:og body=true) {n l m0:Nat} {out:Nat->Nat} {M:Mem} {B:aP} {Z:ASt} {t:Array Value} {w:World} {f:FuncId}
 (hI:Inv E.n M B out Z t w) (ho:1<=out l) {r:Loop} (hr:w.heap[l]? = some (.loop r)) (hst:r.state = .ready) {Q:AX->ASt->Prop}
 (h:dS E m0 assign (DY (dS E m0 body Q) fun _ _=>False) Z) {R:Ending->World->Prop}
 (hR:∀ ax Z' M' B' t' w',Q ax Z'->rG l E.n out m0 M B Z t w M' B' Z' t' w'->w'.heap[l]? = some (.loop { r with state:=if ax.jump.isNone then .ready else .done,pending:=ax.jump })->R (.returned (.bool ax.jump.isNone)) w') :
 RoundIn Fence.wide n E.P l f t assign body w R:=by
 refine roundIn_of_wpIn trivial ?_;refine ul (Eu (n:=n) (l:=l) hm assign ha (a := { tmps:=t,defers := [] }) hI h) fun e a1 w1 hl => ?_
 obtain ⟨ax,Z1,M1,B1,rfl,hq,hd,hG⟩:=hl;cases ax with
 | ret=>exact hq.elim
 | exit i=>exact hq.elim
 | normal =>
  have hr1:=Vd hI ho hr hG;have hP1:=aAZ (m0:=m0) hG.inv ho hr1 { r with state := .busy };refine ⟨_,run_beginRound hr1 hst,?_⟩;have hr2:=a2J (o' := .loop { r with state := .busy }) hr1;refine ul (Eu (n:=n) (l:=l) hm body hb (a:=a1) hP1.inv hq) fun e a2 w2 hl => ?_
  obtain ⟨ax,Z2,M2,B2,rfl,hq2,hd2,hG2⟩:=hl;have hr3:=Vd hP1.inv ho hr2 hG2;have hend:=fun j=>run_endRound (P:=E.P) j hr3
  have hfin:=fun j=>(((hG.gl.trans hP1).trans hG2.gl).trans (aAZ (m0:=m0) hG2.inv ho hr3 { ({ r with state := .busy }:Loop) with state:=if Option.isNone j then .ready else .done,pending:=j }))
  cases ax with
  | normal=>exact ⟨_,_,hend none,hR .normal Z2 M2 B2 a2.tmps _ hq2 (hfin none) (a2J hr3)⟩
  | ret=>exact ⟨_,_,hend (some .ret),hR .ret Z2 M2 B2 a2.tmps _ hq2 (hfin (some .ret)) (a2J hr3)⟩
  | exit i=>exact ⟨_,_,hend (some (.exit i)),hR (.exit i) Z2 M2 B2 a2.tmps _ hq2 (hfin (some (.exit i))) (a2J hr3)⟩
theorem aAJ {s:fP} (h:∀ kp,kp∈s->kp.2.own=false) (t:Array Value) (b:Nat):ik s t b=0:=by
 induction s with
 | nil=>rfl
 | cons a l ih =>grind [ik,dP]
theorem aO5 {n n':Nat} {out:Nat->Nat} {M:Mem} {B:aP} {Z:ASt} {t tr:Array Value} {w:World} (hI:Inv n M B out Z t w) {sr:fP} (hsz:tr.size=n') (hs:jM sr)
 (hsl:∀ kp,kp∈sr->kp.1<n'/\Rep M B kp.2 (tr.getD kp.1 undef)/\kp.2.own=false):Inv n' M B (fun b=>out b+ik Z.s t b) ⟨sr,Z.h⟩ tr w:=by
 have h0:∀ b,ik sr tr b=0:=aAJ (fun kp hk=>(hsl kp hk).2.2) tr;refine ⟨hsz,hI.mem,hs,fun k p hk => ?_,hI.heap,fun b => ?_,fun b hb => ?_⟩
 .obtain ⟨h1,h2,h3⟩:=hsl _ (a3F hk);grind [fJ]
 .have:=hI.cnt b; grind [fp]
 .have:=hI.new b hb; grind [fp]
theorem bTJ {B B':aP} (h:∀ (i:Nat) (c:Nat×Nat×TypeId),i<B.length->B[i]? = some c->B'[i]? = some c):B'.take B.length=B:=by apply ND;grind
theorem aW1 {l n n' m0:Nat} {out:Nat->Nat} {M M':Mem} {B B':aP} {Z Zr Z':ASt} {t tr t':Array Value} {w w':World} (hI:Inv n M B out Z t w) (ho:1<=out l)
 (hr:Zr.h=Z.h) (hrs:∀ kp,kp∈Zr.s->kp.2.own=false) (hm:m0=Z.h.length)
 (hG:rG l n' (fun b=>out b+ik Z.s t b) m0 M B Zr tr w M' B' Z' t' w') (hb:AL m0 (Z'.h.take m0)=true) :
 rG l n out m0 M B Z t w M' B { Z with h:=Z'.h.take m0 } t w':=by
 have hB:m0=B.length:=by rw[hm]; exact hI.heap.1
 have hgc:=FH (m0:=m0) (l := []) hG.inv (fK _) (by simp_all);have hT:B'.take m0=B:=by rw[hB] at hG ⊢;exact bTJ hG.pre
 rw[hT] at hgc;have hle:dH M M' B B:=⟨hG.mem,fun _ _ h=>h⟩;have hfr:∀ b,fp B Zr tr w b=aT w Z.h B b:=fun b=>by grind [fp,aAJ]
 have hfg:∀ b,fp B (Z'.gc [] m0) t' w' b=aT w' (Z'.h.take m0) B b:=fun b=>by grind [fp,ASt.gc,aAJ]
 have hkeep:∀ b,1<=ik Z.s t b->w'.heap[b]? = w.heap[b]? /\ ∀ o,M' b o=M b o:=fun b h1=>by have h2:=hI.cnt b;simp only[fp] at h2;refine hG.blk b (Q8 hI (by simp only[fp]; omega)) (fun e=>by grind) ?_;rw[hfr]; omega
 refine ⟨⟨hI.size,hgc.inv.mem,hI.iC,fun k p hk => ?_,hgc.inv.heap,fun b => ?_,fun b hb => ?_⟩,hG.mem,fun _ _ _ h=>h,hG.os,hG.tape,hG.output,hG.size,fun b hb hl h0 => ?_,fun b hb => ?_⟩
 .obtain ⟨s1,s2,s3⟩:=hI.slots k p hk;refine ⟨s1,s2.mono hle,s3.kept fun b hb=>hkeep b ?_⟩;have e1:=EN (s:=Z.s) (t:=t) (k:=k) (b:=b);grind [pg]
 .have:=hgc.inv.cnt b;rw[hfg] at this;simp only[fp]; omega
 .have:=hgc.inv.new b hb;rw[hfg] at this;simp only[fp]; omega
 .simp only[fp] at h0;exact hG.blk b hb hl (by rw[hfr]; omega)
 .have h1:=hG.own b hb;have h2:=hgc.own b (Qy hb hG.size);rw[hfg] at h2;rw[hfr] at h1;simp only[fp]; omega
theorem bWH {E E':AE} (hP:E'.P=E.P) (hm:E.P.follows .mixedOrders=true) {c:Call} (hop:o.op = .call c) {f:Operand} (hf:c.callee = .value f) {n l:Nat} {out:Nat->Nat} {M:Mem} {B:aP} {Z:ASt} {a:Act} {w:World} 
 (hv:a.eval f = .func (.yield l) #[] #[])
 (hI:Inv E.n M B out Z a.tmps w) (ho:1<=out l) {r:Loop} (hr:w.heap[l]? = some (.loop r)) (hst:r.state = .ready) (ha:og r.assign=true) (hb:og r.body=true)
 (hsz:c.args.size=r.params.size) {sr:fP} (hs:jM sr)
 (hn:((r.params.zip (c.args.map a.eval)).foldl (fun tmps (t,a)=>tmps.setIfInBounds t a) r.tmps).size=E'.n)
 (hsl:∀ kp,kp∈sr->kp.1<E'.n/\Rep M B kp.2 (((r.params.zip (c.args.map a.eval)).foldl (fun tmps (t,a)=>tmps.setIfInBounds t a) r.tmps).getD kp.1 undef)/\kp.2.own=false)
 {Q:AX->ASt->Prop} (h:dS E' Z.h.length r.assign (DY (dS E' Z.h.length r.body Q) fun _ _=>False) ⟨sr,Z.h⟩)
 (a8F:∀ ax Z',Q ax Z'->AL Z.h.length (Z'.h.take Z.h.length)=true)
 {K:Act->World->Prop} {QQ:Exit->Act->World->Prop}
 (hK:∀ ax Z' M' w',Q ax Z'->rG l E.n out Z.h.length M B Z a.tmps w M' B { Z with h:=Z'.h.take Z.h.length } a.tmps w' ->
  w'.heap[l]? = some (.loop { r with state:=if ax.jump.isNone then .ready else .done,pending:=ax.jump })->K (a.put o.dst (.bool ax.jump.isNone)) w') :
 o.wpIn Fence.wide n E.P a w K QQ:=by
 refine ⟨fun _ _=>trivial,?_⟩;rw[show Fence.wide.round=none from rfl,Oper.semAt_none];have hrun:(execOp a.eval o).run E.P w = .ok (.round l r.fn ((r.params.zip (c.args.map a.eval)).foldl (fun tmps (t,a)=>tmps.setIfInBounds t a) r.tmps) r.assign r.body) w:=by obtain ⟨callee,YL,cts⟩:=c;simp only at hf;subst hf;grind [execOp,resolve,Deferred.ofValue,invoke,run_yield]
 rw[hrun,Oper.uponIn_round];refine ⟨fun h=>by simp[Fence.wide] at h,?_⟩;rw[<- hP];refine bRG (E:=E') (m0:=Z.h.length) (by rw[hP]; exact hm) ha hb (aO5 hI hn hs hsl) (by omega) hr hst h fun ax Z' M' B' t' w' hq hG hrec => ?_
 exact hK ax Z' M' w' hq (aW1 (Zr:=⟨sr,Z.h⟩) hI ho rfl (fun kp hk=>(hsl kp hk).2.2) rfl hG (a8F ax _ hq)) hrec
theorem bNK {P:Program} {n:Nat} {a:Act} {w:World} {K:Act->World->Prop} {Q:Exit->Act->World->Prop} (h:o.wp P a w K Q):o.wpIn Fence.wide n P a w K Q:=by
 refine ⟨fun _ _=>trivial,?_⟩;rw[show Fence.wide.round=none from rfl,Oper.semAt_none];unfold Oper.wp at h;generalize (execOp a.eval o).run P w=r at *;cases r with
 | ok x w' =>
  cases x<;>simp only[Oper.upon,Oper.uponIn] at h ⊢ <;>
   first
    | exact h
    | exact h.elim
    | exact ⟨fun h=>by simp[Fence.wide] at h,callsIn_wide.2 h⟩
    | exact ⟨fun h=>by simp[Fence.wide] at h,fun c cs _=>let ⟨v,w',r,s⟩:=h c cs; ⟨v,w',r,stepsIn_wide.2 s⟩⟩
 | halt x w'=>cases x<;>simp only[Oper.upon,Oper.uponIn] at h ⊢ <;> exact h
section
variable {E:AE} {out:Nat->Nat}
theorem Y4 {n:Nat} {ops:Array Oper} {Q:Exit->Act->World->Prop} {rest:List Oper}:∀ (l:List Oper) {M:Mem} {B:aP} {Z:ASt} {a:Act} {w:World} {K:ASt->Prop},Inv E.n M B out Z a.tmps w->lQ E ops l K Z ->
 (∀ Z' M' B' a' w',K Z'->Good E.n out M B Z a.tmps w M' B' Z' a'.tmps w'->a'.defers=a.defers->wpListIn Fence.wide n E.P ops Q rest a' w')->wpListIn Fence.wide n E.P ops Q (l ++ rest) a w
 | [],M,B,Z,a,w,K,hI,h,hQ=>hQ Z M B a w h (Good.refl hI) rfl
 | o::l,M,B,Z,a,w,K,hI,h,hQ=>by
  have run:xG E o (lQ E ops l K) Z->o.wpIn Fence.wide n E.P a w (wpListIn Fence.wide n E.P ops Q (l ++ rest)) Q:=fun h =>bNK (Y3 hI h fun v Z' M' B' w' hK hG=>Y4 l hG.inv hK fun Z2 M2 B2 a2 w2 hk hG2 hd=>hQ Z2 M2 B2 a2 w2 hk (hG.trans hG2) (by rw[hd,Act.Fp]))
  have skip:jE E o.dst (.tuple []) Z (lQ E ops l K)->wpListIn Fence.wide n E.P ops Q (l ++ rest) (a.put o.dst undef) w:=fun h=>by
   unfold jE at h;split at h
   .rename_i Z' hp;have hG:=a3H hI hp;exact Y4 l hG.inv h fun Z2 M2 B2 a2 w2 hk hG2 hd=>hQ Z2 M2 B2 a2 w2 hk (hG.trans hG2) (by rw[hd,Act.Fp])
   simp_all
  rw[lQ] at h;rw[lI];unfold wpListIn;split at h
  grind [Region.wanted]
  .rename_i j want hg;split at h
   .rename_i hv;rw[aV (by grind [Region.wanted,P6])];exact ⟨fun _ _=>trivial,skip h⟩
   .rename_i b hv;by_cases hb:b=want;grind [Region.wanted,P6]
    .rw[aV (by grind [Region.wanted,P6])];exact ⟨fun _ _=>trivial,skip (h.2 hb)⟩
   simp_all
end
open Classical in
def Q4 (ax:AX) (Zt:ASt):AX->ASt->R:=fun e Z=>if e=ax/\Z=Zt then some (.nilp,[]) else none
theorem Ii {X:XE} (hV:yf X.V) (hW:uT X.W) (hC:oN X.E.P X.C) (hL:IL X) {c:Code} {Z Zt:ASt} {ax:AX} (h:∀ K:AX->ASt->R,bH X c K Z=K ax Zt) :
 dS X.E X.m0 c (fun e Z'=>e=ax/\Z'=Zt) Z:=by
 have h1:bH X c (Q4 ax Zt) Z=some (.nilp,[]):=by rw[h]; simp[Q4]
 grind [wE,Q4]
theorem Xb {S:SE} (hm:S.P.follows .mixedOrders=true) (hS:S.OK) (h0:oN S.P S.C0) {E:AE} (hE:S.wp E=E) {m0:Nat}:IL (S.xe S.CC S.LL E m0):=fun l m x K Z v hv=>by obtain ⟨n,hn⟩:=(a9R (f:=fun n=>(S.bC n).2 E m0 l m x K (Z.gc l m)) fun n v hv=>(GI hS n).2 _ _ _ _ _ _ _ _ _ (fun _ _ _ h=>h) hv).1 hv;exact ⟨n,(aCQ hm hS h0 n).2 E m0 l m x K Z v hE hn⟩
def zl (rc:Loop) (j:AX):Loop := { rc with state:=if j.jump.isNone then .ready else .done,pending:=j.jump }
def PY (n l:Nat) (rc:Loop) (out:Nat->Nat) (m0:Nat) (M:Mem) (B:aP) (Z:ASt) (t:Array Value) (w:World) (ds:List Deferred) (Q:AX->ASt->AX->Prop) (e:Exit) (a':Act) (w':World):Prop :=∃ ax Z' j M' B',e=ax.toExit/\Q ax Z' j/\a'.defers=ds/\rG l n out m0 M B Z t w M' B' Z' a'.tmps w'/\w'.heap[l]? = some (.loop (zl rc j))
def Rl (sO:fP) (n' m0:Nat) (tm:Array Value) (M:Mem) (B:aP):Prop:=∀ kp,kp∈sO->kp.1<n'/\Rep M B kp.2 (tm.getD kp.1 undef)/\kp.2.own=false/\kp.2.blw m0=true
theorem Rl.mono {sO:fP} {n' m0:Nat} {tm:Array Value} {M:Mem} {B:aP} (h:Rl sO n' m0 tm M B) {M':Mem} {B':aP} (hm:∀ (b o:Nat) (v:Value),M b o=some v->M' b o=some v)
 (hp:∀ (i:Nat) (c:Nat×Nat×TypeId),i<m0->B[i]? = some c->B'[i]? = some c):Rl sO n' m0 tm M' B':=fun kp hk=>by
 obtain ⟨h1,h2,h3,h4⟩:=h kp hk;refine ⟨h1,(h2.blw h4).mono ⟨hm,fun i c hc => ?_⟩,h3,h4⟩;rw[mV] at hc;grind
structure YC where
 E:AE
 E':AE
 l:Nat
 m0:Nat
 rc:Loop
 out:Nat->Nat
 sO:fP
structure YC.OK (Y:YC):Prop where
 hm:Y.E.P.follows .mixedOrders=true
 hP:Y.E'.P=Y.E.P
 ho:1<=Y.out Y.l
def Tr (Y:YC) (c:Code) (Q:AX->ASt->AX->Prop) (j:AX) (Z:ASt):Prop :=
 ∀ (n:Nat) (M:Mem) (B:aP) (a:Act) (w:World),Inv Y.E.n M B Y.out Z a.tmps w->w.heap[Y.l]? = some (.loop (zl Y.rc j))->Rl Y.sO Y.E'.n Y.m0 Y.rc.tmps M B ->
  c.wpIn Fence.wide n Y.E.P (PY Y.E.n Y.l Y.rc Y.out Y.m0 M B Z a.tmps w a.defers Q) a w
def aVA (k:ASt->AX->Prop) (Q:AX->ASt->AX->Prop):AX->ASt->AX->Prop
 | .normal,Z,j=>k Z j
 | e,Z,j=>Q e Z j
def aG2 (id:Nat) (Q:AX->ASt->AX->Prop):AX->ASt->AX->Prop
 | .exit i,Z,j=>if i=id then Q .normal Z j else Q (.exit i) Z j
 | e,Z,j=>Q e Z j
theorem aQ3 {n l:Nat} {rc:Loop} {out:Nat->Nat} {m0:Nat} {M M1:Mem} {B B1:aP} {Z Z1:ASt} {t t1:Array Value} {w w1:World} {ds:List Deferred} {Q:AX->ASt->AX->Prop} (h:rG l n out m0 M B Z t w M1 B1 Z1 t1 w1) {e:Exit} {a':Act} {w':World}
 (k:PY n l rc out m0 M1 B1 Z1 t1 w1 ds Q e a' w'):PY n l rc out m0 M B Z t w ds Q e a' w':=by
 obtain ⟨ax,Z',j,M',B',h1,h2,h3,h4,h5⟩:=k;exact ⟨ax,Z',j,M',B',h1,h2,h3,h.trans h4,h5⟩
section
variable {Y:YC} {c:Code} {Q:AX->ASt->AX->Prop} {j:AX} {Z:ASt}
theorem Tr.mono {Q':AX->ASt->AX->Prop} (h:Tr Y c Q j Z) (hq:∀ e Z j,Q e Z j->Q' e Z j):Tr Y c Q' j Z:=fun n M B a w hI hr hO=>by
 refine ul (h n M B a w hI hr hO) fun e a' w' hl => ?_
 obtain ⟨ax,Z',j',M',B',h1,h2,h3,h4,h5⟩:=hl;exact ⟨ax,Z',j',M',B',h1,hq _ _ _ h2,h3,h4,h5⟩
theorem Tr.aAA (hY:Y.OK) {Q':AX->ASt->Prop} (h:dS Y.E Y.m0 c Q' Z) (hq:∀ e Z',Q' e Z'->Q e Z' j):Tr Y c Q j Z:=fun n M B a w hI hr hO=>by refine wpIn_wide.2 (vZ (xH (out:=Y.out) hY.hm c hI h) fun e a' w' hl => ?_);obtain ⟨ax,Z',M',B',rfl,hq',hd,hG⟩:=hl;exact ⟨ax,Z',j,M',B',rfl,hq _ _ hq',hd,hG.gl,Vd hI hY.ho hr hG⟩
theorem Tr.gc {l:List Nat} {m:Nat} (hm:Y.m0<=m) (hg:Dt l m Z=true) (h:Tr Y c Q j (Z.gc l m)):Tr Y c Q j Z:=fun n M B a w hI hr hO=>by have hG:=FH (m0:=Y.m0) hI hm hg;exact ul (h n M _ a w hG.inv hr (hO.mono hG.mem hG.pre)) fun e a' w' hl=>aQ3 hG.gl hl
theorem Tr.seq {x y:Code} (h:Tr Y x (aVA (fun Z' j'=>Tr Y y Q j' Z') Q) j Z):Tr Y (.seq x y) Q j Z:=fun n M B a w hI hr hO=>by
 refine NJ (ul (h n M B a w hI hr hO) fun e a' w' hl => ?_);obtain ⟨ax,Z',j',M',B',rfl,hq,hd,hG,hr'⟩:=hl;cases ax with
 | normal=>exact ul (hq n M' B' a' w' hG.inv hr' (hO.mono hG.mem hG.pre)) fun e a2 w2 hl2=>by rw[hd] at hl2; exact aQ3 hG hl2
 | ret=>exact ⟨.ret,Z',j',M',B',rfl,hq,hd,hG,hr'⟩
 | exit i=>exact ⟨.exit i,Z',j',M',B',rfl,hq,hd,hG,hr'⟩
theorem Tr.cond {o:Operand} {x y:Code} {b:Bool} (hb:Z.rd o=some (.bool b)) (h1:b=true->Tr Y x Q j Z) (h2:b=false->Tr Y y Q j Z):Tr Y (.cond o x y) Q j Z:=fun n M B a w hI hr hO =>wpIn_cond_split (kE.1 (hI.rd _ _ hb).1) (fun hb=>h1 hb n M B a w hI hr hO) (fun hb=>h2 hb n M B a w hI hr hO)
theorem Tr.block {id:Nat} {x:Code} (h:Tr Y x (aG2 id Q) j Z):Tr Y (.block id x) Q j Z:=fun n M B a w hI hr hO=>by
 refine wpIn_block (ul (h n M B a w hI hr hO) fun e a' w' hl => ?_);obtain ⟨ax,Z',j',M',B',rfl,hq,hd,hG,hr'⟩:=hl;cases ax with
 | normal=>exact ⟨.normal,Z',j',M',B',rfl,hq,hd,hG,hr'⟩
 | ret=>exact ⟨.ret,Z',j',M',B',rfl,hq,hd,hG,hr'⟩
 | exit i =>
  simp only[AX.toExit,Exit.inBlock];simp only[aG2] at hq;split
  .rename_i e; rw[aX e] at hq; exact ⟨.normal,Z',j',M',B',rfl,hq,hd,hG,hr'⟩
  .rename_i e; rw[aV e] at hq; exact ⟨.exit i,Z',j',M',B',rfl,hq,hd,hG,hr'⟩
theorem Tr.scope {x:Code} (h:Tr Y x Q j Z):Tr Y (.scope x) Q j Z:=fun n M B a w hI hr hO=>by refine wpIn_wide.2 (wp_scope_straight (vZ (wpIn_wide.1 (h n M B a w hI hr hO)) fun e a' w' hl => ?_));obtain ⟨ax,Z',j',M',B',rfl,hq,hd,hG,hr'⟩:=hl;cases ax<;>exact ⟨_,Z',j',M',B',rfl,hq,hd,hG,hr'⟩
theorem Tr.ret (h:Q .ret Z j):Tr Y .ret Q j Z:=fun n M B a w hI hr hO=>wpIn_ret ⟨.ret,Z,j,M,B,rfl,h,rfl,(cu.refl hI).gl,hr⟩
theorem Tr.exit {i:Nat} (h:Q (.exit i) Z j):Tr Y (.exit i) Q j Z:=fun n M B a w hI hr hO=>wpIn_exit ⟨.exit i,Z,j,M,B,rfl,h,rfl,(cu.refl hI).gl,hr⟩
theorem Tr.skip (h:Q .normal Z j):Tr Y .skip Q j Z:=fun n M B a w hI hr hO=>wpIn_skip ⟨.normal,Z,j,M,B,rfl,h,rfl,(cu.refl hI).gl,hr⟩
theorem Tr.label {i:Nat} (h:Q .normal Z j):Tr Y (.label i) Q j Z:=fun n M B a w hI hr hO=>wpIn_label ⟨.normal,Z,j,M,B,rfl,h,rfl,(cu.refl hI).gl,hr⟩
def Ru (Y:YC) (x:Code) (Q:AX->ASt->AX->Prop):Nat->AX->ASt->Prop
 | 0,_,_=>False
 | k+1,j,Z=>Tr Y x (aVA (fun Z' j'=>Ru Y x Q k j' Z') Q) j Z
theorem Tr.loop {x:Code} {k:Nat} (h:Ru Y x Q k j Z):Tr Y (.loop x) Q j Z:=fun n M B a w hI hr hO=>by
 refine wpIn_loop_rounds k ?_;have key:∀ (k:Nat) (j1:AX) (M1:Mem) (B1:aP) (Z1:ASt) (a1:Act) (w1:World),rG Y.l Y.E.n Y.out Y.m0 M B Z a.tmps w M1 B1 Z1 a1.tmps w1->w1.heap[Y.l]? = some (.loop (zl Y.rc j1))->a1.defers=a.defers->Ru Y x Q k j1 Z1 ->
  Code.roundsIn Fence.wide n Y.E.P x (PY Y.E.n Y.l Y.rc Y.out Y.m0 M B Z a.tmps w a.defers Q) k a1 w1:=by
  intro k;induction k with
  | zero=>intro j1 M1 B1 Z1 a1 w1 _ _ _ h; exact h.elim
  | succ k ih =>
   intro j1 M1 B1 Z1 a1 w1 hG hr1 hd h;rw[roundsIn_succ];refine ul (h n M1 B1 a1 w1 hG.inv hr1 (hO.mono hG.mem hG.pre)) fun e a' w' hl => ?_
   obtain ⟨ax,Z',j',M',B',rfl,hq,hd',hG',hr'⟩:=hl;have hG2:=hG.trans hG';cases ax with
   | normal=>exact ih j' M' B' Z' a' w' hG2 hr' (by rw[hd',hd]) hq
   | ret=>exact ⟨.ret,Z',j',M',B',rfl,hq,by rw[hd',hd],hG2,hr'⟩
   | exit i=>exact ⟨.exit i,Z',j',M',B',rfl,hq,by rw[hd',hd],hG2,hr'⟩
 exact key k j M B Z a w (cu.refl hI).gl hr rfl h
theorem rG.weak {l n:Nat} {out:Nat->Nat} {m0 m1:Nat} {M M1:Mem} {B B1:aP} {Z Z1:ASt} {t t1:Array Value} {w w1:World} (h:rG l n out m1 M B Z t w M1 B1 Z1 t1 w1) (hm:m0<=m1):rG l n out m0 M B Z t w M1 B1 Z1 t1 w1 :=⟨h.inv,h.mem,fun i c hi e=>h.pre i c (by omega) e,h.os,h.tape,h.output,h.size,h.blk,h.own⟩
theorem Tr.yield (hY:Y.OK) {id:Nat} {ops:Array Oper} {pre post:List Oper} (hops:ops.toList=pre ++ o::post) 
 {cl:Call} (hop:o.op = .call cl) (hg:o.guard=none) {f x y:Operand} (hf:cl.callee = .value f) (hargs:cl.args = #[x,y]) {p q:Nat} (hp:Y.rc.params = #[p,q]) (hpq:p<q) (hqn:q<Y.E'.n)
 (hpO:∀ kp,kp∈Y.sO->kp.1<p) (hsO:jM Y.sO) (hn:Y.rc.tmps.size=Y.E'.n) (ha:og Y.rc.assign=true) (hb:og Y.rc.body=true)
 (h:lQ Y.E ops pre (fun Z1=>∃ px py Q1,Z1.rd f=some (.func (.yield Y.l) [] [])/\Z1.rd x=some px/\Z1.rd y=some py/\Y.m0<=Z1.h.length /\
  dS Y.E' Z1.h.length Y.rc.assign (DY (dS Y.E' Z1.h.length Y.rc.body Q1) fun _ _=>False) ⟨Y.sO ++ [(p,px),(q,py)],Z1.h⟩ /\
  ∀ ax Z',Q1 ax Z'->AL Z1.h.length (Z'.h.take Z1.h.length)=true/\jE Y.E o.dst (.bool ax.jump.isNone) { Z1 with h:=Z'.h.take Z1.h.length } fun Z2=>lQ Y.E ops post (fun Z3=>Q .normal Z3 ax) Z2) (Z.head Y.E)) :
 Tr Y (.region id ops false) Q .normal Z:=fun n M B a w hI hr hO=>by
 have hk:=a0Q (E:=Y.E) hI;refine wpIn_region_list ?_;rw[hops];refine Y4 pre hk.inv h fun Z1 M1 B1 a1 w1 hh hG1 hd1 => ?_
 obtain ⟨px,py,Q1,hfv,hx,hy,hm0,hbody,hafter⟩:=hh;have a0P:cu Y.E.n Y.out Y.m0 M B Z a.tmps w M1 B1 Z1 a1.tmps w1:=(hk.trans hG1).c;have hr1:=Vd hI hY.ho hr a0P;have hO1:=hO.mono a0P.mem a0P.pre;unfold wpListIn;rw[aX (by simp[Region.wanted,hg])];have hev:a1.eval f = .func (.yield Y.l) #[] #[]:=by obtain ⟨f',c',e,h1,h2⟩:=zn.1 (hG1.inv.rd _ _ hfv).1;rw[dW] at h1 h2;rw[e]; congr 1<;>(grind)
 have hrx:=hG1.inv.rd _ _ hx;have hry:=hG1.inv.rd _ _ hy;have htm:((zl Y.rc .normal).params.zip (cl.args.map a1.eval)).foldl (fun tmps (t,a)=>tmps.setIfInBounds t a) (zl Y.rc .normal).tmps=(Y.rc.tmps.setIfInBounds p (a1.eval x)).setIfInBounds q (a1.eval y):=by show (Y.rc.params.zip (cl.args.map a1.eval)).foldl (fun tmps (t,a)=>tmps.setIfInBounds t a) Y.rc.tmps=_;rw[hp,hargs]; simp
 refine bWH (E':=Y.E') hY.hP hY.hm hop hf hev hG1.inv hY.ho hr1 rfl ha hb (by show cl.args.size=Y.rc.params.size; rw[hargs,hp]; rfl) (sr:=Y.sO ++ [(p,px),(q,py)]) ?_ ?_ (fun kp hk => ?_) (Q:=Q1) hbody (fun ax Z' hq=>(hafter ax Z' hq).1) fun ax Z' M' w' hq1 hGL hrec => ?_
 grind [jM]
 grind
 .rw[htm];rcases vX.1 hk with hk | hk
  .obtain ⟨h1,h2,h3,h4⟩:=hO1 kp hk;have:=hpO kp hk;grind [Ox]
  grind [Ox,UN]
 .obtain ⟨_,hput⟩:=hafter ax Z' hq1;unfold jE at hput;split at hput
  .rename_i Z2 hp2;have hPG:Good Y.E.n Y.out M' B1 { Z1 with h:=Z'.h.take Z1.h.length } a1.tmps w' M' B1 Z2 (a1.put o.dst (.bool ax.jump.isNone)).tmps w' :=(Pre.plain hGL.inv (kE.2 rfl) (fun b=>dP rfl _ _) (fJ rfl)).put hp2;have bIZ:w'.heap[Y.l]? = some (.loop (zl Y.rc ax)):=hrec;have:=Y4 (n:=n) (Q:=PY Y.E.n Y.l Y.rc Y.out Y.m0 M B Z a.tmps w a.defers Q) (rest := []) post hPG.inv hput fun Z3 M3 B3 a3 w3 hq3 hG3 hd3=>by have hGG:cu Y.E.n Y.out Y.m0 M' B1 { Z1 with h:=Z'.h.take Z1.h.length } a1.tmps w' M3 B3 Z3 a3.tmps w3:=(hPG.trans hG3).c;show PY Y.E.n Y.l Y.rc Y.out Y.m0 M B Z a.tmps w a.defers Q .normal a3 w3;exact ⟨.normal,Z3,ax,M3,B3,rfl,hq3,by rw[hd3,Act.Fp,hd1],(a0P.gl.trans (hGL.weak hm0)).trans hGG.gl,Vd hGL.inv hY.ho bIZ hGG⟩
   rwa [yl] at this
  simp_all
end
theorem bPY {P:Program} {n:Nat} {out:Nat->Nat} {M:Mem} {B:aP} {w:World} {Z0:ASt} {t0:Array Value} (hheap:qf M B w h) (hfp:∀ b,fp B Z0 t0 w b=aT w h B b) 
 {M':Mem} {B':aP} {Z':ASt} {a':Act} {w':World} (hG:cu n out h.length M B Z0 t0 w M' B' Z' a'.tmps w') {fn:Func} {r0:PV} {h':aG} (hret:Lh P fn.results.toList h.length r0 h' Z') (ro:List (List Nat×Bool)) :
 ∃ v,(results fn a'.tmps).run P w' = .ok v w'/\Post h B out M w (xJ ro r0) h' v M' (B'.take h'.length) w':=by
 obtain ⟨v,hrun,hrep,htl,hown⟩:=aTB hG.inv hret;obtain ⟨hm0,hht,hb1,hb2,_⟩:=hret;generalize hm':h'.length=m at *;subst hht;have hBl:B.length=h.length:=hheap.1.symm;have htake:=fun b=>aAG (w:=w') m b Z'.h B'
 have hfin:∀ b,aT w' (Z'.h.take m) (B'.take m) b+bT (xJ ro r0) v b<=fp B' Z' a'.tmps w' b:=fun b=>by have:=htake b; have:=hown b; have:=aHU (ro:=ro) (r:=r0) (v:=v) (b:=b); simp only[fp]; omega
 refine ⟨v,hrun,hG.inv.mem,⟨hG.mem,fun i c hc => ?_⟩,hG.fr.mono fun b hb h0=>by rw[hfp]; exact h0,⟨by simp[hG.inv.heap.1],fun i cs hi => ?_⟩,aHV (hrep.blw hb1),aHW (hrep.blw hb1) htl,fun b hb => ?_,fun b => ?_,fun b hb => ?_⟩
 .have hlt:=(iO.1 hc).1;rw[mV,aX (by omega)];exact hG.pre i c (by omega) hc
 .have hi0:=hi;rw[mV] at hi;split at hi
  .rename_i hlt;obtain ⟨c,hc,vs,ty,o1,o2,o3,o4,o5⟩:=hG.inv.heap.2 i cs hi;refine ⟨c,by rw[mV,aX hlt]; exact hc,vs,ty,o1,o2,o3,fun j p hj => ?_,o5⟩;obtain ⟨u,a1,a2,a3,a4⟩:=o4 j p hj;refine ⟨u,a1,a2.blw ?_,a3,a4⟩;have:=jF.1 hb2 _ (nZ hi0);exact YA.1 this p (nZ hj)
  .cases hi
 .have h1:=hG.own b hb; rw[hfp] at h1; grind
 .have h1:=hG.inv.cnt b; have:=hfin b; omega
 .have h1:=hG.inv.new b hb; have:=hfin b; omega
theorem aUR {n:Nat} {out:Nat->Nat} {M:Mem} {B:aP} {w:World} {vals:Array Value} (hlen:args.length<=n) (hmem:zf M w) (hheap:qf M B w h) (hcnt:∀ b,aT w h B b+out b<=1) (hnew:∀ b,w.heap.size<=b->aT w h B b+out b=0) 
 (hv:ay M B args vals.toList):Inv n M B out ⟨mO 0 args,h⟩ (vals ++ Array.replicate (n-vals.size) undef) w:=by
 have hvl:=oH hv;simp only[Array.length_toList] at hvl;have hfp:∀ t b,fp B ⟨mO 0 args,h⟩ t w b=aT w h B b:=fun t b=>by grind [fp,Vt]
 refine ⟨by simp; omega,hmem,aCU.1,fun k p hk => ?_,hheap,fun b=>by rw[hfp]; exact hcnt b,fun b hb=>by rw[hfp]; simp_all⟩;obtain ⟨i,q,rfl,hq,rfl⟩:=aCT hk;obtain ⟨v,hv1,hv2⟩:=vN hv hq;have hi:=(iO.1 hq).1;refine ⟨by omega,?_,fJ (qX _)⟩;have hvi:vals[i]? = some v:=by simp_all
 have:(vals ++ Array.replicate (n-vals.size) undef).getD (0+i) undef=v:=by rw[qK,aDV,a4B (by omega),hvi]; rfl
 rw[this]; exact ou.2 hv2
theorem aUI {B:aP} (t:Array Value) (w:World) (b:Nat):fp B ⟨mO 0 args,h⟩ t w b=aT w h B b:=by grind [fp,Vt]
def zI (w:World) (rc:Loop):World:=(w.alloc (.deferred (some []))).alloc (.loop rc)
def CO (out:Nat->Nat) (s:Nat) (b:Nat):Nat:=out b+(if b=s\/b=s+1 then 1 else 0)
section
variable {n:Nat} {out:Nat->Nat} {M:Mem} {B:aP} {Z:ASt} {t:Array Value} {w:World}
theorem a5Y (rc:Loop) {b:Nat} (hb:b<w.heap.size):(zI w rc).heap[b]? = w.heap[b]? := by grind [zI,Below.heap_alloc]
theorem YW (rc:Loop):(zI w rc).heap.size=w.heap.size+2:=by simp[zI]
theorem a'W (rc:Loop):(zI w rc).heap[w.heap.size+1]? = some (.loop rc):=by have:=World.alloc_heap_new (w.alloc (.deferred (some []))) (.loop rc);rwa [World.size_alloc] at this
theorem a'V (rc:Loop):(zI w rc).heap[w.heap.size]? = some (.deferred (some [])) :=(JE _ _ _ (by simp)).trans (World.alloc_heap_new w _)
theorem aH5 (hI:Inv n M B out Z t w) (rc:Loop):Inv n M B (CO out w.heap.size) Z t (zI w rc)/\∀ b,fp B Z t (zI w rc) b=fp B Z t w b:=by
 have hx:=hI.ext (M':=M) (w':=zI w rc) (dH.refl _ _) (fun b o v h=>by
  obtain ⟨h1,h2⟩:=hI.mem b o v h;have hb:=yx _ _ h1;grind [World.cell?_of_block,a5Y]) (fun b hb=>by
  have hl:b<w.heap.size:=Q8 hI (by omega);grind [a5Y]) (by rw[YW]; omega)
 refine ⟨⟨hx.1.size,hx.1.mem,hx.1.iC,hx.1.slots,hx.1.heap,fun b => ?_,fun b hb => ?_⟩,hx.2⟩
 .rw[hx.2];have h1:=hI.cnt b;unfold CO;split
  .rename_i h;have:=hI.new b (by omega);omega
  .omega
 .rw[hx.2];rw[YW] at hb;have:=hI.new b (by omega);grind [CO]
theorem aSR {l m0:Nat} (hI:Inv n M B out Z t w) (ho:1<=out l) {ds:Option (List Deferred)} (hr:w.heap[l]? = some (.deferred ds)) (o':Obj):rG l n out m0 M B Z t w M B Z t (w.putObj l o'):=by
 have h0:=TM hI ho;have hx:=hI.ext (M':=M) (w':=w.putObj l o') (dH.refl _ _) (fun b o v h=>by
  obtain ⟨h1,h2⟩:=hI.mem b o v h;grind [World.cell?,World.putObj_heap_other]) (fun b hb=>by
  grind [World.putObj_heap_other]) (by simp)
 exact ⟨hx.1,fun _ _ _ h=>h,fun _ _ _ h=>h,rfl,rfl,rfl,by simp,fun b _ hl _=>⟨World.putObj_heap_other hl,fun _=>rfl⟩,fun b _=>by rw[hx.2]; omega⟩
theorem aPY {m0:Nat} {rc:Loop} (hI:Inv n M B out Z t w) {M1:Mem} {B1:aP} {Z1:ASt} {t1:Array Value} {w1:World} (hG1:rG (w.heap.size+1) n (CO out w.heap.size) m0 M B Z t (zI w rc) M1 B1 Z1 t1 w1)
 {M':Mem} {B':aP} {Z':ASt} {t':Array Value} {w':World} (hG2:rG w.heap.size n (CO out w.heap.size) m0 M1 B1 Z1 t1 w1 M' B' Z' t' w'):cu n out m0 M B Z t w M' B' Z' t' w':=by
 have he:=(aH5 hI rc).2;have hs:=YW (w:=w) rc;have hle:∀ b,out b<=CO out w.heap.size b:=fun b=>by unfold CO; omega
 have hs1:=hG1.size;have hs2:=hG2.size;refine ⟨⟨hG2.inv.size,hG2.inv.mem,hG2.inv.iC,hG2.inv.slots,hG2.inv.heap,fun b => ?_,fun b hb => ?_⟩,fun b o v h=>hG2.mem b o v (hG1.mem b o v h),fun i c hi h=>hG2.pre i c hi (hG1.pre i c hi h),⟨hG2.os.trans hG1.os,hG2.tape.trans hG1.tape,hG2.output.trans hG1.output,by omega,fun b hb h0 => ?_⟩,fun b hb => ?_⟩
 .have:=hG2.inv.cnt b; have:=hle b; omega
 .have:=hG2.inv.new b hb; have:=hle b; omega
 .have h1:=hG1.blk b (by omega) (by omega) (by rw[he]; exact h0);have h2:=hG1.own b (by omega);rw[he,h0] at h2;have h3:=hG2.blk b (by omega) (by omega) (by omega);rw[a5Y rc hb] at h1;simp_all
 .have h1:=hG1.own b (by omega);have h2:=hG2.own b (by omega);rw[he] at h1; omega
theorem aXR {a b:Value} {r:Array Value}:(#[a,b] ++ r).getD 0 undef=a:=by rw[aDV,a4B (by simp)]; rfl
theorem aXS {a b:Value} {r:Array Value}:(#[a,b] ++ r).getD 1 undef=b:=by rw[aDV,a4B (by simp)]; rfl
end
inductive Sh where
 | I (k:IntKind)
 | B
 | S
 | L (o:Bool) (z:Nat)
 | Y
 | P
 | H (i j z:Nat)
 | M
 | C
 | pt (i j:Nat)
 | bd (t i:Nat)
 | rf
 | ni
 | fn (n:Nat)
@[reducible] def Sh.V : List Sh -> Type
 | []=>Unit
 | .I _::l=>Int×Sh.V l
 | .B::l=>Bool×Sh.V l
 | .S::l=>ByteArray×Sh.V l
 | .L _ _::l=>bZZ×Sh.V l
 | .Y::l=>bZ'×Sh.V l
 | .P::l=>PV×Sh.V l
 | .H _ _ _::l=>Nat×Sh.V l
 | .M::l=>bZZ×Sh.V l
 | .C::l=>bZZ×Sh.V l
 | .pt _ _::l=>Sh.V l
 | .bd _ _::l=>Sh.V l
 | .rf::l=>Sh.V l
 | .ni::l=>Sh.V l
 | .fn _::l=>Sh.V l
def mkS:(sh:List Sh)->Sh.V sh->bZZ
 | [],_ => []
 | .I κ::l,v => .int κ v.1::mkS l v.2
 | .B::l,v => .bool v.1::mkS l v.2
 | .S::l,v => .str v.1::mkS l v.2
 | .L o z::l,v => .sl o z v.1::mkS l v.2
 | .Y::l,v => .dC v.1::mkS l v.2
 | .P::l,v=>v.1::mkS l v.2
 | .H i j z::l,v => .slh i j v.1 z::mkS l v.2
 | .M::l,v => .mp v.1::mkS l v.2
 | .C::l,v => .func (.yield 4242) v.1 []::mkS l v.2
 | .pt i j::l,v => .ptr i j::mkS l v
 | .bd t i::l,v => .dA t i::mkS l v
 | .rf::l,v => .raw .nilFunc::mkS l v
 | .ni::l,v => .raw .nilIface::mkS l v
 | .fn n::l,v => .func (.func n) [] []::mkS l v
def kD:(sh:List Sh)->bZZ->Option (Sh.V sh)
 | [],ps=>(match ps with | []=>some () | _::_=>none)
 | .I κ::sh,ps=>(match ps with | .int κ' n::ps=>(match decide (κ'=κ) with | true=>(kD sh ps).map fun v=>(n,v) | false=>none) | _=>none)
 | .B::sh,ps=>(match ps with | .bool n::ps=>(kD sh ps).map fun v=>(n,v) | _=>none)
 | .S::sh,ps=>(match ps with | .str n::ps=>(kD sh ps).map fun v=>(n,v) | _=>none)
 | .L o z::sh,ps=>(match ps with | .sl o' z' n::ps=>(match o'==o&&Nat.beq z' z with | true=>(kD sh ps).map fun v=>(n,v) | false=>none) | _=>none)
 | .Y::sh,ps=>(match ps with | .dC n::ps=>(kD sh ps).map fun v=>(n,v) | _=>none)
 | .P::sh,ps=>(match ps with | n::ps=>(kD sh ps).map fun v=>(n,v) | _=>none)
 | .H i j z::sh,ps=>(match ps with | .slh i' j' n z'::ps=>(match Nat.beq i' i&&Nat.beq j' j&&Nat.beq z' z with | true=>(kD sh ps).map fun v=>(n,v) | false=>none) | _=>none)
 | .M::sh,ps=>(match ps with | .mp n::ps=>(kD sh ps).map fun v=>(n,v) | _=>none)
 | .C::sh,ps=>(match ps with | .func (.yield m) n []::ps=>(match Nat.beq m 4242 with | true=>(kD sh ps).map fun v=>(n,v) | false=>none) | _=>none)
 | .pt i j::sh,ps=>(match ps with | .ptr i' j'::ps=>(match Nat.beq i' i&&Nat.beq j' j with | true=>kD sh ps | false=>none) | _=>none)
 | .bd i j::sh,ps=>(match ps with | .dA i' j'::ps=>(match Nat.beq i' i&&Nat.beq j' j with | true=>kD sh ps | false=>none) | _=>none)
 | .rf::sh,ps=>(match ps with | .raw .nilFunc::ps=>kD sh ps | _=>none)
 | .ni::sh,ps=>(match ps with | .raw .nilIface::ps=>kD sh ps | _=>none)
 | .fn m::sh,ps=>(match ps with | .func (.func n) [] []::ps=>(match Nat.beq n m with | true=>kD sh ps | false=>none) | _=>none)
theorem Kz {α β:Type} {o:Option β} {n:α} {v:α×β} (h:(o.map fun v=>(n,v))=some v):n=v.1/\o=some v.2:=by
 cases o with
 | none=>cases h
 | some w=>grind
theorem xZ:∀ (sh:List Sh) (ps:bZZ) (v:Sh.V sh),kD sh ps=some v->mkS sh v=ps
 | [],ps,v,h=>by
  unfold kD at h; split at h
  .rfl
  .cases h
 | .I κ::sh,ps,v,h=>by
  unfold kD at h; split at h
  .split at h
   .rename_i hk; have hk:=NI hk; subst hk;obtain ⟨e1,e2⟩:=Kz h; unfold mkS; rw[xZ sh _ _ e2,e1]
   .cases h
  .cases h
 | .B::sh,ps,v,h | .S::sh,ps,v,h | .Y::sh,ps,v,h | .P::sh,ps,v,h | .M::sh,ps,v,h=>by
  unfold kD at h; split at h
  .obtain ⟨e1,e2⟩:=Kz h; unfold mkS; rw[xZ sh _ _ e2,e1]
  .cases h
 | .L o z::sh,ps,v,h=>by
  unfold kD at h; split at h
  .split at h
   .rename_i hk; simp only[bI,uH,JM] at hk; obtain ⟨rfl,rfl⟩:=hk;obtain ⟨e1,e2⟩:=Kz h; unfold mkS; rw[xZ sh _ _ e2,e1]
   .cases h
  .cases h
 | .H i j z::sh,ps,v,h=>by
  unfold kD at h; split at h
  .split at h
   .rename_i hk; simp only[bI,JM] at hk; obtain ⟨⟨rfl,rfl⟩,rfl⟩:=hk;obtain ⟨e1,e2⟩:=Kz h; unfold mkS; rw[xZ sh _ _ e2,e1]
   .cases h
  .cases h
 | .C::sh,ps,v,h=>by
  unfold kD at h; split at h
  .split at h
   .rename_i hk; simp only[JM] at hk; subst hk;obtain ⟨e1,e2⟩:=Kz h; unfold mkS; rw[xZ sh _ _ e2,e1]
   .cases h
  .cases h
 | .pt i j::sh,ps,v,h | .bd i j::sh,ps,v,h=>by
  unfold kD at h; split at h
  .split at h
   .rename_i hk; simp only[bI,JM] at hk; obtain ⟨rfl,rfl⟩:=hk;unfold mkS; rw[xZ sh _ _ h]
   .cases h
  .cases h
 | .rf::sh,ps,v,h | .ni::sh,ps,v,h=>by
  unfold kD at h; split at h
  .unfold mkS; rw[xZ sh _ _ h]
  .cases h
 | .fn m::sh,ps,v,h=>by
  unfold kD at h; split at h
  .split at h
   .rename_i hk; simp only[JM] at hk; subst hk;unfold mkS; rw[xZ sh _ _ h]
   .cases h
  .cases h
def zS:List Sh->bZZ
 | [] => []
 | .pt i j::l => .ptr i j::zS l
 | .bd t i::l => .dA t i::zS l
 | .rf::l => .raw .nilFunc::zS l
 | .ni::l => .raw .nilIface::zS l
 | .fn n::l => .func (.func n) [] []::zS l
 | _::l => .nilp::zS l
def Gi:List Sh->Bool
 | []=>true
 | .pt _ _::l | .bd _ _::l | .rf::l | .ni::l | .fn _::l=>Gi l
 | _::_=>false
theorem N7:∀ (l:List Sh) (v:Sh.V l),Gi l=true->mkS l v=zS l
 | [],_,_=>rfl
 | .pt i j::l,v,h=>congrArg (_ :: ·) (N7 l v h)
 | .bd i j::l,v,h=>congrArg (_ :: ·) (N7 l v h)
 | .rf::l,v,h=>congrArg (_ :: ·) (N7 l v h)
 | .ni::l,v,h=>congrArg (_ :: ·) (N7 l v h)
 | .fn n::l,v,h=>congrArg (_ :: ·) (N7 l v h)
 | .I _::_,_,h | .B::_,_,h | .S::_,_,h | .L _ _::_,_,h | .Y::_,_,h | .P::_,_,h | .H _ _ _::_,_,h | .M::_,_,h | .C::_,_,h=>by cases h
@[reducible] def TV : List (Bool × List Sh) -> Type
 | []=>Unit
 | b::l=>Sh.V b.2×TV l
def IQ:(sh:List (Bool×List Sh))->TV sh->bZZ
 | [],_ => []
 | b::l,v=>bif b.1 then .agg (mkS b.2 v.1)::IQ l v.2 else (mkS b.2 v.1).headD .nilp::IQ l v.2
def rdT:(sh:List (Bool×List Sh))->bZZ->Option (TV sh)
 | [],ps=>(match ps with | []=>some () | _::_=>none)
 | (true,l)::sh,ps=>(match ps with | .agg cs::ps=>(match kD l cs with | some v=>(rdT sh ps).map fun w=>(v,w) | none=>none) | _=>none)
 | (false,l)::sh,ps=>(match ps with | p::ps=>(match kD l [p] with | some v=>(rdT sh ps).map fun w=>(v,w) | none=>none) | _=>none)
theorem aBW:∀ (sh:List (Bool×List Sh)) (ps:bZZ) (v:TV sh),rdT sh ps=some v->IQ sh v=ps
 | [],ps,v,h=>by
  unfold rdT at h; split at h
  .rfl
  .cases h
 | (true,l)::sh,ps,v,h=>by
  unfold rdT at h; split at h
  .split at h
   .rename_i e;obtain ⟨e1,e2⟩:=Kz h; unfold IQ; rw[aBW sh _ _ e2,<- e1,xZ _ _ _ e]; rfl
   .cases h
  .cases h
 | (false,l)::sh,ps,v,h=>by
  unfold rdT at h; split at h
  .split at h
   .rename_i e;obtain ⟨e1,e2⟩:=Kz h; unfold IQ; rw[aBW sh _ _ e2,<- e1,xZ _ _ _ e]; rfl
   .cases h
  .cases h
inductive RS where
 | ti (k:IntKind)
 | tb
 | ts
 | tl (o:Bool) (z:Nat)
 | tp
 | z (c:Sh)
 | o (c:Sh)
 | g (l:List Sh)
 | t (l:List (Bool×List Sh))
@[reducible] def RS.F : RS -> Type -> Type
 | .ti _,T=>Int->T
 | .tb,T=>Bool->T
 | .ts,T=>ByteArray->T
 | .tl _ _,T=>bZZ->T
 | .tp,T=>PV->T
 | .z _,T=>T
 | .o c,T=>Sh.V [c]->T
 | .g l,T=>Sh.V l->T
 | .t l,T=>TV l->T
def Dw (sh:List Sh) (p:PV) {T:Type} (K:Sh.V sh->Option T):Option T:=match p with | .agg cs=>(match kD sh cs with | some v=>K v | none=>none) | _=>none
def tvV (sh:List (Bool×List Sh)) (p:PV) {T:Type} (K:TV sh->Option T):Option T:=match p with | .tuple cs=>(match rdT sh cs with | some v=>K v | none=>none) | _=>none
def oV (s:Sh) (p:PV) {T:Type} (K:Sh.V [s]->Option T):Option T:=match kD [s] [p] with | some v=>K v | none=>none
def QK:(rs:RS)->PV->RS.F rs R->R
 | .ti k,p,K=>vI k p K
 | .tb,p,K=>vB p K
 | .ts,p,K=>vS p K
 | .tl o z,p,K=>vL o z p K
 | .tp,p,K=>K p
 | .z c,p,K=>aA (Gi [c]) (oV c p fun _=>K) none
 | .o c,p,K=>oV c p K
 | .g l,p,K=>Dw l p K
 | .t l,p,K=>tvV l p K
def QD:(rs:RS) -> {T:Type}->(PV->T)->RS.F rs T
 | .ti k,_,K=>fun n=>K (.int k n)
 | .tb,_,K=>fun n=>K (.bool n)
 | .ts,_,K=>fun n=>K (.str n)
 | .tl o z,_,K=>fun n=>K (.sl o z n)
 | .tp,_,K=>fun p=>K p
 | .z c,_,K=>K ((zS [c]).headD .nilp)
 | .o c,_,K=>fun v=>K ((mkS [c] v).headD .nilp)
 | .g l,_,K=>fun v=>K (.agg (mkS l v))
 | .t l,_,K=>fun v=>K (.tuple (IQ l v))
theorem bN9 (s:Sh) (p:PV):(∀ K:PV->R,oV s p (fun v=>K ((mkS [s] v).headD .nilp))=K p)\/(∀ K:Sh.V [s]->R,oV s p K=none):=by grind [oV,xZ]
theorem bIE (l:List Sh) (p:PV):(∀ K:PV->R,Dw l p (fun v=>K (.agg (mkS l v)))=K p)\/(∀ K:PV->R,Dw l p (fun v=>K (.agg (mkS l v)))=none):=by unfold Dw;grind [xZ]
theorem bU2 (l:List (Bool×List Sh)) (p:PV):(∀ K:PV->R,tvV l p (fun v=>K (.tuple (IQ l v)))=K p)\/(∀ K:PV->R,tvV l p (fun v=>K (.tuple (IQ l v)))=none):=by unfold tvV;grind [aBW]
theorem aTI (rs:RS) (p:PV):(∀ K:PV->R,QK rs p (QD rs K)=K p)\/(∀ K:PV->R,QK rs p (QD rs K)=none):=by
 cases rs with
 | ti k=>exact sH k p
 | tb=>exact J8 p
 | ts=>exact Wl p
 | tl o z=>exact Aq o z p
 | tp=>exact .inl fun _=>rfl
 | z s =>
  cases hz:Gi [s] with
  | false=>exact .inr fun K=>by show aA (Gi [s]) _ _=_; rw[hz,aC]
  | true =>
   cases h:kD [s] [p] with
   | none=>exact .inr fun K=>by show aA (Gi [s]) (oV s p _) _=_; rw[hz,aI]; unfold oV; rw[h]
   | some v =>have h1:=xZ _ _ _ h;have h2:=N7 [s] v hz;exact .inl fun K=>by show aA (Gi [s]) (oV s p fun _=>K ((zS [s]).headD .nilp)) _=_;rw[hz,aI,<- h2,h1]; unfold oV; rw[h]; rfl
 | o s =>
  rcases bN9 s p with e | e
  .exact .inl e
  .exact .inr fun K=>e _
 | g l=>exact bIE l p
 | t l=>exact bU2 l p
inductive OS where
 | c (l:List Sh)
 | z (l:List Sh)
 | a
@[reducible] def dm : List OS -> Type
 | []=>R
 | .c l::os=>Sh.V l->dm os
 | .z _::os=>dm os
 | .a::os=>bZZ->dm os
def tX:(os:List OS)->aG->dm os->R
 | [],h,f=>(match h with | []=>f | _::_=>none)
 | .c l::os,h,f=>(match h with | some cs::h=>(match kD l cs with | some v=>tX os h (f v) | none=>none) | _=>none)
 | .z l::os,h,f=>(match h with | some cs::h=>(match kD l cs with | some _=>tX os h f | none=>none) | _=>none)
 | .a::os,h,f=>(match h with | some cs::h=>tX os h (f cs) | _=>none)
def Ih:(os:List OS)->(aG->R)->dm os
 | [],K=>K []
 | .c l::os,K=>fun v=>Ih os fun h=>K (some (mkS l v)::h)
 | .z l::os,K=>Ih os fun h=>aA (Gi l) (K (some (zS l)::h)) none
 | .a::os,K=>fun cs=>Ih os fun h=>K (some cs::h)
theorem a2C:∀ (os:List OS) (h:aG),(∀ K:aG->R,tX os h (Ih os K)=K h)\/(∀ K:aG->R,tX os h (Ih os K)=none)
 | [],[] => .inl fun _=>rfl
 | [],_::_ => .inr fun _=>rfl
 | .c l::os,h=>by
  unfold tX;split
  .rename_i cs h;cases e:kD l cs with
   | none=>simp
   | some v =>
    have:=xZ _ _ _ e;subst this;rcases a2C os h with e2 | e2
    .exact .inl fun K=>e2 _
    .exact .inr fun K=>e2 _
  simp
 | .z l::os,h=>by
  unfold tX;split
  .rename_i cs h;cases e:kD l cs with
   | none=>simp
   | some v =>
    have:=xZ _ _ _ e;subst this;rcases a2C os h with e2 | e2
    .cases hz:Gi l with
     | true =>
      refine .inl fun K=>(e2 _).trans ?_
      grind [aI,N7]
     | false =>
      refine .inr fun K=>(e2 _).trans ?_
      simp_all
    .exact .inr fun K=>e2 _
  simp
 | .a::os,h=>by
  unfold tX;split
  .rename_i cs h;rcases a2C os h with e2 | e2
   .exact .inl fun K=>e2 _
   .exact .inr fun K=>e2 _
  simp
def hvK:(rs:RS)->(os:List OS)->aG->RS.F rs (dm os)->RS.F rs R
 | .ti _,os,h,K=>fun n=>tX os h (K n)
 | .tb,os,h,K=>fun n=>tX os h (K n)
 | .ts,os,h,K=>fun n=>tX os h (K n)
 | .tl _ _,os,h,K=>fun n=>tX os h (K n)
 | .tp,os,h,K=>fun n=>tX os h (K n)
 | .z _,os,h,K=>tX os h K
 | .o _,os,h,K=>fun n=>tX os h (K n)
 | .g _,os,h,K=>fun n=>tX os h (K n)
 | .t _,os,h,K=>fun n=>tX os h (K n)
def hv (rs:RS) (os:List OS) (p:PV) (h:aG) (K:RS.F rs (dm os)):R:=QK rs p (hvK rs os h K)
def pack (rs:RS) (os:List OS) (K:PV->aG->R):RS.F rs (dm os):=QD rs fun p=>Ih os (K p)
theorem bJ3 (rs:RS) (os:List OS) (h:aG) (K:PV->aG->R):hvK rs os h (pack rs os K)=QD rs fun p=>tX os h (Ih os (K p)):=by cases rs<;>rfl
theorem bJ4 (rs:RS) (os:List OS) (p:PV) (h:aG):(∀ K:PV->aG->R,hv rs os p h (pack rs os K)=K p h)\/(∀ K:PV->aG->R,hv rs os p h (pack rs os K)=none):=by
 have hh:∀ K:PV->aG->R,hv rs os p h (pack rs os K)=QK rs p (QD rs fun p=>tX os h (Ih os (K p))):=fun K=>by unfold hv; rw[bJ3]
 rcases aTI rs p with e | e
 .rcases a2C os h with e2 | e2
  simp_all;simp_all
 simp_all
abbrev aj (sh:List Sh) (l:bZZ) (n:Int) (K:Sh.V sh->R):R:=bz l n fun e=>Dw sh e K
def shC:List Sh->bZZ->Bool
 | [],ps=>ps.isEmpty
 | s::sh,ps=>(match ps with
  | []=>false
  | p::ps=>(match s,p with
   | .I κ,.int κ' _=>decide (κ'=κ)
   | .B,.bool _=>true
   | .S,.str _=>true
   | .L o z,.sl o' z' _=>o'==o&&Nat.beq z' z
   | .Y,.dC _=>true
   | .P,_=>true
   | .H i j z,.slh i' j' _ z'=>Nat.beq i' i&&Nat.beq j' j&&Nat.beq z' z
   | .M,.mp _=>true
   | .C,.func (.yield n) _ []=>Nat.beq n 4242
   | .pt i j,.ptr i' j'=>Nat.beq i' i&&Nat.beq j' j
   | .bd t i,.dA t' i'=>Nat.beq t' t&&Nat.beq i' i
   | .rf,.raw .nilFunc=>true
   | .ni,.raw .nilIface=>true
   | .fn m,.func (.func n) [] []=>Nat.beq n m
   | _,_=>false)&&shC sh ps)
def shO:List OS->aG->Bool
 | [],h=>h.isEmpty
 | .c l::os,h=>(match h with | some cs::h=>shC l cs&&shO os h | _=>false)
 | .z l::os,h=>(match h with | some cs::h=>shC l cs&&shO os h | _=>false)
 | .a::os,h=>(match h with | some _::h=>shO os h | _=>false)
def tl {α:Type} (g k:Nat) (a b:α):α:=bif Nat.blt g k then a else b
def te {α:Type} (g k:Nat) (a b:α):α:=bif Nat.beq g k then a else b
def VVt (t:TypeId->Option RS) (i:TypeId) (p:PV) (K:PV->R):R:=match t i with | some rs=>QK rs p (QD rs K) | none=>K p
theorem aXB (t:TypeId->Option RS):yf (VVt t):=fun i p=>by
 unfold VVt;cases t i with
 | none=>simp
 | some rs=>exact aTI rs p
abbrev kS:=List OS×RS×List OS
def Xn:List kS->aG->PV->aG->(PV->aG->R)->R
 | [],_,r,h,K=>K r h
 | w::l,h0,r,h,K=>aA (shO w.1 h0) (hv w.2.1 w.2.2 r h (pack w.2.1 w.2.2 K)) (Xn l h0 r h K)
theorem aF8:∀ (l:List kS) (h0:aG) (r:PV) (h:aG),(∀ K:PV->aG->R,Xn l h0 r h K=K r h)\/(∀ K:PV->aG->R,Xn l h0 r h K=none)
 | [],_,_,_ => .inl fun _=>rfl
 | w::l,h0,r,h=>tY (bJ4 w.2.1 w.2.2 r h) (aF8 l h0 r h)
def WWt (t:FuncId->List kS) (g:FuncId):aG->PV->aG->(PV->aG->R)->R:=Xn (t g)
theorem aXG (t:FuncId->List kS):uT (WWt t):=fun g h r h'=>aF8 (t g) h r h'
theorem CCk {S:SE} (hS:S.OK) {g:FuncId} {v:R} (h0:S.C0 g args h=none) (e:S.run S.CC S.LL g args h=v):S.CC g args h=v:=(uI hS h0).trans e
theorem LLk {S:SE} (hS:S.OK) {E:AE} {m0:Nat} {l:List Nat} {m:Nat} {x:Code} {K:AX->ASt->R} {Z:ASt} {v:R} (hm:m0<=m) (hg:Du l m Z=true) (hP:S.wp E=E)
 (e:chk (Ff l m Z) (bH (S.xe S.CC S.LL E m0) x (wU (fun Z'=>S.LL E m0 l m x K (Z'.gc l m)) K) (Z.gc l m))=v):S.LL E m0 l m x K Z=v:=(DI hS hm hg hP).trans e
abbrev KT:=AX->ASt->R
def aSQ:Nat->Nat->List Bool
 | 0,_ => []
 | k+1,n=>match Nat.ble n 1 with | true => [] | false=>Nat.beq (n % 2) 1::aSQ k (n / 2)
def cS (f:Func) (p:Nat):Code:=Code.sub (aSQ 99 p) (qh f)
def SE.xX (S:SE) (f n m:Nat):XE:=S.xe S.CC S.LL (S.ae f n) m
def SE.rK (S:SE) (f:Func) (g m:Nat) (fl:List Nat):KT:=G5 S.P f.results.toList (S.iL g).ro m fl
def SE.jK (S:SE) (f n m:Nat) (c:Code) (K:KT):KT:=wU (wH (S.ae f n) m c (bH (S.xX f n m) c K)) K
def SE.lK (S:SE) (f n m:Nat) (l:List Nat) (k:Nat) (c:Code) (K:KT):KT:=wU (fun Z=>S.LL (S.ae f n) m l k c K (Z.gc l k)) K
def Rx:Nat->R->R
 | 0,a=>a
 | n+1,a=>dD a (Rx n a)
theorem aFL:∀ (n:Nat) (a:R),Rx n a=a
 | 0,_=>rfl
 | n+1,a=>by rw[Rx,aFL n,DL]
def nN (F:(Nat->R->R)->R):R:=F fun _ a=>a
theorem zF {v:R} {F:(Nat->R->R)->R} (h:v=F Rx):v=nN F:=by rw[show Rx=fun _ a=>a from funext fun n=>funext fun a=>aFL n a] at h;exact h
section
variable {S:SE}
def SE.V6 (S:SE) (T:Cal):Nat->xy
 | 0=>fun _ _ _ _ _ _ _=>none
 | n+1=>S.turn T (S.V6 T n)
def SE.stepT (S:SE) (T:Cal) (n:Nat) (g:FuncId) (args:bZZ) (h:aG):R:=Fb (S.C0 g args h) (S.run T (S.V6 T n) g args h)
def YJ (T C:Cal):Prop:=∀ g args h v,T g args h=some v->C g args h=some v
theorem aQH (hS:S.OK) {T:Cal} (hT:YJ T S.CC):∀ (n:Nat) (E:AE) (m0:Nat) (l:List Nat) (m:Nat) (x:Code) (K K':AX->ASt->R) (Z:ASt) (v:PV×aG),(∀ e Z v,K e Z=some v->K' e Z=some v)->S.V6 T n E m0 l m x K Z=some v->S.LL E m0 l m x K' Z=some v
 | 0,_,_,_,_,_,_,_,_,_,_,h=>by cases h
 | n+1,E,m0,l,m,x,K,K',Z,v,hK,hv=>by
  have hC:∀ g args h,D8 fun i=>(bif i then S.CC else T) g args h:=fun g args h v hv=>hT g args h v hv
  have hL:∀ (E:AE) (m0:Nat) (l:List Nat) (m:Nat) (x:Code) (K:Bool->AX->ASt->R) (Z:ASt),(∀ e Z,D8 fun i=>K i e Z)->D8 fun i=>(bif i then S.LL else S.V6 T n) E m0 l m x (K i) Z :=fun E m0 l m x K Z hK v hv=>aQH hS hT n E m0 l m x _ _ Z v (fun e Z v h=>hK e Z v h) hv
  rw[aF4 hS];exact a0O Ju hS hC hL (K:=fun i=>bif i then K' else K) (fun e Z v h=>hK e Z v h) v hv
theorem aW8 (hS:S.OK) {T:Cal} (hT:YJ T S.CC) (n:Nat) {g:FuncId} {v:PV×aG} (e:S.stepT T n g args h=some v):S.CC g args h=some v:=by
 have hC:∀ g args h,D8 fun i=>(bif i then S.CC else T) g args h:=fun g args h v hv=>hT g args h v hv
 have hL:∀ (E:AE) (m0:Nat) (l:List Nat) (m:Nat) (x:Code) (K:Bool->AX->ASt->R) (Z:ASt),(∀ e Z,D8 fun i=>K i e Z)->D8 fun i=>(bif i then S.LL else S.V6 T n) E m0 l m x (K i) Z :=fun E m0 l m x K Z hK v hv=>aQH hS hT n E m0 l m x _ _ Z v (fun e Z v h=>hK e Z v h) hv
 rw[JU hS];exact a7' Ju (a81 Ju hS hC hL) v e
structure Ans where
 g:FuncId
 args:bZZ
 h:aG
 v:PV×aG
def a3Q:List Ans->Cal
 | [],_,_,_=>none
 | a::l,g,args,h=>(match Nat.beq a.g g&&(PV.zK a.args args&&Di a.h h) with | true=>some a.v | false=>a3Q l g args h)
theorem aV9:∀ {l:List Ans},(∀ a,a∈l->C a.g a.args a.h=some a.v)->YJ (a3Q l) C
 | [],_,_,_,_,_,h=>by cases h
 | a::l,hl,g,args,h,v,hv=>by
  unfold a3Q at hv;split at hv
  grind [Nat.eq_of_beq_eq_true,PV.Dh,Yc]
  .exact aV9 (fun b hb=>hl b (List.mem_cons_of_mem _ hb)) g args h v hv
theorem gG:∀ a,a∈([]:List Ans)->C a.g a.args a.h=some a.v:=fun _ h=>by cases h
theorem aXQ {a:Ans} {l:List Ans} (h:C a.g a.args a.h=some a.v) (hl:∀ a,a∈l->C a.g a.args a.h=some a.v):∀ b,b∈a::l->C b.g b.args b.h=some b.v:=fun b hb=>by grind
def SE.memo (S:SE) (l:List Ans) (n:Nat):Cal:=fun g args h=>match a3Q l g args h with
 | some v=>some v
 | none=>(S.bC n).1 g args h
theorem bMH (hS:S.OK) {l:List Ans} (hl:∀ a,a∈l->S.CC a.g a.args a.h=some a.v) (n:Nat):YJ (S.memo l n) S.CC:=fun g args h v hv=>by
 unfold SE.memo at hv;split at hv
 .rename_i w hw;injection hv with hv; subst hv
  exact aV9 hl g args h _ hw
 grind [XN]
theorem aW9 (hS:S.OK) (m:Nat) {l:List Ans} (hl:∀ a,a∈l->S.CC a.g a.args a.h=some a.v) (n:Nat) {a:Ans} (e:S.stepT (S.memo l m) n a.g a.args a.h=some a.v):S.CC a.g a.args a.h=some a.v:=aW8 hS (bMH hS hl m) n e
end
end Go.Proofs.YtilpiopkekkbiaaGreatDoor
end

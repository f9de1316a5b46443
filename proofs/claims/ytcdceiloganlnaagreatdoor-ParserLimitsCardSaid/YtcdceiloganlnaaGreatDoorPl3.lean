/- A part of the proof. -/
import Derived.Test.YtcdceiloganlnaaGreatDoorPl2
import Derived.Test.YtcdceiloganlnaaGreatDoorChecked
import Derived.ProofKit
import Derived.SizedLaws
import Derived.Deep.Slices
import Derived.Deep.Fields
import Derived.ChangeArms
import Derived.OpenShut
import Derived.ChangeOld
import Derived.RangeFuncIn
import Derived.OrdersIn
import Derived.TacticsIn
import Derived.LoopNIn
import Derived.RangeFuncRecord
import Derived.RangeFuncLeaves
set_option linter.unusedVariables false
set_option linter.unusedSimpArgs false
set_option linter.unnecessarySimpa false
set_option linter.unusedSectionVars false
noncomputable section
namespace Go.Proofs.YtcdceiloganlnaaGreatDoor
open Go.RowKit
abbrev R:=Option (PV×aI)
abbrev Cal:=FuncId->bSH->aI->R
def aA (b:Bool) (A B:R):R:=match b with | true=>A | false=>B
def chk (b:Bool) (A:R):R:=match b with | true=>A | false=>none
def dQ (es:bSH) (n:Int) (K:PV->R):R:=if 0<=n then (match es[n.toNat]? with | some e=>K e | none=>none) else none
def vz (s:ByteArray) (n:Int) (K:Int->R):R:=if 0<=n then (match s[n.toNat]? with | some b=>K b.toNat | none=>none) else none
mutual
def PV.og:PV->PV->Bool
 | .int k n,q=>(match q with | .int k' n'=>decide (k=k')&&decide (n=n') | _=>false)
 | .bool b,q=>(match q with | .bool b'=>b==b' | _=>false)
 | .str s,q=>(match q with | .str s'=>s.data.toList==s'.data.toList | _=>false)
 | .nilp,q=>(match q with | .nilp=>true | _=>false)
 | .raw v,q=>(match v,q with | .nilFunc,.raw .nilFunc=>true | .nilIface,.raw .nilIface=>true | _,_=>false)
 | .ptr i o,q=>(match q with | .ptr i' o'=>Nat.beq i i'&&Nat.beq o o' | _=>false)
 | .cZ i o,q=>(match q with | .cZ i' o'=>Nat.beq i i'&&Nat.beq o o' | _=>false)
 | .cst e,q=>(match q with | .cst e'=>PV.og e e' | _=>false)
 | .sl o z l,q=>(match q with | .sl o' z' l'=>(o==o'&&Nat.beq z z')&&PV.zJ l l' | _=>false)
 | .slh i o n z,q=>(match q with | .slh i' o' n' z'=>(Nat.beq i i'&&Nat.beq o o')&&(Nat.beq n n'&&Nat.beq z z') | _=>false)
 | .dB l,q=>(match q with | .dB l'=>l==l' | _=>false)
 | .fJ o n z l,q=>(match q with | .fJ o' n' z' l'=>((o==o'&&Nat.beq n n')&&Nat.beq z z')&&PV.zJ l l' | _=>false)
 | .mp l,q=>(match q with | .mp l'=>PV.zJ l l' | _=>false)
 | .func f a c,q=>(match q with | .func f' a' c'=>(match f,f' with | .func g,.func g'=>Nat.beq g g' | .yield g,.yield g'=>Nat.beq g g' | _,_=>false)&&(PV.zJ a a'&&PV.zJ c c') | _=>false)
 | .agg l,q=>(match q with | .agg l'=>PV.zJ l l' | _=>false)
 | .tuple l,q=>(match q with | .tuple l'=>PV.zJ l l' | _=>false)
def PV.zJ:bSH->bSH->Bool
 | [],l=>(match l with | []=>true | _::_=>false)
 | p::ps,l=>(match l with | []=>false | q::qs=>PV.og p q&&PV.zJ ps qs)
end
mutual
theorem PV.X0:∀ {p q:PV},PV.og p q=true->p=q
 | .int k n,q,h=>by cases q<;>simp[PV.og] at h; rw[h.1,h.2]
 | .bool b,q,h=>by cases q<;>simp[PV.og] at h; rw[h]
 | .str s,q,h=>by
  cases q<;>simp[PV.og] at h
  rename_i s';cases s; cases s'; simp only at h; rw[h]
 | .nilp,q,h=>by cases q<;>simp[PV.og] at h; rfl
 | .raw v,q,h=>by
  unfold PV.og at h;split at h
  .rfl
  .rfl
  .cases h
 | .ptr i o,q,h=>by cases q<;>simp[PV.og] at h; rw[h.1,h.2]
 | .cZ i o,q,h=>by cases q<;>simp[PV.og] at h; rw[h.1,h.2]
 | .cst e,q,h=>by cases q<;>simp[PV.og] at h; rw[PV.X0 h]
 | .sl o z l,q,h=>by cases q<;>simp[PV.og] at h; rw[h.1.1,h.1.2,PV.Dq h.2]
 | .slh i o n z,q,h=>by cases q<;>simp[PV.og] at h; rw[h.1.1,h.1.2,h.2.1,h.2.2]
 | .dB l,q,h=>by cases q<;>simp[PV.og] at h; rw[h]
 | .fJ o n z l,q,h=>by cases q<;>simp[PV.og] at h; rw[h.1.1.1,h.1.1.2,h.1.2,PV.Dq h.2]
 | .mp l,q,h=>by cases q<;>simp[PV.og] at h; rw[PV.Dq h]
 | .func f a c,q,h=>by
  cases q<;>simp[PV.og] at h
  obtain ⟨h1,h2,h3⟩:=h;rw[PV.Dq h2,PV.Dq h3];split at h1
  .simp at h1; rw[h1]
  .simp at h1; rw[h1]
  .cases h1
 | .agg l,q,h=>by cases q<;>simp[PV.og] at h; rw[PV.Dq h]
 | .tuple l,q,h=>by cases q<;>simp[PV.og] at h; rw[PV.Dq h]
theorem PV.Dq:∀ {l l':bSH},PV.zJ l l'=true->l=l'
 | [],l',h=>by cases l'<;>simp[PV.zJ] at h; rfl
 | p::ps,l',h=>by
  cases l'<;>simp[PV.zJ] at h
  rw[PV.X0 h.1,PV.Dq h.2]
end
def Dt:aI->aI->Bool
 | [],l=>(match l with | []=>true | _::_=>false)
 | o::os,l=>(match l with
  | []=>false
  | o'::os'=>(match o,o' with | none,none=>true | some a,some b=>PV.zJ a b | _,_=>false)&&Dt os os')
theorem Wy:∀ {l l':aI},Dt l l'=true->l=l'
 | [],l',h=>by cases l'<;>simp[Dt] at h; rfl
 | o::os,l',h=>by
  cases l' with
  | nil=>simp[Dt] at h
  | cons o' os' =>
   simp only[Dt,au] at h;rw[Wy h.2];congr 1
   have h1:=h.1;split at h1
   .rfl
   .rw[PV.Dq h1]
   .cases h1
def JM (a b:PV×aI):R:=open Classical in match PV.og a.1 b.1&&Dt a.2 b.2 with | true=>some a | false=>if a=b then some a else none
theorem aVG (a:PV×aI):JM a a=some a:=by
 unfold JM;split
 .rfl
 .simp
theorem aVH {a b v:PV×aI} (h:JM a b=some v):a=v/\a=b:=by
 unfold JM at h;split at h
 .rename_i hc;simp only[au] at hc;injection h with h
  obtain ⟨a1,a2⟩:=a;obtain ⟨b1,b2⟩:=b;have e1:=PV.X0 hc.1;have e2:=Wy hc.2;simp only at e1 e2;subst e1; subst e2;exact ⟨h,rfl⟩
 .split at h
  .rename_i hc; injection h with h; exact ⟨h,hc⟩
  .cases h
def IK (es:bSH) (K:Bool->R):R:=match K false with
 | some (r,h)=>(match es.isEmpty with | false=>some (r,h) | true=>match K true with | some (r',h')=>JM (r,h) (r',h') | none=>none)
 | none=>none
def U9 (es:bSH) (n:Nat) (K:PV->R):R:=match es[n]? with | some e=>K e | none=>none
def jF (C:Cal) (g:FuncId) (args:bSH) (K:PV->R):R:=match C g args [] with | some (r,[])=>K r | _=>none
def AQ (C:Cal) (g:FuncId) (args:bSH) (h:aI) (K:PV->aI->R):R:=match C g args h with | some (r,h')=>K r h' | none=>none
def Rn (p:PV) (K:Bool->R):R:=match p with | .func _ _ _=>K false | .raw .nilFunc=>K true | _=>none
def NV (p:PV) (K:FuncId->bSH->bSH->R):R:=match p with | .func (.func g) first caps=>K g first caps | _=>none
def Qw:bSH->Nat->Int->(PV->R)->R
 | [],_,_,_=>none
 | p::r,k,n,K=>aA (n==(k:Int)) (K p) (Qw r (k+1) n K)
def Ob (s:Option IntKind) (L:bSH) (q:PV) (A:PV->R) (B:R):R:=match xY s L q with
 | some (some p)=>A p
 | some none=>B
 | none=>none
def KH (s:Option IntKind):bSH->PV->(PV->R)->R->R
 | k::v::L,q,A,B=>(match eqK s q k with | some b=>aA b (A v) (KH s L q A B) | none=>none)
 | [],_,_,B=>B
 | [_],_,_,_=>none
structure XE where
 E:AE
 C:Cal
 V:TypeId->PV->(PV->R)->R
 W:FuncId->aI->PV->aI->(PV->aI->R)->R
 L:List Nat->Nat->Code->(AX->ASt->R)->ASt->R
 m0:Nat
def Zm (d:Nat) (v:Bool):fH->fH
 | [] => []
 | (j,q)::l=>bif Nat.beq j d then (j,.bool v)::l else (j,q)::Zm d v l
def ASt.lit (d:Nat) (v:Bool) (Z:ASt):ASt := { Z with s:=Zm d v Z.s }
theorem a9V {d:Nat} {v:Bool}:∀ {s:fH},bU d s=some (.bool v)->Zm d v s=s
 | [],h=>by simp[bU] at h
 | (j,q)::l,h=>by
  rw[bU] at h;rw[Zm];by_cases e:j=d
  .rw[aJ e] at h; injection h with h; subst h; subst e
   rw[show Nat.beq j j=true by simp]; rfl
  .rw[aK e] at h;have hb:Nat.beq j d=false:=by
    cases h:Nat.beq j d
    .rfl
    .exact absurd (lm h) e
   rw[hb,a9V h]; rfl
def dG (E:AE) (dst:Option Nat) (p:PV) (K:ASt->R) (Z:ASt):R:=match ASt.put E dst p Z with | some Z'=>K Z' | none=>none
def UR (E:AE) (dst:Option Nat) (p:Option PV) (K:ASt->R) (Z:ASt):R:=match p with | some p=>dG E dst p K Z | none=>none
def o7 (X:XE) (o:Oper) (K:ASt->R) (Z:ASt):R:=match bY X.E o Z with | some (p,Z1)=>dG X.E o.dst p K Z1 | none=>none
def JR (X:XE) (dst:Option Nat) (sz:Nat) (es:bSH) (lo hi:Option Operand) (K:ASt->R) (Z:ASt):R :=
 match lo,hi with
 | none,none=>dG X.E dst (.sl false sz es) K Z
 | some l,none=>(match Z.rd l with | some (.int _ a)=>chk (decide (0<=a)&&decide (a<=es.length)) (dG X.E dst (.sl false sz (es.drop a.toNat)) K Z) | _=>none)
 | none,some h=>(match Z.rd h with | some (.int _ b)=>chk (decide (0<=b)&&decide (b<=es.length)) (dG X.E dst (.sl false sz (es.take b.toNat)) K Z) | _=>none)
 | some l,some h=>(match Z.rd l,Z.rd h with | some (.int _ a),some (.int _ b)=>chk (decide (0<=a)&&decide (a<=b)&&decide (b<=es.length)) (dG X.E dst (.sl false sz ((es.take b.toNat).drop a.toNat)) K Z) | _,_=>none)
def JS (X:XE) (dst:Option Nat) (s:ByteArray) (lo hi:Option Operand) (K:ASt->R) (Z:ASt):R :=
 match lo,hi with
 | none,none=>dG X.E dst (.str (s.extract 0 s.size)) K Z
 | some l,none=>(match Z.rd l with | some (.int _ a)=>chk (decide (0<=a)&&decide (a<=s.size)) (dG X.E dst (.str (s.extract a.toNat s.size)) K Z) | _=>none)
 | none,some h=>(match Z.rd h with | some (.int _ b)=>chk (decide (0<=b)&&decide (b<=s.size)) (dG X.E dst (.str (s.extract 0 b.toNat)) K Z) | _=>none)
 | some l,some h=>(match Z.rd l,Z.rd h with | some (.int _ a),some (.int _ b)=>chk (decide (0<=a)&&decide (a<=b)&&decide (b<=s.size)) (dG X.E dst (.str (s.extract a.toNat b.toNat)) K Z) | _,_=>none)
def a1Q (X:XE) (dst:Option Nat) (t:TypeId) (sz:Nat) (es:bSH) (n:Int) (K:ASt->R) (Z:ASt):R :=
 match xN X.E.P t,jh X.E.P t with
 | some e,some I=>if I.size=sz then dQ es n fun p=>X.V e p fun q=>dG X.E dst (.cst q) K Z else none
 | _,_=>none
def NL (X:XE) (dst:Option Nat) (k k':IntKind) (b:Int) (r:Int) (K:ASt->R) (Z:ASt):R:=if k=k' then chk (!(b==0)) (dG X.E dst (.int k r) K Z) else none
def aE5 (X:XE) (dst:Option Nat) (k:IntKind) (b:Int) (r:Int) (K:ASt->R) (Z:ASt):R:=chk (decide (0<=b)) (dG X.E dst (.int k r) K Z)
def Vy (P:Program) (t:TypeId):Option (Nat×TypeId):=match P.underlying t with
 | some (.array m e)=>(match ti P e with | some I=>(match Nat.beq I.size 1 && !I.agg with | true=>some (m,e) | false=>none) | none=>none)
 | _=>none
def aK7 (E:AE):Operand->Bool
 | .tmp t=>mf E.sy t
 | _=>false
def Rh (X:XE) (dst:Option Nat) (t:TypeId) (i off n sz:Nat) (lo hi:Option Operand) (K:ASt->R) (Z:ASt):R :=
 match jh X.E.P t with
 | some I=>(match Nat.beq I.size sz&&Nat.blt 0 sz with
  | true=>(match lo,hi with
   | none,some h=>(match Z.rd h with | some (.int _ b)=>chk (decide (0<=b)&&decide (b<=(n:Int))&&decide (0<n)) (dG X.E dst (.slh i off b.toNat sz) K Z) | _=>none)
   | some l,none=>(match Z.rd l with | some (.int _ a)=>chk (decide (0<=a)&&decide (a<=(n:Int))) (aA (decide (a<(n:Int))) (dG X.E dst (.slh i (off+a.toNat*sz) (n-a.toNat) sz) K Z) (dG X.E dst (.sl false sz []) K Z)) | _=>none)
   | _,_=>none)
  | false=>none)
 | none=>none
def X9 (X:XE) (dst:Option Nat) (t:TypeId) (l c:Operand) (K:ASt->R) (Z:ASt):R :=
 match jh X.E.P t,Z.rd l,Z.rd c with
 | some I,some (.int _ n),some (.int _ n')=>(match Nat.blt 0 I.size&&Nat.ble I.bytes 1024 with
  | true=>chk (decide (n=n')&&decide (0<=n)&&decide (n<=1073741824)) (match dC X.E.mu dst with
   | true=>dG X.E dst (.slh Z.h.length 0 n.toNat I.size) K ⟨Z.s,Z.h ++ [some (wo n.toNat I)]⟩
   | false=>(match Nat.beq (vM I).size I.size&&(vM I).okE with | true=>dG X.E dst (.sl true I.size (List.replicate n.toNat (vM I))) K Z | false=>none))
  | false=>none)
 | _,_,_=>none
def a1P (X:XE) (dst:Option Nat) (t:TypeId) (x y:Operand) (K:ASt->R) (Z:ASt):R :=
 match jh X.E.P t,Z.rd x,Z.rd y with
 | some I,some (.slh i off n sz),some (.sl _ sz' es)=>(match Z.h[i]? with
  | some (some cs)=>(match Nat.beq I.size sz&&(Nat.blt 0 sz&&(Nat.beq sz' sz||Nat.beq sz' 0)) with
   | true=>chk (decide (off+n*sz<=cs.length)) (dG X.E dst (.int .i64 ((Nat.min es.length n:Nat):Int)) K { Z with h:=Z.h.set i (some (cs.take off ++ (dW es).take (Nat.min es.length n*sz) ++ cs.drop (off+Nat.min es.length n*sz))) })
   | false=>none)
  | _=>none)
 | some I,some (.slh i off n sz),some (.slh j Om m sz')=>(match Z.h[i]?,Z.h[j]? with
  | some (some cs),some (some cs2)=>(match Nat.beq I.size sz&&(Nat.blt 0 sz&&Nat.beq sz' sz) with
   | true=>chk (decide (off+n*sz<=cs.length)&&decide (Om+m*sz<=cs2.length)) (dG X.E dst (.int .i64 ((Nat.min m n:Nat):Int)) K { Z with h:=Z.h.set i (some (cs.take off ++ (((cs2.drop Om).take (m*sz)).map PV.un).take (Nat.min m n*sz) ++ cs.drop (off+Nat.min m n*sz))) })
   | false=>none)
  | _,_=>none)
 | _,_,_=>none
def X7 (X:XE) (dst:Option Nat) (t:TypeId) (x:Operand) (K:ASt->R) (Z:ASt):R :=
 match jh X.E.P t,Z.rd x,dst with
 | some I,some (.slh i off n sz),none=>(match Z.h[i]? with
  | some (some cs)=>(match Nat.beq I.size sz with
   | true=>chk (decide (off+n*sz<=cs.length)) (K { Z with h:=Z.h.set i (some (cs.take off ++ (wo n I).map PV.un ++ cs.drop (off+n*sz))) })
   | false=>none)
  | _=>none)
 | some _,some (.sl _ _ []),none=>K Z
 | _,_,_=>none
def NM (X:XE) (dst:Option Nat) (t:TypeId) (p:PV) (pos:Bool) (K:ASt->R) (Z:ASt):R:=match OH X.E.P t with
 | true=>Rn p fun b=>dG X.E dst (.bool (b==pos)) K Z
 | false=>none
def a1O (X:XE) (dst:Option Nat) (ts:List TypeId) (s:Operand) (n sz:Nat) (cs:bSH) (sz':Nat) (es':bSH) (K:ASt->R) (Z:ASt):R:=match ts with
 | [t,u]=>(match jh X.E.P t with
  | some I=>(match Nat.beq t u&&(Nat.blt 0 I.size&&(Nat.ble I.bytes 1024&&(Nat.beq sz I.size&&(Nat.beq sz' I.size||Nat.beq sz' 0)))) with
   | true=>chk (decide (n+es'.length<=aQ)&&(dW es').all PV.lit) (dG X.E dst (.fJ true (n+es'.length) sz (cs ++ dW es')) K (Z.clr s))
   | false=>none)
  | none=>none)
 | _=>none
def a6O (b:Bool) (off:Nat) (n:Int) (sz:Nat):Nat:=match b with
 | true=>off+n.toNat*sz
 | false=>(match off,sz with | 0,1=>n.toNat | _,_=>off+n.toNat*sz)
theorem bHJ (b:Bool) (off:Nat) (n:Int) (sz:Nat):a6O b off n sz=off+n.toNat*sz:=by
 unfold a6O;split
 .rfl
 .split
  .omega
  .rfl
def bGL (P:Program) (t:TypeId):TypeId:=match P.underlying t with | some (.map _ e)=>e | _=>0
def X8 (X:XE) (dst:Option Nat) (t:TypeId) (ok:Bool) (m q:PV) (K:ASt->R) (Z:ASt):R :=
 match CB X.E.P t,m with
 | some (s,z),.cZ 0 i=>(match Z.h[i]? with
  | some (some cs)=>(match Af cs with
   | some (_,L)=>(match yM s q with
    | true=>(match dC X.E.sy dst with
     | true=>KH s L q (fun p=>dG X.E dst (Bv ok z (some p)) K Z) (dG X.E dst (Bv ok z none) K Z)
     | false=>Ob s L q (fun p=>X.V (bGL X.E.P t) p fun p'=>dG X.E dst (Bv ok z (some p')) K Z) (dG X.E dst (Bv ok z none) K Z))
    | false=>none)
   | none=>none)
  | _=>none)
 | _,_=>none
def NQ (X:XE) (dst:Option Nat) (t:TypeId) (m q x:PV) (K:ASt->R) (Z:ASt):R :=
 match CB X.E.P t,m,dst with
 | some (s,_),.cZ 0 i,none=>(match Z.h[i]? with
  | some (some cs)=>(match Af cs with
   | some (b,L)=>(match yM s q with
    | true=>chk (qB s L q&&(!b||x.flat)) (K { Z with h:=Z.h.set i (some [nP b (jO s L q x)]) })
    | false=>none)
   | none=>none)
  | _=>none)
 | _,_,_=>none
def XA (X:XE) (dst:Option Nat) (b:Bool) (q:Option PV) (K:ASt->R) (Z:ASt):R:=match b,q with
 | true,some (.cZ T i)=>(match Z.h[i]? with
  | some (some cs)=>(match OI cs with
   | some (s,p)=>(match Nat.beq T DU with
    | true=>chk (decide (0<=p)) (aA (decide (p<(s.size:Int))) (dG X.E dst (.tuple [.bool true,.int .i64 p,.int .i32 (Ya s p)]) K { Z with h:=Z.h.set i (some [zO s (OJ s p)]) }) (dG X.E dst (.tuple [.bool false]) K Z))
    | false=>none)
   | none=>none)
  | _=>none)
 | _,_=>none
def NP (X:XE) (o:Oper) (K:ASt->R) (Z:ASt):R :=
 match o.op with
 | .convert s d x=>(match Z.rd x with
  | some (.sl _ _ es)=>(match OG X.E.P s&&uC X.E.P d with | true=>chk (a1A es) (dG X.E o.dst (.str (strOf es)) K Z) | false=>none)
  | _=>o7 X o K Z)
 | .indexAddr t x i=>(match Z.rd x,Z.rd i with
  | some (.sl _ sz es),some (.int _ n)=>a1Q X o.dst t sz es n K Z
  | some (.slh i off m sz),some (.int _ n)=>(match dC X.E.sy o.dst with
   | true=>(match jh X.E.P t with
    | some I=>(match Nat.beq I.size sz with | true=>chk (decide (0<=n)&&decide (n<(m:Int))) (dG X.E o.dst (.ptr i (a6O (dC X.E.sy (o.dst.map (8000000 + ·))) off n sz)) K Z) | false=>none)
    | none=>none)
   | false=>o7 X o K Z)
  | some (.ptr i off),some (.int _ n)=>(match dC X.E.sy o.dst with
   | true=>(match Ew X.E.P t with
    | some (m,I)=>chk (decide (0<=n)&&decide (n<(m:Int))) (dG X.E o.dst (.ptr i (off+n.toNat*I.size)) K Z)
    | none=>none)
   | false=>o7 X o K Z)
  | some (.cst (.agg cs)),some (.int _ n)=>(match Vy X.E.P t with
   | some (m,e)=>chk (decide (n<(m:Int))) (dQ cs n fun p=>X.V e p fun q=>(match q.one with | true=>dG X.E o.dst (.cst q.un) K Z | false=>none))
   | none=>o7 X o K Z)
  | _,_=>o7 X o K Z)
 | .load t a=>(match aK7 X.E a && !dC X.E.ln o.dst with
  | true=>(match ti X.E.P t,Z.rd a with
   | some I,some (.ptr i off)=>(match Z.h[i]? with
    | some (some cs)=>(match I.agg with
     | true=>chk (decide (off+I.size<=cs.length)) (X.V t (.agg (((cs.drop off).take I.size).map PV.un)) fun q=>dG X.E o.dst q K Z)
     | false=>(match !dC X.E.mv o.dst with | true=>U9 cs off fun p=>X.V t p fun q=>dG X.E o.dst q.un K Z | false=>none))
    | _=>none)
   | _,_=>none)
  | false=>(match Z.rd a,ti X.E.P t with
   | some (.cst e),some I=>chk (decide (e.isAgg=I.agg)&&decide (e.size=I.size)) (dG X.E o.dst e.un K Z)
   | _,_=>o7 X o K Z))
 | .store t a x=>(match aK7 X.E a && !dC X.E.mu (zg a) with
  | true=>(match ti X.E.P t,Z.rd a,Z.ev x,o.dst with
   | some I,some (.ptr i off),some p,none=>(match Z.h[i]? with
    | some (some cs)=>(match p with
     | .agg ds=>(match Nat.beq ds.length I.size&&ds.all PV.one with | true=>chk (decide (off+I.size<=cs.length)) (K { Z.clr x with h:=(Z.clr x).h.set i (some (cs.take off ++ ds.map PV.un ++ cs.drop (off+I.size))) }) | false=>none)
     | p=>(match p.one&&Nat.beq I.size 1 with | true=>chk (decide (off<cs.length)) (K { Z.clr x with h:=(Z.clr x).h.set i (some (cs.set off p)) }) | false=>none))
    | _=>none)
   | _,_,_,_=>none)
  | false=>(match Z.ev x with
   | some (.agg ds)=>(match ti X.E.P t,Z.rd a,o.dst with
    | some I,some (.ptr i off),none=>(match Z.h[i]? with
     | some (some cs)=>(match PS X.E.mu X.E.ln (zg a) (Z.rd a)&&(Nat.beq ds.length I.size&&Nat.ble (off+I.size) cs.length) with
      | true=>chk (ds.all PV.one) (K { Z.clr x with h:=(Z.clr x).h.set i (some (cs.take off ++ ds.map PV.un ++ cs.drop (off+I.size))) })
      | false=>none)
     | _=>none)
    | _,_,_=>none)
   | _=>o7 X o K Z))
 | .index t x i=>(match Z.rd x,Z.rd i with
  | some (.str s),some (.int _ n)=>(match uC X.E.P t with | true=>vz s n fun b=>dG X.E o.dst (.int .u8 b) K Z | false=>none)
  | some (.agg cs),some (.int _ n)=>(match dC X.E.sy o.dst with
   | true=>(match Vy X.E.P t with
    | some (m,_)=>chk (decide (0<=n)&&decide (n<(m:Int))) (Qw cs 0 n fun p=>(match p.one with | true=>dG X.E o.dst p.un K Z | false=>none))
    | none=>none)
   | false=>o7 X o K Z)
  | _,_=>o7 X o K Z)
 | .pick c a b=>(match Z.rd c with
  | some (.bool v)=>aA v (UR X.E o.dst (Z.rd a) K Z) (UR X.E o.dst (Z.rd b) K Z)
  | _=>none)
 | .slice t x lo hi none=>(match Z.rd x with
  | some (.sl _ sz es)=>(match jh X.E.P t with | some I=>if I.size=sz then JR X o.dst sz es lo hi K Z else none | none=>none)
  | some (.str s)=>(match uC X.E.P t with | true=>JS X o.dst s lo hi K Z | false=>none)
  | some (.slh i off n sz)=>Rh X o.dst t i off n sz lo hi K Z
  | _=>o7 X o K Z)
 | .slice t x (some l) (some u) (some m)=>(match Z.rd x,Z.rd l,Z.rd u,Z.rd m with
  | some (.sl _ sz es),some (.int _ a),some (.int _ b),some (.int _ c)=>(match jh X.E.P t with
   | some I=>(match Nat.beq I.size sz with | true=>chk (decide (0<=a)&&decide (a<=b)&&decide (b<=c)&&decide (c<=(es.length:Int))) (dG X.E o.dst (.sl false sz ((es.take b.toNat).drop a.toNat)) K Z) | false=>none)
   | none=>none)
  | _,_,_,_=>none)
 | .makeSlice t l c=>X9 X o.dst t l c K Z
 | .lookup t m k ok=>(match Z.rd m,Z.rd k with
  | some pm,some q=>X8 X o.dst t ok pm q K Z
  | _,_=>none)
 | .mapUpdate t m k x=>(match Z.rd m,Z.rd k,Z.rd x with
  | some pm,some q,some y=>NQ X o.dst t pm q y K Z
  | _,_,_=>none)
 | .insert t m k x=>(match Ul X.E.mu X.E.ln (zg m) (Z.rd m) with
  | false=>none
  | true=>(match Z.rd m,Z.rd k,Z.rd x with
   | some pm,some q,some y=>NQ X o.dst t pm q y K Z
   | _,_,_=>none))
 | .next x b=>XA X o.dst b (Z.rd x) K Z
 | .fieldAddr s x f=>(match Z.rd x,fieldsOf X.E.P s with
  | some (.cst (.agg cs)),some fs=>(match fs[f]? with
   | some (off,z,false)=>(match Nat.beq z 0,cs[off]? with
    | false,some p=>chk p.one (dG X.E o.dst (.cst p.un) K Z)
    | _,_=>none)
   | _=>o7 X o K Z)
  | _,_=>o7 X o K Z)
 | .box t x=>(match dC X.E.fz o.dst,Z.rd x with
  | true,some (.agg ds)=>chk (ds.all PV.one&&PV.flats ds) (dG X.E o.dst (.cst (.agg (ds.map PV.un))) K Z)
  | _,_=>o7 X o K Z)
 | .binOp op t x y _=>(match op,Z.rd x,Z.rd y with
  | .quo,some (.int k a),some (.int k' b)=>NL X o.dst k k' b (k.wrap (a.tdiv b)) K Z
  | .rem,some (.int k a),some (.int k' b)=>NL X o.dst k k' b (a.tmod b) K Z
  | .shl,some (.int k a),some (.int _ b)=>aE5 X o.dst k b (k.wrap (a*2 ^ min b.toNat k.bits)) K Z
  | .shr,some (.int k a),some (.int _ b)=>aE5 X o.dst k b (a.fdiv (2 ^ min b.toNat k.bits)) K Z
  | .add,some (.str a),some (.str b)=>chk (decide (a.size+b.size<=aQ)) (dG X.E o.dst (.str (a ++ b)) K Z)
  | .eql,some p,some (.raw .nilFunc)=>NM X o.dst t p true K Z
  | .neq,some p,some (.raw .nilFunc)=>NM X o.dst t p false K Z
  | _,_,_=>o7 X o K Z)
 | .call c=>(match c.callee with
  | .builtin .clear=>(match c.args.toList,c.argTypes.toList with
   | [x],[t]=>X7 X o.dst t x K Z
   | _,_=>none)
  | .builtin .copy=>(match c.args.toList,c.argTypes.toList with
   | [x,y],[t,_]=>a1P X o.dst t x y K Z
   | _,_=>none)
  | .builtin .append=>(match c.args.toList with
   | [s,x]=>(match Z.ev s,Z.rd x with
    | some (.sl _ _ es),some (.sl _ _ es')=>chk (decide (es.length+es'.length<=aQ)) (o7 X o K Z)
    | some (.sl _ _ es),some (.str b)=>chk (decide (es.length+b.size<=aQ)) (o7 X o K Z)
    | some (.fJ true n sz cs),some (.sl _ sz' es')=>a1O X o.dst c.argTypes.toList s n sz cs sz' es' K Z
    | some (.dB l),some (.str b)=>chk (decide (l.length+b.size<=aQ)) (o7 X o K Z)
    | some (.dB l),some (.sl _ _ es')=>(match UJ es' with
     | some c=>chk (decide (l.length+1<=aQ)&&decide (0<=c)&&decide (c<256)) (o7 X o K Z)
     | none=>none)
    | _,_=>none)
   | _=>none)
  | .builtin _=>o7 X o K Z
  | _=>none)
 | _=>o7 X o K Z
def Zb (zs:List Nat) (p:PV):PV:=match zs.all (Nat.beq · 0) with | true=>p | false=>p.zn zs
def oU (P:Program):List TypeId->bSH->bSH
 | t::ts,p::ps=>Zb (N9 P 8 t) p::oU P ts ps
 | _,ps=>ps
def sQ (E:AE) (o:Oper):List TypeId:=match dC E.sy (o.dst.map (9000000 + ·)) with | true => [] | false=>(match o.op with | .call c=>c.argTypes.toList | _ => [])
mutual
def PV.ids:PV->List Nat
 | .ptr i _ => [i]
 | .cZ _ i => [i]
 | .slh i _ _ _ => [i]
 | .func _ a c=>PV.xU a ++ PV.xU c
 | .agg cs=>PV.xU cs
 | .tuple cs=>PV.xU cs
 | _ => []
def PV.xU:bSH->List Nat
 | [] => []
 | p::ps=>p.ids ++ PV.xU ps
end
def xH (l:List Nat):List Nat->List Nat
 | []=>l
 | i::is=>xH (match mf l i with | true=>l | false=>l ++ [i]) is
def aD8 (H:aI):List Nat->List Nat
 | [] => []
 | i::l=>(match oq H i with | some cs=>PV.xU cs | none => []) ++ aD8 H l
def H7 (H:aI):Nat->List Nat->List Nat
 | 0,l=>l
 | n+1,l=>H7 H n (xH l (aD8 H l))
def aQK (ids:List Nat) (H:aI) (full:bSH):Bool :=nodupB ids&&(ids.all (fun i=>Nat.blt i H.length)&&(PV.mQ (mf ids) full&&ids.all fun i=>match oq H i with | some cs=>PV.mQ (mf ids) cs | none=>true))
def zK (X:XE) (dst:Option Nat) (g:FuncId) (full:bSH) (ids:List Nat) (K:ASt->R) (Z:ASt):R :=
 match aQK ids Z.h full with
 | true=>AQ X.C g (jm (rV ids) full) ((ids.map (oq Z.h)).map (lC (rV ids))) fun r h'=>X.W g ((ids.map (oq Z.h)).map (lC (rV ids))) r h' fun r' h''=>dG X.E dst (jV (pX ids Z.h.length) r') K ⟨Z.s,vw ids Z.h h''⟩
 | false=>none
def qV (p:PV):Bool:=p.one&&p.flat
def KX:Option (bSH)->Bool
 | some cs=>cs.all qV
 | none=>true
def a9T (ids:List Nat) (H h':aI):aI:=oD ids (h'.take ids.length) H ++ h'.drop ids.length
def JQ (X:XE) (dst:Option Nat) (g:FuncId) (full:bSH) (ids:List Nat) (K:ASt->R) (Z:ASt):R :=
 match nodupB ids&&(ids.all (fun i=>Nat.blt i Z.h.length)&&PV.mQ (mf ids) full) with
 | true=>chk ((ids.map (oq Z.h)).all KX) (AQ X.C g (jm (rV ids) full) (ids.map (oq Z.h)) fun r h'=>X.W g (ids.map (oq Z.h)) r h' fun r' h''=>chk (h''.all KX) (dG X.E dst (jV (pX ids Z.h.length) r') K ⟨Z.s,a9T ids Z.h h''⟩))
 | false=>none
def a1U (X:XE) (dst:Option Nat) (r:PV) (K:ASt->R) (Z:ASt):R:=match r with
 | .sl true 1 es=>chk (decide (0<es.length)&&es.all uH) (dG X.E dst (.slh Z.h.length 0 es.length 1) K ⟨Z.s,Z.h ++ [some es]⟩)
 | .sl true sz es=>aA (decide (0<es.length)) (chk (es.all (yV sz)) (dG X.E dst (.slh Z.h.length 0 es.length sz) K ⟨Z.s,Z.h ++ [some (dW es)]⟩)) (dG X.E dst (.sl true sz []) K Z)
 | _=>none
def a1R (X:XE) (dst:Option Nat) (g:FuncId) (full:bSH) (K:ASt->R) (Z:ASt):R :=chk (Tu Z.h full) (jF X.C g (Yr Z.h full) fun r=>X.W g [] r [] fun r' _=>(match r'.uu with | true=>dG X.E dst r' K Z | false=>none))
def aOW (l ids:List Nat) (n:Nat):Bool:=l.all fun k=>match Nat.ble 1000000 k with
 | true=>Nat.blt (k-1000000) n && !mf ids (k-1000000)
 | false=>true
def JP (X:XE) (draw:Bool) (o:Oper) (f:Operand) (args:List Operand) (K:ASt->R) (Z:ASt):R :=
 match Z.rd f,jL (args.map Z.rd) with
 | some (.func (.func g) first caps),some az=>(match !draw&&(dC X.E.ln o.dst&&dC X.E.sy o.dst) with
  | true=>(match dC X.E.sy (o.dst.map (6000000 + ·)) with
   | true=>JQ X o.dst g (first ++ oU X.E.P (sQ X.E o) az ++ caps) (xH [] (PV.xU (first ++ oU X.E.P (sQ X.E o) az ++ caps))) K Z
   | false=>zK X o.dst g (first ++ oU X.E.P (sQ X.E o) az ++ caps) (H7 Z.h 3 (xH [] (PV.xU (first ++ oU X.E.P (sQ X.E o) az ++ caps)))) K Z)
  | false=>match PV.flats (first ++ oU X.E.P (sQ X.E o) az ++ caps) with
   | true=>jF X.C g (first ++ oU X.E.P (sQ X.E o) az ++ caps) fun r=>X.W g [] r [] fun r' _=>(match !draw&&dC X.E.mu o.dst with
    | true=>a1U X o.dst r' K Z
    | false=>(match PV.flat r' with | true=>dG X.E o.dst r' K Z | false=>none))
   | false=>(match draw with
    | true=>match dC X.E.sy o.dst&&aOW X.E.ln (H7 Z.h 3 (xH [] (PV.xU (first ++ oU X.E.P (sQ X.E o) az ++ caps)))) Z.h.length with
     | true=>zK X o.dst g (first ++ oU X.E.P (sQ X.E o) az ++ caps) (H7 Z.h 3 (xH [] (PV.xU (first ++ oU X.E.P (sQ X.E o) az ++ caps)))) K Z
     | false=>none
    | false=>match dC X.E.ln o.dst with
     | true=>a1R X o.dst g (first ++ oU X.E.P (sQ X.E o) az ++ caps) K Z
     | false=>match dC X.E.sy o.dst with
     | true=>JQ X o.dst g (first ++ oU X.E.P (sQ X.E o) az ++ caps) (xH [] (PV.xU (first ++ oU X.E.P (sQ X.E o) az ++ caps))) K Z
     | false=>zK X o.dst g (first ++ oU X.E.P (sQ X.E o) az ++ caps) (H7 Z.h 3 (xH [] (PV.xU (first ++ oU X.E.P (sQ X.E o) az ++ caps)))) K Z))
 | _,_=>none
def X6 (X:XE) (o:Oper) (f:Operand) (args:List Operand) (K:ASt->R) (Z:ASt):R :=
 match Z.rd f,jL (args.map Z.rd) with
 | some p,some az=>NV p fun g first caps=>chk (PV.flats (first ++ oU X.E.P (sQ X.E o) az ++ caps)) (jF X.C g (first ++ oU X.E.P (sQ X.E o) az ++ caps) fun r=>X.V o.type r fun r'=>(match PV.flat r' with | true=>dG X.E o.dst r' K Z | false=>none))
 | _,_=>none
def H9 (X:XE) (draw:Bool) (o:Oper) (K:ASt->R) (Z:ASt):R :=
 match ul o with
 | some (f,args)=>(match dC X.E.sy (o.dst.map (2000000 + ·)) with | true=>X6 X o f args K Z | false=>JP X draw o f args K Z)
 | none=>match draw with
  | true=>NP X o K Z
  | false=>match a6I X.E o Z with
   | some (es,pos)=>IK es fun b=>dG X.E o.dst (.bool (b==pos)) K Z
   | none=>NP X o K Z
def HY (X:XE) (draw:Bool) (o:Oper) (d:Nat) (want v:Bool) (K:ASt->R) (Z:ASt):R :=
 match v==want with
 | true=>H9 X draw o K (Z.lit d v)
 | false=>dG X.E o.dst (.tuple []) K (Z.lit d v)
def ji (X:XE) (draw:Bool) (ops:Array Oper):List Oper->(ASt->R)->ASt->R
 | [],K,Z=>K Z
 | o::l,K,Z=>match o.guard with
  | none=>H9 X draw o (ji X draw ops l K) Z
  | some (j,want)=>match (ops[j]?).bind (·.dst) with
   | none=>dG X.E o.dst (.tuple []) (ji X draw ops l K) Z
   | some d=>match bU d Z.s with
    | some (.bool b)=>aA b (HY X draw o d want true (ji X draw ops l K) Z) (HY X draw o d want false (ji X draw ops l K) Z)
    | some (.tuple [])=>dG X.E o.dst (.tuple []) (ji X draw ops l K) Z
    | _=>none
def wX (k:ASt->R) (K:AX->ASt->R):AX->ASt->R
 | .normal,Z=>k Z
 | .ret,Z=>K .ret Z
 | .exit i,Z=>K (.exit i) Z
def aj (id:Nat) (K:AX->ASt->R):AX->ASt->R
 | .exit i,Z=>if i=id then K .normal Z else K (.exit i) Z
 | .normal,Z=>K .normal Z
 | .ret,Z=>K .ret Z
def ASt.keys (E:AE) (Z:ASt):List Nat:=(Z.keep E.vars).s.map (·.1)
def CY:Code->Nat
 | .region id _ _=>id+1
 | .seq .skip y=>CY y
 | .seq (.label _) y=>CY y
 | .seq x _=>CY x
 | .block _ x=>CY x
 | .scope x=>CY x
 | .loop x=>CY x
 | _=>0
mutual
def PV.aQS:PV->Nat
 | .ptr i _=>i+1
 | .cZ _ i=>i+1
 | .slh i _ _ _=>i+1
 | .func _ f c=>Nat.max (PV.GL f) (PV.GL c)
 | .agg cs=>PV.GL cs
 | .tuple cs=>PV.GL cs
 | _=>0
def PV.GL:bSH->Nat
 | []=>0
 | p::ps=>Nat.max p.aQS (PV.GL ps)
end
def aQT:fH->Nat
 | []=>0
 | (_,p)::l=>Nat.max p.aQS (aQT l)
def aA6:Nat->aI->Nat
 | 0,_=>0
 | _,[]=>0
 | n+1,o::h=>Nat.max (match o with | some cs=>PV.GL cs | none=>0) (aA6 n h)
def aPY:PV->List Nat
 | .slh i _ _ _ => [i]
 | _ => []
def Dv:bSH->List Nat
 | [] => []
 | p::ps=>xH (aPY p) (Dv ps)
def a6M:List Nat->List Nat
 | [] => []
 | k::l=>(match Nat.ble 8500000 k with | true=>(k-8500000)::a6M l | false=>a6M l)
def Ri (l:List Nat):fH->List Nat
 | []=>a6M l
 | (k,p)::s=>(match mf l k with | true=>xH (match mf l (7000000+k) with | true=>p.ids | false=>aPY p) (Ri l s) | false=>Ri l s)
def Ig (fl:List Nat):Nat->aI->aI
 | _,[] => []
 | j,o::h=>(match mf fl j with | true=>none | false=>o)::Ig fl (j+1) h
def plainO (h:aI):List Nat->Bool
 | []=>true
 | i::is=>(match h[i]? with | some (some cs)=>cs.all qV | _=>true)&&plainO h is
def U7 (m0:Nat) (l:List Nat) (Z:ASt):Nat :=
 let h:=Ig (Ri l Z.s) 0 Z.h
 let a:=Nat.max m0 (aQT (Z.keep l).s)
 let b:=Nat.max a (aA6 a h)
 Nat.max b (aA6 b h)
def Fa (l:List Nat) (m:Nat) (Z:ASt):Bool:=plainO (Z.gc l m).h (Ri l (Z.gc l m).s)
def Dz (l:List Nat) (m:Nat) (Z:ASt):Bool:=(Z.gc l m).s.all (fun kp=>kp.2.blw m)&&AP m (Ig (Ri l (Z.gc l m).s) 0 (Z.gc l m).h)
theorem aPV (fl:List Nat):∀ (h:aI) (j k:Nat) (o:Option (bSH)),h[k]? = some o->(Ig fl j h)[k]? = some (match mf fl (j+k) with | true=>none | false=>o)
 | [],_,_,_,h=>by simp at h
 | a::h,j,0,o,e=>by simp at e; subst e; simp[Ig]
 | a::h,j,k+1,o,e=>by rw[Ig,a08,aPV fl h (j+1) k o (by simpa using e),show j+1+k=j+(k+1) by omega]
theorem aO8 {h:aI}:∀ {fl:List Nat} {i:Nat} {cs:bSH},plainO h fl=true->i∈fl->h[i]? = some (some cs)->cs.all qV=true
 | a::fl,i,cs,hp,hi,e=>by
  simp only[plainO,au] at hp;rcases iQ.1 hi with rfl | hi
  .have:=hp.1; rw[e] at this; exact this
  .exact aO8 hp.2 hi e
theorem aO9 (m:Nat):∀ {cs:bSH},cs.all qV=true->PV.blws m cs=true
 | [],_=>rfl
 | p::cs,h=>by simp only[vN,au,qV] at h;simp only[PV.blws,aEP m p h.1.2,aO9 m h.2,yw]
theorem aCX {m:Nat} {h:aI} {fl:List Nat} (hp:plainO h fl=true) (hb:AP m (Ig fl 0 h)=true):AP m h=true:=by
 unfold AP at hb ⊢;rw[iC] at hb ⊢;intro o ho;obtain ⟨k,hk⟩:=DI.1 ho;have h1:=aPV fl h 0 k o hk;rw[kW] at h1;cases hi:mf fl k with
 | true =>
  cases o with
  | none=>rfl
  | some cs=>exact aO9 m (aO8 hp (YX.1 hi) hk)
 | false =>rw[hi] at h1;exact hb o (jq h1)
theorem a3Y {l:List Nat} {m:Nat} {Z:ASt} (hp:Fa l m Z=true) (hg:Dz l m Z=true):Bf l m Z=true:=by unfold Dz at hg;unfold Bf;rw[au] at hg ⊢;exact ⟨hg.1,aCX hp hg.2⟩
def ED (E:AE) (m0:Nat) (y:Code) (k:ASt->R) (Z:ASt):R:=match E.jt.lookup (CY y) with
 | some l=>chk (Fa l (U7 m0 l Z) Z) (match decide (m0<=U7 m0 l Z)&&Dz l (U7 m0 l Z) Z with | true=>k (Z.gc l (U7 m0 l Z)) | false=>none)
 | none=>k Z
def mZ (k:ASt->R):List Nat->ASt->R
 | [],Z=>k Z
 | d::ds,Z=>match Nat.ble 9000000 d with
  | true=>(match bU (d-9000000) Z.s with
   | some (.ptr i 0)=>(match Z.h[i]? with
    | some (some cs)=>chk (decide (0<cs.length)&&cs.all fun p=>p.one&&p.flat) (mZ k ds ⟨iF (d-9000000) (.cst ((mX cs.length cs 1).headD .nilp)) Z.s,Z.h.set i none⟩)
    | _=>mZ k ds Z)
   | _=>mZ k ds Z)
  | false=>match Nat.ble 5000000 d with
  | true=>(match bU ((d-5000000) / 100) Z.s with
   | some (.ptr i2 0)=>(match Z.h[i2]? with
    | some (some cs0)=>(match cs0[(d-5000000) % 100]? with
     | some (.slh i 0 n sz)=>(match Z.h[i]? with
      | some (some cs)=>chk (decide (n*sz<=cs.length)&&decide (0<sz)&&cs.all (fun p=>p.one&&p.flat) && !Nat.beq i i2) (mZ k ds ⟨Z.s,(Z.h.set i none).set i2 (some (cs0.set ((d-5000000) % 100) (.sl false sz (mX sz cs n))))⟩)
      | _=>mZ k ds Z)
     | _=>mZ k ds Z)
    | _=>mZ k ds Z)
   | _=>mZ k ds Z)
  | false=>match Nat.ble 4000000 d with
  | true=>(match bU ((d-4000000) / 100) Z.s with
   | some (.ptr i 0)=>(match Z.h[i]? with
    | some (some cs0)=>(match cs0[(d-4000000) % 100]? with
     | some (.fJ true n sz cs)=>aA (Nat.ble 1 n) (mZ k ds ⟨Z.s,Z.h.set i (some (cs0.set ((d-4000000) % 100) (.slh Z.h.length 0 n sz))) ++ [some cs]⟩) (mZ k ds ⟨Z.s,Z.h.set i (some (cs0.set ((d-4000000) % 100) (.sl false sz [])))⟩)
     | _=>mZ k ds Z)
    | _=>mZ k ds Z)
   | _=>mZ k ds Z)
  | false=>match Nat.ble 3000000 d with
  | true=>(match bU ((d-3000000) % 500000) Z.s with
   | some (.fJ true n sz cs)=>(match Nat.ble 3500000 d with
    | true=>chk (Nat.ble 1 n) (mZ k ds ⟨iF ((d-3000000) % 500000) (.slh Z.h.length 0 n sz) Z.s,Z.h ++ [some cs]⟩)
    | false=>aA (Nat.ble 1 n) (mZ k ds ⟨iF ((d-3000000) % 500000) (.slh Z.h.length 0 n sz) Z.s,Z.h ++ [some cs]⟩) (mZ k ds ⟨iF ((d-3000000) % 500000) (.sl false sz []) Z.s,Z.h⟩))
   | _=>mZ k ds Z)
  | false=>match Nat.ble 1000000 d with
   | true=>(match bU (d-1000000) Z.s with
    | some (.slh i 0 n sz)=>(match Z.h[i]? with
     | some (some cs)=>chk (decide (n*sz<=cs.length)&&decide (0<sz)&&cs.all fun p=>p.one&&p.flat) (mZ k ds ⟨iF (d-1000000) (.sl false sz (mX sz cs n)) Z.s,Z.h.set i none⟩)
     | _=>mZ k ds Z)
    | _=>mZ k ds Z)
   | false=>mZ k ds (xQ d Z)
def um (E:AE) (m0:Nat) (y:Code) (k:ASt->R) (Z:ASt):R:=match E.ft.lookup (CY y) with
 | some ks=>mZ (ED E m0 y k) ks Z
 | none=>ED E m0 y k Z
def jy (E:AE) (m0:Nat) (x:Code) (Z:ASt):List Nat×Nat:=match E.lt.lookup (CY x) with
 | some l=>(l,U7 m0 l Z)
 | none=>(Z.keys E,Z.h.length)
open Classical in
def bn (a b:R):R:=match a with
 | some (r,h)=>(match b with | some (r',h')=>(match PV.og r r'&&Dt h h' with | true=>some (r,h) | false=>if r=r'/\h=h' then some (r,h) else none) | none=>none)
 | none=>none
theorem Gu (a:R):bn a a=a:=by
 unfold bn;cases a with
 | none=>rfl
 | some v =>
  obtain ⟨r,h⟩:=v;dsimp only;split
  .rfl
  .simp
theorem aSJ {a b:R} {v:PV×aI} (h:bn a b=some v):a=some v/\b=some v:=by
 unfold bn at h;split at h
 .split at h
  .split at h
   .rename_i r1 h1 r2 h2 hc;simp only[au] at hc;obtain rfl:=PV.X0 hc.1;obtain rfl:=Wy hc.2;exact ⟨h,h⟩
   .split at h
    .rename_i hc; obtain ⟨rfl,rfl⟩:=hc; exact ⟨h,h⟩
    .cases h
  .cases h
 .cases h
def Qp:List R->R
 | []=>none
 | x::l=>match l with | []=>x | _::_=>bn x (Qp l)
def F5 (X:XE) (ops:Array Oper) (K:ASt->R):Nat->Array Bool->ASt->R
 | 0,L,Z=>(match Region.ready .any ops L with | []=>K Z | _::_=>none)
 | fuel+1,L,Z=>(match Region.ready .any ops L with
  | []=>K Z
  | i::is=>Qp ((match Hf X.E ops L (i::is) with | some j => [j] | none=>i::is).map fun i=>match ops[i]? with
   | none=>none
   | some o=>ji X true ops [o] (F5 X ops K fuel (L.setIfInBounds i true)) Z))
def aDZ (X:XE) (ops:Array Oper) (K:ASt->R) (Z:ASt):R:=F5 X ops K ops.size (Array.replicate ops.size false) Z
theorem aCA {v:PV×aI}:∀ {l:List R},Qp l=some v->∀ x,x∈l->x=some v
 | [],_,x,hx=>by cases hx
 | y::l,h,x,hx=>by
  unfold Qp at h;cases l with
  | nil=>rw[DK] at hx; subst hx; exact h
  | cons z l' =>
   obtain ⟨h1,h2⟩:=aSJ h;rcases iQ.1 hx with hx | hx
   .subst hx; exact h1
   .exact aCA h2 x hx
def bH (X:XE):Code->(AX->ASt->R)->ASt->R
 | .skip,K,Z=>K .normal Z
 | .label _,K,Z=>K .normal Z
 | .exit id,K,Z=>K (.exit id) Z
 | .ret,K,Z=>K .ret Z
 | .region _ ops draw,K,Z=>(match draw with
  | true=>(match okD X.E ops with | true=>ji X true ops ops.toList (K .normal) (Z.head X.E) | false=>aDZ X ops (K .normal) (Z.head X.E))
  | false=>ji X false ops ops.toList (K .normal) (Z.head X.E))
 | .seq x y,K,Z=>bH X x (wX (um X.E X.m0 y (bH X y K)) K) Z
 | .cond c x y,K,Z=>(match Z.rd c with
  | some (.bool b)=>(match c with
   | .tmp d=>aA b (bH X x K (Z.lit d true)) (bH X y K (Z.lit d false))
   | _=>aA b (bH X x K Z) (bH X y K Z))
  | _=>none)
 | .block id x,K,Z=>bH X x (aj id K) Z
 | .scope x,K,Z=>bH X x K Z
 | .loop x,K,Z=>X.L (jy X.E X.m0 x Z).1 (jy X.E X.m0 x Z).2 x K (Z.gc (jy X.E X.m0 x Z).1 (jy X.E X.m0 x Z).2)
 | _,_,_=>none
section
variable {ι:Type} (Good:(ι->R)->Prop)
structure J7:Prop where
 const:∀ c:R,Good fun _=>c
 bind:∀ (c:ι->R) (k:ι->PV->aI->R),Good c->(∀ r h,Good fun i=>k i r h)->Good fun i=>match c i with | some (r,h)=>k i r h | none=>none
variable {Good} (F:J7 Good)
theorem J7.no (F:J7 Good):Good fun _=>none:=F.const none
include F
theorem gp {b:Bool} {A:ι->R} (h:Good A):Good fun i=>chk b (A i):=by
 cases b
 .exact F.no
 .exact h
theorem AY {b:Bool} {A B:ι->R} (h:Good A) (h':Good B):Good fun i=>aA b (A i) (B i):=by
 cases b
 .exact h'
 .exact h
open Classical in
theorem bBP {A B:ι->R} (h:Good A) (h':Good B):Good fun i=>bn (A i) (B i) :=
 F.bind A (fun i r h1=>match B i with | some (r',h')=>(match PV.og r r'&&Dt h1 h' with | true=>some (r,h1) | false=>if r=r'/\h1=h' then some (r,h1) else none) | none=>none) h
  (fun r h1=>F.bind B (fun _ r' h'=>(match PV.og r r'&&Dt h1 h' with | true=>some (r,h1) | false=>if r=r'/\h1=h' then some (r,h1) else none)) h' fun r' h'=>F.const _)
theorem aJ0 {α:Type} {f:ι->α->R} (h:∀ a,Good fun i=>f i a):∀ l:List α,Good fun i=>Qp (l.map (f i))
 | []=>F.no
 | x::l=>by
  cases l with
  | nil=>exact h x
  | cons y l=>exact bBP F (h x) (aJ0 h (y::l))
theorem gK {E:AE} {dst:Option Nat} {p:PV} {K:ι->ASt->R} {Z:ASt} (h:∀ Z,Good fun i=>K i Z):Good fun i=>dG E dst p (K i) Z:=by
 unfold dG; split
 .exact h _
 .exact F.no
theorem aJA {E:AE} {dst:Option Nat} {p:Option PV} {K:ι->ASt->R} {Z:ASt} (h:∀ Z,Good fun i=>K i Z):Good fun i=>UR E dst p (K i) Z:=by
 cases p
 .exact F.no
 .exact gK F h
theorem aJ7 {es:bSH} {n:Int} {K:ι->PV->R} (h:∀ p,Good fun i=>K i p):Good fun i=>dQ es n (K i):=by
 unfold dQ; split
 .split
  .exact h _
  .exact F.no
 .exact F.no
theorem bB' {es:bSH} {n:Nat} {K:ι->PV->R} (h:∀ p,Good fun i=>K i p):Good fun i=>U9 es n (K i):=by
 unfold U9; split
 .exact h _
 .exact F.no
theorem bBY {s:Option IntKind} {l:bSH} {q:PV} {A:ι->PV->R} {B:ι->R} (h:∀ p,Good fun i=>A i p) (h':Good B):Good fun i=>Ob s l q (A i) (B i):=by
 unfold Ob; split
 .exact h _
 .exact h'
 .exact F.no
theorem aJ8 {s:Option IntKind} {q:PV} {A:ι->PV->R} {B:ι->R} (h:∀ p,Good fun i=>A i p) (h':Good B):∀ (l:bSH),Good fun i=>KH s l q (A i) (B i)
 | k::v::L=>by
  simp only[KH];split
  .exact AY F (h _) (aJ8 h h' L)
  .exact F.no
 | []=>h'
 | [_]=>F.no
theorem bC0 {es:bSH} {K:ι->Bool->R} (h:∀ b,Good fun i=>K i b):Good fun i=>IK es (K i):=by
 have:=F.bind (fun i=>K i false) (fun i r hh=>match es.isEmpty with | false=>some (r,hh) | true=>match K i true with | some (r',h')=>JM (r,hh) (r',h') | none=>none) (h false) (fun r hh=>by
  cases es.isEmpty
  .exact F.const _
  .exact F.bind (fun i=>K i true) (fun _ r' h'=>JM (r,hh) (r',h')) (h true) fun r' h'=>F.const _)
 exact this
theorem bBQ {s:ByteArray} {n:Int} {K:ι->Int->R} (h:∀ p,Good fun i=>K i p):Good fun i=>vz s n (K i):=by
 unfold vz; split
 .split
  .exact h _
  .exact F.no
 .exact F.no
theorem a4C {C:ι->Cal} {g:FuncId} {args:bSH} {K:ι->PV->R} (hC:∀ g args h,Good fun i=>C i g args h) (h:∀ p,Good fun i=>K i p):Good fun i=>jF (C i) g args (K i):=by
 have:=F.bind (fun i=>C i g args []) (fun i r h=>match h with | []=>K i r | _=>none) (hC _ _ _) (fun r hh=>by
  cases hh
  .exact h r
  .exact F.no)
 refine cast (congrArg Good (funext fun i => ?_)) this;unfold jF;cases C i g args [] with
 | none=>rfl
 | some x=>obtain ⟨r,hh⟩:=x; cases hh<;>rfl
theorem YP {C:ι->Cal} {g:FuncId} {args:bSH} {hh:aI} {K:ι->PV->aI->R} (hC:∀ g args h,Good fun i=>C i g args h) (h:∀ p q,Good fun i=>K i p q):Good fun i=>AQ (C i) g args hh (K i) :=F.bind (fun i=>C i g args hh) K (hC _ _ _) h
def XE.up (X:XE) (C:Cal) (L:List Nat->Nat->Code->(AX->ASt->R)->ASt->R):XE := { X with C:=C,L:=L }
def yh (V:TypeId->PV->(PV->R)->R):Prop:=∀ t p,(∀ K,V t p K=K p)\/(∀ K,V t p K=none)
def uF (W:FuncId->aI->PV->aI->(PV->aI->R)->R):Prop:=∀ g h r h',(∀ K,W g h r h' K=K r h')\/(∀ K,W g h r h' K=none)
variable {X:XE} {C:ι->Cal} {L:ι->List Nat->Nat->Code->(AX->ASt->R)->ASt->R} (hV:yh X.V) (hW:uF X.W) (hC:∀ g args h,Good fun i=>C i g args h)
 (hL:∀ (l:List Nat) (m:Nat) (x:Code) (K:ι->AX->ASt->R) (Z:ASt),(∀ e Z,Good fun i=>K i e Z)->Good fun i=>L i l m x (K i) Z)
theorem aJ5 {p:PV} {K:ι->Bool->R} (h:∀ b,Good fun i=>K i b):Good fun i=>Rn p (K i):=by
 unfold Rn;split
 .exact h _
 .exact h _
 .exact F.no
theorem bBV {p:PV} {K:ι->FuncId->bSH->bSH->R} (h:∀ g a b,Good fun i=>K i g a b):Good fun i=>NV p (K i):=by
 unfold NV;split
 .exact h _ _ _
 .exact F.no
theorem aJ1 {n:Int} {K:ι->PV->R} (h:∀ p,Good fun i=>K i p):∀ (cs:bSH) (k:Nat),Good fun i=>Qw cs k n (K i)
 | [],_=>F.no
 | p::r,k=>AY F (h p) (aJ1 h r (k+1))
theorem bBU {o:Oper} {K:ι->ASt->R} {Z:ASt} (h:∀ Z,Good fun i=>K i Z):Good fun i=>o7 (X.up (C i) (L i)) o (K i) Z:=by
 unfold o7;show Good fun i=>match bY X.E o Z with | some (p,Z1)=>dG X.E o.dst p (K i) Z1 | none=>none
 split
 .exact gK F h
 .exact F.no
include hV in
theorem OA {t:TypeId} {p:PV} {K:ι->PV->R} (h:∀ p,Good fun i=>K i p):Good fun i=>X.V t p (K i):=by
 rcases hV t p with e | e
 .simp only[e]; exact h p
 .simp only[e]; exact F.no
include hW in
theorem OB {g:FuncId} {hh h':aI} {r:PV} {K:ι->PV->aI->R} (h:∀ p q,Good fun i=>K i p q):Good fun i=>X.W g hh r h' (K i):=by
 rcases hW g hh r h' with e | e
 .simp only[e]; exact h _ _
 .simp only[e]; exact F.no
theorem bC3 {dst:Option Nat} {sz:Nat} {es:bSH} {lo hi:Option Operand} {K:ι->ASt->R} {Z:ASt} (h:∀ Z,Good fun i=>K i Z):Good fun i=>JR (X.up (C i) (L i)) dst sz es lo hi (K i) Z:=by
 cases lo<;>cases hi<;>simp only[JR,XE.up]
 .exact gK F h
 all_goals
  split
  .exact gp F (gK F h)
  .exact F.no
theorem bC4 {dst:Option Nat} {s:ByteArray} {lo hi:Option Operand} {K:ι->ASt->R} {Z:ASt} (h:∀ Z,Good fun i=>K i Z):Good fun i=>JS (X.up (C i) (L i)) dst s lo hi (K i) Z:=by
 cases lo<;>cases hi<;>simp only[JS,XE.up]
 .exact gK F h
 all_goals
  split
  .exact gp F (gK F h)
  .exact F.no
theorem bC2 {dst:Option Nat} {t:TypeId} {i off n sz:Nat} {lo hi:Option Operand} {K:ι->ASt->R} {Z:ASt} (h:∀ Z,Good fun i=>K i Z):Good fun j=>Rh (X.up (C j) (L j)) dst t i off n sz lo hi (K j) Z:=by
 simp only[Rh,XE.up];split
 .split
  .split
   .split
    .exact gp F (gK F h)
    .exact F.no
   .split
    .exact gp F (AY F (gK F h) (gK F h))
    .exact F.no
   .exact F.no
  .exact F.no
 .exact F.no
theorem bBX {dst:Option Nat} {t:TypeId} {l c:Operand} {K:ι->ASt->R} {Z:ASt} (h:∀ Z,Good fun i=>K i Z):Good fun j=>X9 (X.up (C j) (L j)) dst t l c (K j) Z:=by
 simp only[X9,XE.up];split
 .split
  .refine gp F ?_;split
   .exact gK F h
   .split
    .exact gK F h
    .exact F.no
  .exact F.no
 .exact F.no
theorem bBR {dst:Option Nat} {t:TypeId} {x:Operand} {K:ι->ASt->R} {Z:ASt} (h:∀ Z,Good fun i=>K i Z):Good fun j=>X7 (X.up (C j) (L j)) dst t x (K j) Z:=by
 simp only[X7,XE.up];split
 .split
  .split
   .exact gp F (h _)
   .exact F.no
  .exact F.no
 .exact h _
 .exact F.no
theorem aJB {dst:Option Nat} {t:TypeId} {m q x:PV} {K:ι->ASt->R} {Z:ASt} (h:∀ Z,Good fun i=>K i Z):Good fun j=>NQ (X.up (C j) (L j)) dst t m q x (K j) Z:=by
 simp only[NQ,XE.up];split
 .split
  .split
   .split
    .exact gp F (h _)
    .exact F.no
   .exact F.no
  .exact F.no
 .exact F.no
theorem bBZ {dst:Option Nat} {b:Bool} {q:Option PV} {K:ι->ASt->R} {Z:ASt} (h:∀ Z,Good fun i=>K i Z):Good fun j=>XA (X.up (C j) (L j)) dst b q (K j) Z:=by
 simp only[XA,XE.up];split
 .split
  .split
   .split
    .exact gp F (AY F (gK F h) (gK F h))
    .exact F.no
   .exact F.no
  .exact F.no
 .exact F.no
include hV in
theorem bBW {dst:Option Nat} {t:TypeId} {ok:Bool} {m q:PV} {K:ι->ASt->R} {Z:ASt} (h:∀ Z,Good fun i=>K i Z):Good fun j=>X8 (X.up (C j) (L j)) dst t ok m q (K j) Z:=by
 simp only[X8,XE.up];split
 .split
  .split
   .split
    .split
     .exact aJ8 F (fun p=>gK F h) (gK F h) _
     .exact bBY F (fun p=>OA F hV fun q=>gK F h) (gK F h)
    .exact F.no
   .exact F.no
  .exact F.no
 .exact F.no
include hV in
theorem aJ3 {o:Oper} {K:ι->ASt->R} {Z:ASt} (h:∀ Z,Good fun i=>K i Z):Good fun i=>NP (X.up (C i) (L i)) o (K i) Z:=by
 have hg:=fun {Z:ASt}=>bBU F (X:=X) (C:=C) (L:=L) (o:=o) (Z:=Z) h
 unfold NP;simp only[XE.up];split
 .split
  .split
   .exact gp F (gK F h)
   .exact F.no
  .exact hg
 .split
  .simp only[a1Q];split
   .split
    .exact aJ7 F fun p=>OA F hV fun q=>gK F h
    .exact F.no
   .exact F.no
  .split
   .split
    .split
     .exact gp F (gK F h)
     .exact F.no
    .exact F.no
   .exact hg
  .split
   .split
    .exact gp F (gK F h)
    .exact F.no
   .exact hg
  .split
   .refine gp F (aJ7 F fun p=>OA F hV fun q => ?_);split
    .exact gK F h
    .exact F.no
   .exact hg
  .exact hg
 .split
  .split
   .split
    .split
     .exact gp F (OA F hV fun q=>gK F h)
     .split
      .exact bB' F fun p=>OA F hV fun q=>gK F h
      .exact F.no
    .exact F.no
   .exact F.no
  .split
   .exact gp F (gK F h)
   .exact hg
 .split
  .split
   .split
    .split
     .split
      .exact gp F (h _)
      .exact F.no
     .split
      .exact gp F (h _)
      .exact F.no
    .exact F.no
   .exact F.no
  .split
   .split
    .split
     .split
      .exact gp F (h _)
      .exact F.no
     .exact F.no
    .exact F.no
   .exact hg
 .split
  .split
   .exact bBQ F fun p=>gK F h
   .exact F.no
  .split
   .split
    .refine gp F (aJ1 F (fun p => ?_) _ _);split
     .exact gK F h
     .exact F.no
    .exact F.no
   .exact hg
  .exact hg
 .split
  .exact AY F (aJA F h) (aJA F h)
  .exact F.no
 .split
  .split
   .split
    .exact bC3 F h
    .exact F.no
   .exact F.no
  .split
   .exact bC4 F h
   .exact F.no
  .exact bC2 F h
  .exact hg
 .split
  .split
   .split
    .exact gp F (gK F h)
    .exact F.no
   .exact F.no
  .exact F.no
 .exact bBX F h
 .split
  .exact bBW F hV h
  .exact F.no
 .split
  .exact aJB F h
  .exact F.no
 .split
  .exact F.no
  .split
   .exact aJB F h
   .exact F.no
 .exact bBZ F h
 .split
  .split
   .split
    .exact gp F (gK F h)
    .exact F.no
   .exact hg
  .exact hg
 .split
  .exact gp F (gK F h)
  .exact hg
 .split
  .simp only[NL]; split
   .exact gp F (gK F h)
   .exact F.no
  .simp only[NL]; split
   .exact gp F (gK F h)
   .exact F.no
  .exact gp F (gK F h)
  .exact gp F (gK F h)
  .exact gp F (gK F h)
  .simp only[NM]; split
   .exact aJ5 F fun b=>gK F h
   .exact F.no
  .simp only[NM]; split
   .exact aJ5 F fun b=>gK F h
   .exact F.no
  .exact hg
 .split
  .split
   .exact bBR F h
   .exact F.no
  .split
   .simp only[a1P];split
    .split
     .split
      .exact gp F (gK F h)
      .exact F.no
     .exact F.no
    .split
     .split
      .exact gp F (gK F h)
      .exact F.no
     .exact F.no
    .exact F.no
   .exact F.no
  .split
   .split
    .exact gp F hg
    .exact gp F hg
    .simp only[a1O];split
     .split
      .split
       .exact gp F (gK F h)
       .exact F.no
      .exact F.no
     .exact F.no
    .exact gp F hg
    .split
     .exact gp F hg
     .exact F.no
    .exact F.no
   .exact F.no
  .exact hg
  .exact F.no
 .exact hg
include hW hC in
theorem bBT {draw:Bool} {o:Oper} {f:Operand} {args:List Operand} {K:ι->ASt->R} {Z:ASt} (h:∀ Z,Good fun i=>K i Z):Good fun i=>JP (X.up (C i) (L i)) draw o f args (K i) Z:=by
 have hH:∀ {dst:Option Nat} {g:FuncId} {full:bSH} {ids:List Nat},Good fun i=>zK (X.up (C i) (L i)) dst g full ids (K i) Z:=fun {dst g full ids}=>by
  simp only[zK];split
  .exact YP F hC fun r h'=>OB F hW fun p q=>gK F h
  .exact F.no
 unfold JP;simp only[XE.up] at hH ⊢;have hP:∀ {dst:Option Nat} {g:FuncId} {full:bSH} {ids:List Nat},Good fun i=>JQ (X.up (C i) (L i)) dst g full ids (K i) Z:=fun {dst g full ids}=>by
  simp only[JQ];split
  .exact gp F (YP F hC fun r h'=>OB F hW fun p q=>gp F (gK F h))
  .exact F.no
 simp only[XE.up] at hP;split
 .split
  .split
   .exact hP
   .exact hH
  split
  .refine a4C F hC fun r=>OB F hW fun p q => ?_
   cases (!draw&&dC X.E.mu o.dst)
   .cases PV.flat p
    .exact F.no
    .exact gK F h
   .simp only[a1U];split
    .exact gp F (gK F h)
    .exact AY F (gp F (gK F h)) (gK F h)
    .exact F.no
  .cases draw
   .cases dC X.E.ln o.dst
    .cases dC X.E.sy o.dst
     .exact hH
     .simp only[JQ];split
      .exact gp F (YP F hC fun r h'=>OB F hW fun p q=>gp F (gK F h))
      .exact F.no
    .simp only[a1R];refine gp F (a4C F hC fun r=>OB F hW fun p q => ?_);cases PV.uu p
     .exact F.no
     .exact gK F h
   .dsimp only;split
    .exact hH
    .exact F.no
 .exact F.no
include hV hW hC in
theorem aJ2 {draw:Bool} {o:Oper} {K:ι->ASt->R} {Z:ASt} (h:∀ Z,Good fun i=>K i Z):Good fun i=>H9 (X.up (C i) (L i)) draw o (K i) Z:=by
 unfold H9;split
 .simp only[XE.up];split
  .simp only[X6];split
   .refine bBV F fun g a b=>gp F (a4C F hC fun r=>OA F hV fun r' => ?_)
    split
    .exact gK F h
    .exact F.no
   .exact F.no
  .exact bBT F hW hC h
 .cases draw
  .simp only[XE.up];split
   .exact bC0 F fun b=>gK F h
   .exact aJ3 F hV h
  .exact aJ3 F hV h
include hV hW hC in
theorem TE {draw:Bool} {ops:Array Oper}:∀ (l:List Oper) {K:ι->ASt->R} {Z:ASt},(∀ Z,Good fun i=>K i Z)->Good fun i=>ji (X.up (C i) (L i)) draw ops l (K i) Z
 | [],K,Z,h=>h Z
 | o::l,K,Z,h=>by
  have ih:∀ Z,Good fun i=>ji (X.up (C i) (L i)) draw ops l (K i) Z:=fun Z=>TE l h
  have hp:∀ {p:PV} {Z:ASt},Good fun i=>dG X.E o.dst p (ji (X.up (C i) (L i)) draw ops l (K i)) Z:=gK F ih
  have hgd:∀ (d:Nat) (want v:Bool),Good fun i=>HY (X.up (C i) (L i)) draw o d want v (ji (X.up (C i) (L i)) draw ops l (K i)) Z:=fun d want v=>by
   unfold HY;split
   .exact aJ2 F hV hW hC ih
   .exact hp
  simp only[ji];split
  .exact aJ2 F hV hW hC ih
  .split
   .exact hp
   .split
    .exact AY F (hgd _ _ _) (hgd _ _ _)
    .exact hp
    .exact F.no
omit F in
theorem TF {k:ι->ASt->R} {K:ι->AX->ASt->R} (h:∀ Z,Good fun i=>k i Z) (h':∀ e Z,Good fun i=>K i e Z) (e:AX) (Z:ASt):Good fun i=>wX (k i) (K i) e Z:=by
 cases e
 .exact h Z
 .exact h' _ _
 .exact h' _ _
omit F in
theorem a4B {id:Nat} {K:ι->AX->ASt->R} (h':∀ e Z,Good fun i=>K i e Z) (e:AX) (Z:ASt):Good fun i=>aj id (K i) e Z:=by
 cases e with
 | normal=>exact h' _ _
 | ret=>exact h' _ _
 | exit j =>
  simp only[aj]; split
  .exact h' _ _
  .exact h' _ _
theorem ou {k:ι->ASt->R} (h:∀ Z,Good fun i=>k i Z):∀ (ks:List Nat) {Z:ASt},Good fun i=>mZ (k i) ks Z
 | [],Z=>h Z
 | d::ds,Z=>by
  simp only[mZ];split
  .split
   .split
    .exact gp F (ou h ds)
    .exact ou h ds
   .exact ou h ds
  split
  .split
   .split
    .split
     .split
      .exact gp F (ou h ds)
      .exact ou h ds
     .exact ou h ds
    .exact ou h ds
   .exact ou h ds
  split
  .split
   .split
    .split
     .exact AY F (ou h ds) (ou h ds)
     .exact ou h ds
    .exact ou h ds
   .exact ou h ds
  split
  .split
   .split
    .exact gp F (ou h ds)
    .exact AY F (ou h ds) (ou h ds)
   .exact ou h ds
  split
  .split
   .split
    .exact gp F (ou h ds)
    .exact ou h ds
   .exact ou h ds
  .exact ou h ds
include hV hW hC in
theorem aJ4 {ops:Array Oper} {K:ι->ASt->R} (h:∀ Z,Good fun i=>K i Z):∀ (fuel:Nat) (B:Array Bool) (Z:ASt),Good fun i=>F5 (X.up (C i) (L i)) ops (K i) fuel B Z
 | 0,B,Z=>by
  unfold F5;cases Region.ready .any ops B with
  | nil=>exact h Z
  | cons _ _=>exact F.no
 | fuel+1,B,Z=>by
  unfold F5;cases Region.ready .any ops B with
  | nil=>exact h Z
  | cons j js =>
   refine aJ0 F (f:=fun i k=>match ops[k]? with
    | none=>none
    | some o=>ji (X.up (C i) (L i)) true ops [o] (F5 (X.up (C i) (L i)) ops (K i) fuel (B.setIfInBounds k true)) Z) (fun k => ?_) (match Hf X.E ops B (j::js) with | some j => [j] | none=>j::js)
   cases ops[k]? with
   | none=>exact F.no
   | some o=>exact TE F hV hW hC [o] fun Z=>aJ4 h fuel _ Z
include hV hW hC hL in
theorem E5:∀ (c:Code) {K:ι->AX->ASt->R} {Z:ASt},(∀ e Z,Good fun i=>K i e Z)->Good fun i=>bH (X.up (C i) (L i)) c (K i) Z
 | .skip,K,Z,h=>h _ _
 | .label _,K,Z,h=>h _ _
 | .exit _,K,Z,h=>h _ _
 | .ret,K,Z,h=>h _ _
 | .region _ ops draw,K,Z,h=>by
  simp only[bH];cases draw
  .exact TE F hV hW hC ops.toList (Z:=Z.head X.E) fun Z=>h .normal Z
  .show Good fun i=>match okD X.E ops with | true=>ji (X.up (C i) (L i)) true ops ops.toList (K i .normal) (Z.head X.E) | false=>aDZ (X.up (C i) (L i)) ops (K i .normal) (Z.head X.E)
   split
   .exact TE F hV hW hC ops.toList (Z:=Z.head X.E) fun Z=>h .normal Z
   .exact aJ4 F hV hW hC (fun Z=>h .normal Z) _ _ _
 | .seq x y,K,Z,h=>by
  simp only[bH];refine E5 x fun e Z=>TF (fun Z => ?_) h e Z
  show Good fun i=>um X.E X.m0 y (bH (X.up (C i) (L i)) y (K i)) Z
  have hj:∀ Z,Good fun i=>ED X.E X.m0 y (bH (X.up (C i) (L i)) y (K i)) Z:=fun Z=>by
   unfold ED;split
   .refine gp F ?_;split
    .exact E5 y h
    .exact F.no
   .exact E5 y h
  unfold um;split
  .exact ou F hj _
  .exact hj _
 | .cond c x y,K,Z,h=>by
  simp only[bH];split
  .split
   .exact AY F (E5 x h) (E5 y h)
   .exact AY F (E5 x h) (E5 y h)
  .exact F.no
 | .block id x,K,Z,h=>by simp only[bH]; exact E5 x fun e Z=>a4B h e Z
 | .scope x,K,Z,h=>by simp only[bH]; exact E5 x h
 | .loop x,K,Z,h=>hL (jy X.E X.m0 x Z).1 (jy X.E X.m0 x Z).2 x K (Z.gc (jy X.E X.m0 x Z).1 (jy X.E X.m0 x Z).2) h
 | .rangeFunc _ _ _ _,K,Z,h=>F.no
 | .goto _,K,Z,h=>F.no
 | .refuse _,K,Z,h=>F.no
end
section
variable {X:XE} {K:ASt->R} {Z:ASt} {v:PV×aI} {o:Oper} {ops:Array Oper}
theorem uJ {E:AE} {dst:Option Nat} {p:PV} (h:dG E dst p K Z=some v):ig E dst p Z fun Z'=>K Z'=some v:=by
 unfold dG at h; unfold ig;split at h
 .rename_i e; rw[e]; exact h
 .cases h
theorem gJ {b:Bool} {A:R} (h:chk b A=some v):b=true/\A=some v:=by
 cases b
 .cases h
 .exact ⟨rfl,h⟩
theorem iL {E:AE} {p:PV} {Z1:ASt} (h:bY E o Z=some (p,Z1)) (hs:jQ E o Z) (hp:dG E o.dst p K Z1=some v):yX E o (fun Z'=>K Z'=some v) Z:=by unfold yX; rw[h]; exact ⟨hs,uJ hp⟩
theorem rF (hs:jQ X.E o Z) (h:o7 X o K Z=some v):yX X.E o (fun Z'=>K Z'=some v) Z:=by
 unfold o7 at h;split at h
 .rename_i p Z1 e; exact iL e hs h
 .cases h
theorem ZT {d:Nat} {b:Bool} (h:Z.rd (.tmp d)=some (.bool b)):Z.lit d b=Z:=by
 have:bU d Z.s=some (.bool b):=by
  simp only[ASt.rd,ASt.ev] at h;cases hp:bU d Z.s with
  | none=>rw[hp] at h; cases h
  | some p =>
   rw[hp] at h;cases p<;>simp[PV.un] at h
   rw[h]
 unfold ASt.lit; rw[a9V this]
theorem Pi {V:TypeId->PV->(PV->R)->R} (hV:yh V) {t:TypeId} {p:PV} {K:PV->R} (h:V t p K=some v):K p=some v:=by
 rcases hV t p with e | e
 .rw[e K] at h; exact h
 .rw[e K] at h; cases h
theorem UK {W:FuncId->aI->PV->aI->(PV->aI->R)->R} (hW:uF W) {g:FuncId} {hh h':aI} {r:PV} {K:PV->aI->R} (h:W g hh r h' K=some v):K r h'=some v:=by
 rcases hW g hh r h' with e | e
 .rw[e K] at h; exact h
 .rw[e K] at h; cases h
theorem aLX {es:bSH} {n:Int} {K:PV->R} (h:dQ es n K=some v):0<=n/\∃ e,es[n.toNat]? = some e/\K e=some v:=by
 unfold dQ at h;split at h
 .rename_i hn;split at h
  .rename_i e he; exact ⟨hn,e,he,h⟩
  .cases h
 .cases h
theorem bH8 {es:bSH} {n:Nat} {K:PV->R} (h:U9 es n K=some v):∃ e,es[n]? = some e/\K e=some v:=by
 unfold U9 at h;split at h
 .rename_i e he; exact ⟨e,he,h⟩
 .cases h
theorem bHB {es:bSH} {K:Bool->R} (h:IK es K=some v):K false=some v/\(es = []->K true=some v):=by
 unfold IK at h;split at h
 .rename_i r hh h0;split at h
  .rename_i he;cases h;exact ⟨h0,fun e=>by subst e; simp at he⟩
  .split at h
   .rename_i r' h' h1;obtain ⟨e1,e2⟩:=aVH h;subst e1;exact ⟨h0,fun _=>by rw[h1,<- e2]⟩
   .cases h
 .cases h
theorem aES {p:PV} {K:Bool->R} (h:Rn p K=some v):∃ b,K b=some v/\((b=false/\∃ f a c,p = .func f a c)\/(b=true/\p = .raw .nilFunc)):=by
 unfold Rn at h;split at h
 .exact ⟨_,h,.inl ⟨rfl,_,_,_,rfl⟩⟩
 .exact ⟨_,h,.inr ⟨rfl,rfl⟩⟩
 .cases h
theorem aWL {p:PV} {K:FuncId->bSH->bSH->R} (h:NV p K=some v):∃ g a c,p = .func (.func g) a c/\K g a c=some v:=by
 unfold NV at h;split at h
 .exact ⟨_,_,_,rfl,h⟩
 .cases h
theorem aCQ {n:Int} {K:PV->R}:∀ {cs:bSH} {k:Nat},Qw cs k n K=some v->∃ j p,n=((k+j:Nat):Int)/\cs[j]? = some p/\K p=some v
 | [],_,h=>by cases h
 | p::r,k,h=>by
  rw[Qw] at h;cases hb:n==(k:Int) with
  | true=>rw[hb] at h; exact ⟨0,p,by simpa using hb,rfl,h⟩
  | false =>rw[hb] at h;obtain ⟨j,q,e1,e2,e3⟩:=aCQ (cs:=r) (k:=k+1) h;exact ⟨j+1,q,by rw[e1]; congr 1; omega,by simpa using e2,e3⟩
theorem aET {t:TypeId} {p:PV} {P:Program} (ht:OH P t=true) {b:Bool} (hp:(b=false/\∃ f a c,p = .func f a c)\/(b=true/\p = .raw .nilFunc)) (pos:Bool):BX P (match pos with | true => .eql | false => .neq) t p (.raw .nilFunc)=some (.bool (b==pos)):=by rcases hp with ⟨rfl,f,a,c,rfl⟩ | ⟨rfl,rfl⟩<;>cases pos<;>simp[BX,ht,CJ]
theorem aTK {s:ByteArray} {n:Int} {K:Int->R} (h:vz s n K=some v):0<=n/\∃ b,s[n.toNat]? = some b/\K b.toNat=some v:=by
 unfold vz at h;split at h
 .rename_i hn;split at h
  .rename_i e he; exact ⟨hn,e,he,h⟩
  .cases h
 .cases h
theorem aMB {s:Option IntKind} {q:PV} {A:PV->R} {B:R} {v:PV×aI}:∀ {L:bSH},KH s L q A B=some v->(∃ p,xY s L q=some (some p)/\A p=some v)\/(xY s L q=some none/\B=some v)
 | k::x::L,h=>by
  simp only[KH] at h;split at h
  .rename_i b hb;cases b with
   | true=>exact .inl ⟨x,by simp only[xY,hb],h⟩
   | false =>
    have h:KH s L q A B=some v:=h;rcases aMB h with ⟨p,h1,h2⟩ | ⟨h1,h2⟩
    .exact .inl ⟨p,by simp only[xY,hb]; exact h1,h2⟩
    .exact .inr ⟨by simp only[xY,hb]; exact h1,h2⟩
  .cases h
 | [],h => .inr ⟨rfl,h⟩
 | [_],h=>by cases h
theorem bM1 (hc:∀ c,o.op ≠ .call c) (E:AE):jQ E o Z:=by obtain ⟨dst,op,ty,pos,af,g⟩:=o;cases op<;>first | trivial | (exfalso; exact hc _ rfl)
theorem bM6 {t:TypeId} {dst:Option Nat} {sz:Nat} {es:bSH} {ow:Bool} {lo hi:Option Operand} {x:Operand} {I:TI} (ht:jh X.E.P t=some I) (hI:I.size=sz) (hx:Z.rd x=some (.sl ow sz es)) (h:JR X dst sz es lo hi K Z=some v) :
 ∃ p,pop X.E.P Z.rd (.slice t x lo hi none)=some p/\dG X.E dst p K Z=some v:=by
 have hsz:(jh X.E.P t).map TI.size=some sz:=by rw[ht]; simp[hI]
 cases lo with
 | none =>
  cases hi with
  | none=>exact ⟨_,by simp only[pop,hx,vF]; rw[aJ ⟨hsz,by omega,by omega,by omega⟩]; simp,h⟩
  | some b =>
   simp only[JR] at h;split at h
   .rename_i k n hb;obtain ⟨h1,h2⟩:=gJ h;simp only[au,iy] at h1;exact ⟨_,by simp only[pop,hx,hb,xA,vF]; rw[aJ ⟨hsz,by omega,by omega,by omega⟩]; simp,h2⟩
   .cases h
 | some a =>
  cases hi with
  | none =>
   simp only[JR] at h;split at h
   .rename_i k n hb;obtain ⟨h1,h2⟩:=gJ h;simp only[au,iy] at h1;exact ⟨_,by simp only[pop,hx,hb,xA,vF]; rw[aJ ⟨hsz,by omega,by omega,by omega⟩]; simp,h2⟩
   .cases h
  | some b =>
   simp only[JR] at h;split at h
   .rename_i k n k' n' ha hb;obtain ⟨h1,h2⟩:=gJ h;simp only[au,iy] at h1;exact ⟨_,by simp only[pop,hx,ha,hb,xA,vF]; rw[aJ ⟨hsz,by omega,by omega,by omega⟩],h2⟩
   .cases h
theorem bM7 {t:TypeId} {dst:Option Nat} {s:ByteArray} {lo hi:Option Operand} {x:Operand} (ht:uC X.E.P t=true) (hx:Z.rd x=some (.str s)) (h:JS X dst s lo hi K Z=some v) :
 ∃ p,pop X.E.P Z.rd (.slice t x lo hi none)=some p/\dG X.E dst p K Z=some v:=by
 cases lo with
 | none =>
  cases hi with
  | none=>exact ⟨_,by simp only[pop,hx,vF]; rw[aJ ⟨ht,by omega,by omega,by omega⟩]; rfl,h⟩
  | some b =>
   simp only[JS] at h;split at h
   .rename_i k n hb;obtain ⟨h1,h2⟩:=gJ h;simp only[au,iy] at h1;exact ⟨_,by simp only[pop,hx,hb,xA,vF]; rw[aJ ⟨ht,by omega,by omega,by omega⟩]; rfl,h2⟩
   .cases h
 | some a =>
  cases hi with
  | none =>
   simp only[JS] at h;split at h
   .rename_i k n hb;obtain ⟨h1,h2⟩:=gJ h;simp only[au,iy] at h1;exact ⟨_,by simp only[pop,hx,hb,xA,vF]; rw[aJ ⟨ht,by omega,by omega,by omega⟩]; rfl,h2⟩
   .cases h
  | some b =>
   simp only[JS] at h;split at h
   .rename_i k n k' n' ha hb;obtain ⟨h1,h2⟩:=gJ h;simp only[au,iy] at h1;exact ⟨_,by simp only[pop,hx,ha,hb,xA,vF]; rw[aJ ⟨ht,by omega,by omega,by omega⟩],h2⟩
   .cases h
theorem bM5 {t:TypeId} {dst:Option Nat} {i off n sz:Nat} {lo hi:Option Operand} {x:Operand} (hx:Z.rd x=some (.slh i off n sz)) (h:Rh X dst t i off n sz lo hi K Z=some v) :
 ∃ p,pop X.E.P Z.rd (.slice t x lo hi none)=some p/\dG X.E dst p K Z=some v:=by
 unfold Rh at h;split at h
 .rename_i I hT;split at h
  .rename_i hz;simp only[au,wz] at hz;have hsz:=lm hz.1;have hm:(jh X.E.P t).map TI.size=some sz:=by rw[hT]; simp[hsz]
   split at h
   .rename_i hh;split at h
    .rename_i k b hb;obtain ⟨h1,h2⟩:=gJ h;simp only[au,iy] at h1;refine ⟨_,?_,h2⟩;simp only[pop,hx,hb,xA,vF,Aj];rw[aJ ⟨hm,Int.le_refl _,h1.1.1,h1.1.2,hz.2⟩,aJ (by omega)];simp
    .cases h
   .rename_i l;split at h
    .rename_i k a ha;obtain ⟨h1,h2⟩:=gJ h;simp only[au,iy] at h1;simp only[pop,hx,ha,xA,vF,Aj];rw[aJ ⟨hm,h1.1,h1.2,Int.le_refl _,hz.2⟩];by_cases hl:a<(n:Int)
     .rw[decide_eq_true hl] at h2;exact ⟨_,by rw[aJ hl]; simp,h2⟩
     .rw[decide_eq_false hl] at h2;exact ⟨_,by rw[aK hl],h2⟩
    .cases h
   .cases h
  .cases h
 .cases h
theorem aCR {P:Program} {t:TypeId} {m:Nat} {e:TypeId} (h:Vy P t=some (m,e)):∃ I,Ew P t=some (m,I)/\I.size=1/\I.agg=false:=by
 unfold Vy at h;split at h
 .rename_i m' e' hu;split at h
  .rename_i I hI;split at h
   .rename_i hc;cases h;simp only[au,y8] at hc;exact ⟨I,by simp[Ew,hu,hI],lm hc.1,hc.2⟩
   .cases h
  .cases h
 .cases h
theorem a1S (hV:yh X.V) (hc:ul o=none) (h:NP X o K Z=some v):yX X.E o (fun Z'=>K Z'=some v) Z:=by
 obtain ⟨dst,op,ty,pos,af,g⟩:=o;unfold NP at h;simp only at h;split at h
 .rename_i s d x;have hs:jQ X.E ⟨dst,.convert s d x,ty,pos,af,g⟩ Z:=trivial;split at h
  .rename_i ow sz es hx;split at h
   .rename_i ht;simp only[au] at ht;obtain ⟨h1,h2⟩:=gJ h;exact iL (by simp only[bY,pop,hx,xA,RN]; rw[aJ ⟨ht.1,ht.2,h1⟩]; rfl) hs h2
   .cases h
  .exact rF hs h
 .rename_i t x i;have hs:jQ X.E ⟨dst,.indexAddr t x i,ty,pos,af,g⟩ Z:=trivial;split at h
  .rename_i ow sz es k n hx hi;unfold a1Q at h;split at h
   .rename_i e I h1 h2;split at h
    .rename_i hI;obtain ⟨hn,p,hp,h⟩:=aLX h;have h:=Pi hV h;exact iL (by simp only[bY,pop,hx,hi,h2,sD]; rw[aJ ⟨by rw[hI],hn⟩,hp]; try rfl) hs h
    .cases h
   .cases h
  .rename_i i0 off m sz k n hx hi;split at h
   .split at h
    .rename_i I hI;split at h
     .rename_i hz;rw[bHJ] at h;obtain ⟨h1,h2⟩:=gJ h;simp only[au,iy] at h1;exact iL (p := .ptr i0 (off+n.toNat*sz)) (by simp only[bY,pop,hx,hi]; rw[aJ ⟨by rw[hI]; simp[lm hz],h1.1,h1.2⟩]; simp) hs h2
     .cases h
    .cases h
   .exact rF hs h
  .rename_i i0 off k n hx hi;split at h
   .split at h
    .rename_i m I hI;obtain ⟨h1,h2⟩:=gJ h;simp only[au,iy] at h1;exact iL (p := .ptr i0 (off+n.toNat*I.size)) (by simp only[bY,pop,hx,hi,hI]; rw[aJ ⟨h1.1,h1.2⟩]; simp) hs h2
    .cases h
   .exact rF hs h
  .rename_i cs k n hx hi;split at h
   .rename_i m e ht;obtain ⟨h1,h2⟩:=gJ h;obtain ⟨hn,p,hp,h⟩:=aLX h2;have h:=Pi hV h;obtain ⟨I,hI,hsz,hag⟩:=aCR ht;split at h
    .rename_i ho;refine iL (p := .cst p.un) (by simp only[bY,pop,hx,hi,hI];rw[aJ ⟨hn,by simpa using h1⟩];simp only[wW,hsz,hag,VT,hp,uP,tX,xA,ho,gV,sD]) hs h
    .cases h
   .exact rF hs h
  .exact rF hs h
 .rename_i t a;have hs:jQ X.E ⟨dst,.load t a,ty,pos,af,g⟩ Z:=trivial;split at h
  .rename_i hsy;have hln:dC X.E.ln dst=false:=by simp only[au,y8] at hsy;exact hsy.2
   split at h
   .rename_i I i0 off hI ha;split at h
    .rename_i cs hcs;split at h
     .rename_i hag;obtain ⟨h1,h2⟩:=gJ h;have h:=Pi hV h2;exact iL (Z1:=Z) (by simp only[bY,hI,ha,hln,Q7,nM,hcs,hag,gV]; rw[aJ (qo h1)]) hs h
     .rename_i hag;split at h
      .rename_i hc;simp only[y8] at hc;obtain ⟨q,hq,h⟩:=bH8 h;have h:=Pi hV h;exact iL (p:=q.un) (Z1:=Z) (by simp only[bY,hI,ha,hln,Q7,nM,hcs,hag,hc,hq,uP,tX]) hs h
      .cases h
    .cases h
   .cases h
  .split at h
   .rename_i e I ha hI;obtain ⟨h1,h2⟩:=gJ h;simp only[au,iy] at h1;refine iL (p:=e.un) (Z1:=Z) ?_ hs h2;simp only[bY,hI,ha,aNF,nM];split<;>simp[h1.1,h1.2]
   .exact rF hs h
 .rename_i t a x;have hs:jQ X.E ⟨dst,.store t a x,ty,pos,af,g⟩ Z:=trivial;split at h
  .rename_i hsy;have hso:∀ r,PS X.E.mu X.E.ln (zg a) r=true:=fun r=>by simp only[au,y8] at hsy;unfold PS;rw[hsy.2]
   split at h
   .rename_i I i0 off q hI ha hx;split at h
    .rename_i cs hcs;have hcl:(Z.clr x).h=Z.h:=by cases x<;>simp only[ASt.clr]<;>split<;>rfl
     split at h
     .rename_i ds;split at h
      .rename_i hc;simp only[au] at hc;obtain ⟨h1,h2⟩:=gJ h;have hsv:vG I (.ptr i0 off) (.agg ds) (Z.clr x)=some { Z.clr x with h:=(Z.clr x).h.set i0 (some (cs.take off ++ ds.map PV.un ++ cs.drop (off+I.size))) }:=by simp only[vG,hcl,hcs];rw[aJ ⟨lm hc.1,qo h1,hc.2⟩]
       exact iL (p := .tuple []) (Z1 := { Z.clr x with h:=(Z.clr x).h.set i0 (some (cs.take off ++ ds.map PV.un ++ cs.drop (off+I.size))) }) (by simp only[bY,hso,hI,ha,hx,hsv,sD]) hs (by unfold dG; simp only[ASt.put]; exact h2)
      .cases h
     .rename_i q' hna;split at h
      .rename_i hc;simp only[au] at hc;obtain ⟨h1,h2⟩:=gJ h;have hsv:vG I (.ptr i0 off) q (Z.clr x)=some { Z.clr x with h:=(Z.clr x).h.set i0 (some (cs.set off q)) }:=by
        simp only[vG,hcl,hcs];have hlt:off<cs.length:=by simpa using h1
        cases q<;>first | exact (hna _ rfl).elim | (simp[PV.one] at hc; done) | (simp[PV.one,lm hc.2,hlt])
       exact iL (p := .tuple []) (Z1 := { Z.clr x with h:=(Z.clr x).h.set i0 (some (cs.set off q)) }) (by simp only[bY,hso,hI,ha,hx,hsv,sD]) hs (by unfold dG; simp only[ASt.put]; exact h2)
      .cases h
    .cases h
   .cases h
  .split at h
   .rename_i ds hx;split at h
    .rename_i I i0 off hI ha;split at h
     .rename_i cs hcs;split at h
      .rename_i hc;simp only[au,QG] at hc;obtain ⟨hso,hc1,hc2⟩:=hc;obtain ⟨h1,h2⟩:=gJ h;have hcl:(Z.clr x).h=Z.h:=by cases x<;>simp only[ASt.clr]<;>split<;>rfl
       have hsv:vG I (.ptr i0 off) (.agg ds) (Z.clr x)=some { Z.clr x with h:=(Z.clr x).h.set i0 (some (cs.take off ++ ds.map PV.un ++ cs.drop (off+I.size))) }:=by simp only[vG,hcl,hcs];rw[aJ ⟨lm hc1,hc2,h1⟩]
       exact iL (p := .tuple []) (Z1 := { Z.clr x with h:=(Z.clr x).h.set i0 (some (cs.take off ++ ds.map PV.un ++ cs.drop (off+I.size))) }) (by simp only[bY]; rw[hso]; simp only[hI,ha,hx,hsv,sD]) hs (by unfold dG; simp only[ASt.put]; exact h2)
      .cases h
     .cases h
    .cases h
   .exact rF hs h
 .rename_i t x i;have hs:jQ X.E ⟨dst,.index t x i,ty,pos,af,g⟩ Z:=trivial;split at h
  .rename_i s k n hx hi;split at h
   .rename_i ht;obtain ⟨hn,b,hb,h⟩:=aTK h;exact iL (by simp only[bY,pop,hx,hi]; rw[aJ ⟨ht,hn⟩,hb]; try rfl) hs h
   .cases h
  .rename_i cs k n hx hi;split at h
   .split at h
    .rename_i m e hm;obtain ⟨c1,h⟩:=gJ h;simp only[au,iy] at c1;obtain ⟨I,h1,h2,h3⟩:=aCR hm;obtain ⟨j,p,e1,e2,h⟩:=aCQ h;split at h
     .rename_i ho;have ej:n.toNat=j:=by omega
      exact iL (p:=p.un) (Z1:=Z) (by simp only[bY,pop,hx,hi,h1]; rw[aJ c1,h2,h3,wW,VT,ej,e2]; simp[ho]) hs h
     .cases h
    .cases h
   .exact rF hs h
  .exact rF hs h
 .rename_i c a b;have hs:jQ X.E ⟨dst,.pick c a b,ty,pos,af,g⟩ Z:=trivial;split at h
  .rename_i w hw;cases w with
   | true =>
    have h:UR X.E dst (Z.rd a) K Z=some v:=h;cases ha:Z.rd a with
    | none=>rw[ha] at h; cases h
    | some p =>rw[ha] at h;exact iL (by simp only[bY,pop,hw,ha]; try rfl) hs h
   | false =>
    have h:UR X.E dst (Z.rd b) K Z=some v:=h;cases ha:Z.rd b with
    | none=>rw[ha] at h; cases h
    | some p =>rw[ha] at h;exact iL (by simp only[bY,pop,hw,ha]; try rfl) hs h
  .cases h
 .rename_i t x lo hi;have hs:jQ X.E ⟨dst,.slice t x lo hi none,ty,pos,af,g⟩ Z:=trivial;split at h
  .rename_i ow sz es hx;split at h
   .rename_i I hI;split at h
    .rename_i hz;obtain ⟨p,h1,h2⟩:=bM6 hI hz hx h;exact iL (by simp only[bY,h1,sD]; try rfl) hs h2
    .cases h
   .cases h
  .rename_i s hx;split at h
   .rename_i ht;obtain ⟨p,h1,h2⟩:=bM7 ht hx h;exact iL (by simp only[bY,h1,sD]; try rfl) hs h2
   .cases h
  .rename_i i0 off m sz hx;obtain ⟨p,h1,h2⟩:=bM5 hx h;exact iL (by simp only[bY,h1,sD]; try rfl) hs h2
  .exact rF hs h
 .rename_i t x l u m;have hs:jQ X.E ⟨dst,.slice t x (some l) (some u) (some m),ty,pos,af,g⟩ Z:=trivial;split at h
  .rename_i ow sz es k1 a k2 b k3 c hx hl hu hm;split at h
   .rename_i I hI;split at h
    .rename_i hz;obtain ⟨h1,h2⟩:=gJ h;simp only[au,iy] at h1;obtain ⟨⟨⟨b1,b2⟩,b3⟩,b4⟩:=h1;exact iL (Z1:=Z) (by simp only[bY,pop,hx,hl,hu,hm,Zk]; rw[aJ ⟨by rw[hI,sD,lm hz],b1,b2,b3,b4⟩]; rfl) hs h2
    .cases h
   .cases h
  .cases h
 .rename_i t l c;have hs:jQ X.E ⟨dst,.makeSlice t l c,ty,pos,af,g⟩ Z:=trivial;unfold X9 at h;split at h
  .rename_i I k n k' n' hT hl hc;split at h
   .rename_i hz;simp only[au,wz,QG] at hz;obtain ⟨h1,h2⟩:=gJ h;simp only[au,iy] at h1;have hcond:n=n'/\0<=n/\n<=1073741824/\0<I.size/\I.bytes<=1024:=⟨h1.1.1,h1.1.2,h1.2,hz.1,hz.2⟩;split at h2
    .rename_i hm;exact iL (Z1:=⟨Z.s,Z.h ++ [some (wo n.toNat I)]⟩) (by simp only[bY,hT,hl,hc]; rw[aJ hcond,aJ hm]) hs h2
    .rename_i hm;split at h2
     .rename_i hze;simp only[au] at hze;exact iL (Z1:=Z) (by simp only[bY,hT,hl,hc]; rw[aJ hcond,aK (by rw[hm]; simp),aJ ⟨lm hze.1,hze.2⟩]) hs h2
     .cases h2
   .cases h
  .cases h
 .rename_i t m k ok;have hs:jQ X.E ⟨dst,.lookup t m k ok,ty,pos,af,g⟩ Z:=trivial;split at h
  .rename_i pm q hm hq;unfold X8 at h;split at h
   .rename_i s z i ht;split at h
    .rename_i cs hcs;split at h
     .rename_i b L hin;split at h
      .rename_i hik;split at h
       .rcases aMB h with ⟨p,hg,h⟩ | ⟨hg,h⟩
        .exact iL (Z1:=Z) (p:=Bv ok z (some p)) (by simp only[bY,ht,hm,hq,hcs,hin,hik,hg]) hs h
        .exact iL (Z1:=Z) (p:=Bv ok z none) (by simp only[bY,ht,hm,hq,hcs,hin,hik,hg]) hs h
       .unfold Ob at h;split at h
        .rename_i p hg;have h:=Pi hV h;exact iL (Z1:=Z) (p:=Bv ok z (some p)) (by simp only[bY,ht,hm,hq,hcs,hin,hik,hg]) hs h
        .rename_i hg;exact iL (Z1:=Z) (p:=Bv ok z none) (by simp only[bY,ht,hm,hq,hcs,hin,hik,hg]) hs h
        .cases h
      .cases h
     .cases h
    .cases h
   .cases h
  .cases h
 .rename_i t m k x;have hs:jQ X.E ⟨dst,.mapUpdate t m k x,ty,pos,af,g⟩ Z:=trivial;split at h
  .rename_i pm q y hm hq hy;unfold NQ at h;split at h
   .rename_i s z i ht;split at h
    .rename_i cs hcs;split at h
     .rename_i b L hin;split at h
      .rename_i hik;obtain ⟨h1,h2⟩:=gJ h;exact iL (p := .tuple []) (Z1 := { Z with h:=Z.h.set i (some [nP b (jO s L q y)]) }) (by simp only[bY,ht,hm,hq,hy,hcs,hin,hik,h1,yw]) hs (by simpa[dG,ASt.put] using h2)
      .cases h
     .cases h
    .cases h
   .cases h
  .cases h
 .rename_i t m k x;have hs:jQ X.E ⟨dst,.insert t m k x,ty,pos,af,g⟩ Z:=trivial;split at h
  .cases h
  rename_i hso;split at h
  .rename_i pm q y hm hq hy;unfold NQ at h;split at h
   .rename_i s z i ht;split at h
    .rename_i cs hcs;split at h
     .rename_i b L hin;split at h
      .rename_i hik;obtain ⟨h1,h2⟩:=gJ h;exact iL (p := .tuple []) (Z1 := { Z with h:=Z.h.set i (some [nP b (jO s L q y)]) }) (by rw[hm] at hso; simp only[bY,hso,ht,hm,hq,hy,hcs,hin,hik,h1,yw]) hs (by simpa[dG,ASt.put] using h2)
      .cases h
     .cases h
    .cases h
   .cases h
  .cases h
 .rename_i x b;have hs:jQ X.E ⟨dst,.next x b,ty,pos,af,g⟩ Z:=trivial;unfold XA at h;split at h
  .rename_i T i hx;split at h
   .rename_i cs hcs;split at h
    .rename_i s p hin;split at h
     .rename_i hT;obtain ⟨h1,h2⟩:=gJ h;cases hp:decide (p<(s.size:Int)) with
      | true =>rw[hp] at h2;exact iL (p := .tuple [.bool true,.int .i64 p,.int .i32 (Ya s p)]) (Z1 := { Z with h:=Z.h.set i (some [zO s (OJ s p)]) }) (by simp only[bY,hx,hcs,hin,hT,h1,hp,yw]) hs h2
      | false =>rw[hp] at h2;exact iL (p := .tuple [.bool false]) (Z1:=Z) (by simp only[bY,hx,hcs,hin,hT,h1,hp,yw]) hs h2
     .cases h
    .cases h
   .cases h
  .cases h
 .rename_i s x f;have hs:jQ X.E ⟨dst,.fieldAddr s x f,ty,pos,af,g⟩ Z:=trivial;split at h
  .rename_i cs fs hx hfs;split at h
   .rename_i off z hf;split at h
    .rename_i p hz hp;obtain ⟨h1,h2⟩:=gJ h;have hz:z≠0:=fun e=>by subst e; exact absurd hz (by decide)
     exact iL (p := .cst p.un) (Z1:=Z) (by simp only[bY,pop,hfs,hx,hf,xA,aK hz,Uo,wW,hp,h1,gV,uP,tX,sD]) hs h2
    .cases h
   .exact rF hs h
  .exact rF hs h
 .rename_i t x;have hs:jQ X.E ⟨dst,.box t x,ty,pos,af,g⟩ Z:=trivial;split at h
  .rename_i ds hf hx;obtain ⟨h1,h2⟩:=gJ h;rw[au] at h1;exact iL (p := .cst (.agg (ds.map PV.un))) (Z1:=Z) (by simp only[bY,hf,hx,xA,gV]; rw[show NU (.agg ds)=some (.agg (ds.map PV.un)) by simp only[NU,PV.newCells,h1.1,gV,PV.flat,h1.2]]; rfl) hs h2
  .exact rF hs h
 .rename_i WP t x y t';have hs:jQ X.E ⟨dst,.binOp WP t x y t',ty,pos,af,g⟩ Z:=trivial;split at h
  .rename_i k a k' b hx hy;unfold NL at h;split at h
   .rename_i e;obtain ⟨h1,h2⟩:=gJ h;have h1:b≠0:=by simpa using h1
    exact iL (by simp only[bY,pop,hx,hy,BX,aJ e,OE,aK h1]; try rfl) hs h2
   .cases h
  .rename_i k a k' b hx hy;unfold NL at h;split at h
   .rename_i e;obtain ⟨h1,h2⟩:=gJ h;have h1:b≠0:=by simpa using h1
    exact iL (by simp only[bY,pop,hx,hy,BX,aJ e,OE,aK h1]; try rfl) hs h2
   .cases h
  .rename_i k a k' b hx hy;obtain ⟨h1,h2⟩:=gJ h;have h1:¬ b<0:=by simpa using h1
   exact iL (by simp only[bY,pop,hx,hy,BX,PN,aK h1]; try rfl) hs h2
  .rename_i k a k' b hx hy;obtain ⟨h1,h2⟩:=gJ h;have h1:¬ b<0:=by simpa using h1
   exact iL (by simp only[bY,pop,hx,hy,BX,PN,aK h1]; try rfl) hs h2
  .rename_i a b hx hy;obtain ⟨h1,h2⟩:=gJ h;have h1:=qo h1;exact iL (by simp only[bY,pop,hx,hy,BX,Un,aJ h1]; try rfl) hs h2
  .rename_i p hx hy;unfold NM at h;split at h
   .rename_i ht;obtain ⟨b,h1,h2⟩:=aES h;exact iL (Z1:=Z) (by simp only[bY,pop,hx,hy]; rw[aET ht h2 true]; rfl) hs h1
   .cases h
  .rename_i p hx hy;unfold NM at h;split at h
   .rename_i ht;obtain ⟨b,h1,h2⟩:=aES h;exact iL (Z1:=Z) (by simp only[bY,pop,hx,hy]; rw[aET ht h2 false]; rfl) hs h1
   .cases h
  .exact rF hs h
 .rename_i c;split at h
  .rename_i hca;split at h
   .rename_i x t h1 h2;have hs:jQ X.E ⟨dst,.call c,ty,pos,af,g⟩ Z:=by simp only[jQ,hca]
    unfold X7 at h;split at h
    .rename_i I i0 off m sz hT hx;split at h
     .rename_i cs hcs;split at h
      .rename_i hz;obtain ⟨c1,c2⟩:=gJ h;exact iL (p := .tuple []) (Z1 := { Z with h:=Z.h.set i0 (some (cs.take off ++ (wo m I).map PV.un ++ cs.drop (off+m*sz))) }) (by simp only[bY,hca,h1,h2,hT,hx,hcs]; rw[aJ ⟨lm hz,qo c1⟩]) hs (by unfold dG; simp only[ASt.put]; exact c2)
      .cases h
     .cases h
    .rename_i I o' z' hT hx;exact iL (p := .tuple []) (Z1:=Z) (by simp only[bY,hca,h1,h2,hT,hx]) hs (by unfold dG; simp only[ASt.put]; exact h)
    .cases h
   .cases h
  .rename_i hca;split at h
   .rename_i x y t u h1 h2;have hs:jQ X.E ⟨dst,.call c,ty,pos,af,g⟩ Z:=by simp only[jQ,hca]
    unfold a1P at h;split at h
    .rename_i I i0 off n sz o' sz' es hT hx hy;split at h
     .rename_i cs hcs;split at h
      .rename_i hz;simp only[au,wz] at hz;obtain ⟨z1,z2,z3⟩:=hz;obtain ⟨c1,c2⟩:=gJ h;exact iL (p := .int .i64 ((Nat.min es.length n:Nat):Int)) (Z1 := { Z with h:=Z.h.set i0 (some (cs.take off ++ (dW es).take (Nat.min es.length n*sz) ++ cs.drop (off+Nat.min es.length n*sz))) }) (by simp only[bY,hca,h1,h2,hT,hx,hy,hcs,Dl,z3]; rw[aJ ⟨lm z1,z2,qo c1⟩]) hs c2
      .cases h
     .cases h
    .rename_i I i0 off n sz j0 Om m sz' hT hx hy;split at h
     .rename_i cs cs2 hcs hcs2;split at h
      .rename_i hz;simp only[au,wz] at hz;obtain ⟨z1,z2,z3⟩:=hz;have z3:=lm z3;subst z3;obtain ⟨c1,c2⟩:=gJ h;simp only[au,iy] at c1;exact iL (p := .int .i64 ((Nat.min m n:Nat):Int)) (Z1 := { Z with h:=Z.h.set i0 (some (cs.take off ++ (((cs2.drop Om).take (m*sz')).map PV.un).take (Nat.min m n*sz') ++ cs.drop (off+Nat.min m n*sz'))) }) (by
        have e1:Dl Z sz' (.slh j0 Om m sz')=some (m,((cs2.drop Om).take (m*sz')).map PV.un):=by simp only[Dl,hcs2]; rw[aJ ⟨trivial,c1.2⟩]
        simp only[bY,hca,h1,h2,hT,hx,hy,hcs,e1]; rw[aJ ⟨lm z1,z2,c1.1⟩]) hs c2
      .cases h
     .cases h
    .cases h
   .cases h
  .rename_i hca;split at h
   .rename_i s x hxs;split at h
    .rename_i o1 z1 es o2 z2 es' he hx;obtain ⟨h1,h2⟩:=gJ h;exact rF (by simp only[jQ,hca,hxs,he,hx]; exact qo h1) h2
    .rename_i o1 z1 es b he hx;obtain ⟨h1,h2⟩:=gJ h;exact rF (by simp only[jQ,hca,hxs,he,hx]; exact qo h1) h2
    .rename_i n1 z1 cs o2 z2 es' he hx;unfold a1O at h;split at h
     .rename_i t u hts;split at h
      .rename_i I hT;split at h
       .rename_i hc;simp only[au,y9,wz,QG] at hc;obtain ⟨c1,c2,c3,c4,c5⟩:=hc;obtain ⟨h1,h2⟩:=gJ h;simp only[au] at h1;have c1:=lm c1;have c4:=lm c4;have c5:z2=I.size\/z2=0:=c5.imp (fun e=>lm e) fun e=>lm e
        subst c1; subst c4;exact iL (Z1:=Z.clr s) (by simp only[bY,hca,hxs,hts,hT,he,hx]; rw[aJ ⟨trivial,c2,c3,trivial,c5,h1.2⟩]) (by simp only[jQ,hca,hxs,he,hx]; exact qo h1.1) h2
       .cases h
      .cases h
     .cases h
    .rename_i l b he hx;obtain ⟨h1,h2⟩:=gJ h;exact rF (by simp only[jQ,hca,hxs,he,hx]; exact qo h1) h2
    .rename_i l o2 z2 es' he hx;split at h
     .rename_i c hob;obtain ⟨h1,h2⟩:=gJ h;simp only[au,iy] at h1;exact rF (by simp only[jQ,hca,hxs,he,hx,hob]; exact ⟨h1.1.1,h1.1.2,h1.2⟩) h2
     .cases h
    .cases h
   .cases h
  .rename_i hnot hca;refine rF ?_ h;simp only[jQ,hca];split
   .rename_i e; injection e with e; exact absurd e hnot
   .trivial
  .cases h
 .refine rF (bM1 (fun c e => ?_) _) h;rename_i hnc;exact hnc c e
def o6 (P:Program) (C:Cal):Prop:=∀ g args h r h',C g args h=some (r,h')->Ev P g args h r h'
theorem Vx {M:Mem} {B:aV} {P:Program}:∀ {ts:List TypeId} {ps:bSH} {vs:List Value},bC M B ps vs->bC M B (oU P ts ps) vs
 | [],ps,vs,h=>by cases ps<;>exact h
 | t::ts,[],vs,h=>h
 | t::ts,p::ps,vs,h=>by obtain ⟨u,us,rfl,h1,h2⟩:=dD.1 h;exact dD.2 ⟨u,us,rfl,by unfold Zb; split<;>first | exact h1 | exact Ub _ h1,Vx h2⟩
theorem Kv {M:Mem} {B:aV}:∀ {ps qs:bSH} {vs:List Value},bC M B (ps ++ qs) vs->∃ us ws,vs=us ++ ws/\bC M B ps us/\bC M B qs ws
 | [],qs,vs,h=>⟨[],vs,rfl,eu.2 rfl,h⟩
 | p::ps,qs,vs,h=>by obtain ⟨u,us,rfl,h1,h2⟩:=dD.1 h;obtain ⟨a,b,rfl,h3,h4⟩:=Kv h2;exact ⟨u::a,b,rfl,dD.2 ⟨u,a,rfl,h1,h3⟩,h4⟩
theorem sG.args {P:Program} {cp:CP} {g:FuncId} {az as':bSH} {h:aI} {r:PV} {h':aI} (k:sG P cp g as' h r h') (hr:∀ (M:Mem) (B:aV) (vs:List Value),bC M B az vs->bC M B as' vs):sG P cp g az h r h' :=⟨k.1,fun out M B w vals h1 h2 h3 h4 h5=>k.2 out M B w vals h1 h2 h3 h4 (hr _ _ _ h5)⟩
theorem Ev.args {P:Program} {g:FuncId} {az as':bSH} {h:aI} {r:PV} {h':aI} (k:Ev P g as' h r h') (hr:∀ (M:Mem) (B:aV) (vs:List Value),bC M B az vs->bC M B as' vs):Ev P g az h r h':=sG.args k hr
theorem Qv {P:Program}:∀ {ts:List TypeId} {ps:bSH},PV.flats (oU P ts ps)=PV.flats ps
 | [],ps=>by cases ps<;>rfl
 | t::ts,[]=>rfl
 | t::ts,p::ps=>by
  have h1:∀ z (p:PV),(p.EP z).flat=p.flat:=fun z p=>by
   cases p with
   | sl o s es =>
    rw[PV.EP];split
    .unfold FT; split<;>rfl
    .rfl
   | _=>rfl
  have h2:∀ zs (cs:bSH),PV.flats (Ud zs cs)=PV.flats cs:=by
   intro zs;induction zs with
   | nil=>intro cs; cases cs<;>rfl
   | cons z zs ih =>
    intro cs;cases cs with
    | nil=>rfl
    | cons c cs=>rw[Ud,PV.flats,PV.flats,h1,ih]
  have h3:(p.zn (N9 P 8 t)).flat=p.flat:=by
   cases p with
   | agg cs=>simp only[PV.zn,PV.flat,h2]
   | _=>simp only[PV.zn,h1]
  have h4:(Zb (N9 P 8 t) p).flat=p.flat:=by unfold Zb; split<;>first | rfl | exact h3
  rw[oU,PV.flats,PV.flats,h4,Qv]
theorem uk:∀ {a b:bSH},PV.flats (a ++ b)=(PV.flats a&&PV.flats b)
 | [],b=>by simp[PV.flats]
 | p::a,b=>by simp[PV.flats,uk (a:=a),Bool.and_assoc]
theorem aE1 {cp:CP} (hcm:QT cp) (hW:uF X.W) (hC:∀ g args h r h',X.C g args h=some (r,h')->sG X.E.P cp g args h r h') {dst:Option Nat} {g:FuncId} {full full':bSH} {ids:List Nat} (hconv:∀ (M:Mem) (B:aV) (vs:List Value),bC M B full' vs->bC M B full vs) (h:zK X dst g full ids K Z=some v) :
 ∃ r h',sG X.E.P cp g full' Z.h r (vw ids Z.h h')/\ig X.E dst r { Z with h:=vw ids Z.h h' } (fun Z'=>K Z'=some v):=by
 simp only[zK] at h;split at h
 .rename_i hok;unfold AQ at h;split at h
  .rename_i r h' hr;have h:=UK hW h;simp only[aQK,au] at hok;obtain ⟨k1,k2,k3,k4⟩:=hok;have he:=(sG.sub hcm (hC _ _ _ _ _ hr) k1 (fun i hi=>by
    have:=iC.1 k2 i hi;simpa[wz] using this) k3 (fun i cs hi hcs=>by
    have:=iC.1 k4 i hi;rw[a4A.2 hcs] at this; exact this)).args (az:=full') hconv
   exact ⟨_,_,he,uJ h⟩
  .cases h
 .cases h
theorem aE0 (hW:uF X.W) (hC:o6 X.E.P X.C) {dst:Option Nat} {g:FuncId} {full full':bSH} {ids:List Nat} (hconv:∀ (M:Mem) (B:aV) (vs:List Value),bC M B full' vs->bC M B full vs) (h:zK X dst g full ids K Z=some v) :
 ∃ r h',Ev X.E.P g full' Z.h r (vw ids Z.h h')/\ig X.E dst r { Z with h:=vw ids Z.h h' } (fun Z'=>K Z'=some v):=aE1 (a1C _) hW hC hconv h
theorem aE2 (hW:uF X.W) (hC:o6 X.E.P X.C) {dst:Option Nat} {g:FuncId} {full full':bSH} {ids:List Nat} (hconv:∀ (M:Mem) (B:aV) (vs:List Value),bC M B full' vs->bC M B full vs) (h:zK X dst g full ids K Z=some v) :
 N8 X.E g full' dst (fun Z'=>K Z'=some v) Z:=by
 obtain ⟨r,h',h1,h2⟩:=aE0 hW hC hconv h;exact ⟨r,_,h1,h2⟩
theorem bL2 {E:AE} {ids:List Nat} {H:aI} (h:aOW E.ln ids H.length=true) (h':aI):EQ E (vw ids H h') H:=by
 intro i hi;have hm:1000000+i∈E.ln:=by simpa[dC] using hi
 have:=iC.1 h _ hm;rw[show Nat.ble 1000000 (1000000+i)=true by rw[QG]; omega,QF] at this;simp only[au,y8] at this;obtain ⟨h1,h2⟩:=this;have hlt:i<H.length:=by simpa[wz] using h1
 have hni:i∉ids:=fun hc=>by rw[YX.2 hc] at h2; cases h2
 unfold vw;rw[lF (by rw[LG]; exact hlt),Ug hni]
theorem aVW (hW:uF X.W) (hC:o6 X.E.P X.C) {f:Operand} {args:List Operand} (h:JP X true o f args K Z=some v) :
 ∃ g first caps az,Z.rd f=some (.func (.func g) first caps)/\jL (args.map Z.rd)=some az/\WX X.E g (first ++ az ++ caps) o.dst (fun Z'=>K Z'=some v) Z:=by
 unfold JP at h;split at h
 .rename_i g first caps az hf ha
  try simp only[nG,Q7] at h
  have hconv:∀ (M:Mem) (B:aV) (vs:List Value),bC M B (first ++ az ++ caps) vs->bC M B (first ++ oU X.E.P (sQ X.E o) az ++ caps) vs:=fun M B vs hv=>by obtain ⟨a1,a2,rfl,h1,h2⟩:=Kv hv;obtain ⟨a3,a4,rfl,h3,h4⟩:=Kv h1;exact zl (zl h3 (Vx h4)) h2
  split at h
  .rename_i hfl;unfold jF at h;split at h
   .rename_i r hr;have h:=UK hW h;try simp only[nG,Q7] at h
    split at h
    .rename_i hrf;exact ⟨g,first,caps,az,hf,ha,aC' ((hC _ _ _ _ _ hr).args hconv) hrf (by rw[uk,uk,Qv] at hfl; rw[uk,uk]; exact hfl) (uJ h)⟩
    .cases h
   .cases h
  .split at h
   .rename_i hsy;rw[au] at hsy;obtain ⟨r,h',h1,h2⟩:=aE0 hW hC hconv h;exact ⟨g,first,caps,az,hf,ha,.inr ⟨hsy.1,r,_,h1,bL2 hsy.2 h',h2⟩⟩
   .cases h
 .cases h
theorem aOI (f:Nat->Nat):∀ {cs:bSH},cs.all qV=true->jm f cs=cs
 | [],_=>by simp[jm]
 | p::cs,h=>by rw[vN,au] at h;have h1:=h.1;unfold qV at h1;rw[au] at h1;rw[jm,aOH f p h1.2,aOI f h.2]
theorem bKG (f:Nat->Nat) {o:Option (bSH)} (h:KX o=true):lC f o=o:=by
 cases o with
 | none=>rfl
 | some cs=>simp only[lC]; rw[aOI f h]
theorem ZV (f:Nat->Nat):∀ {h:aI},h.all KX=true->h.map (lC f)=h
 | [],_=>rfl
 | o::h,e=>by rw[vN,au] at e;rw[qm,bKG f e.1,ZV f e.2]
theorem aCD (D:Nat->Bool):∀ {cs:bSH},cs.all qV=true->PV.mQ D cs=true
 | [],_=>by simp[PV.mQ]
 | p::cs,h=>by rw[vN,au] at h;have h1:=h.1;unfold qV at h1;rw[au] at h1;rw[PV.mQ,aCE p h1.2,aCD D h.2]; rfl
theorem aTA (ids:List Nat) (H:aI) {h':aI} (e:h'.all KX=true):vw ids H h'=a9T ids H h':=by
 unfold vw a9T;have e1:(h'.take ids.length).all KX=true:=iC.2 fun x hx=>iC.1 e x (QD hx)
 have e2:(h'.drop ids.length).all KX=true:=iC.2 fun x hx=>iC.1 e x (List.mem_of_mem_drop hx)
 rw[ZV _ e1,ZV _ e2]
theorem aE3 (hW:uF X.W) (hC:o6 X.E.P X.C) {dst:Option Nat} {g:FuncId} {full full':bSH} {ids:List Nat} (hconv:∀ (M:Mem) (B:aV) (vs:List Value),bC M B full' vs->bC M B full vs) (h:JQ X dst g full ids K Z=some v):N8 X.E g full' dst (fun Z'=>K Z'=some v) Z:=by
 simp only[JQ] at h;split at h
 .rename_i hok;obtain ⟨c1,h⟩:=gJ h;unfold AQ at h;split at h
  .rename_i r h' hr;have h:=UK hW h;obtain ⟨c2,h⟩:=gJ h;simp only[au] at hok;obtain ⟨k1,k2,k3⟩:=hok;rw[<- ZV (rV _) c1] at hr;have he:=(Ev.sub (hC _ _ _ _ _ hr) k1 (fun i hi=>by
    have:=iC.1 k2 i hi;simpa[wz] using this) k3 (fun i cs hi hcs=>by
    have:=iC.1 c1 (oq Z.h i) (aB8 hi);rw[a4A.2 hcs] at this;exact aCD _ this)).args (az:=full') hconv
   rw[aTA _ _ c2] at he;exact ⟨_,_,he,uJ h⟩
  .cases h
 .cases h
theorem aVV (hW:uF X.W) (hC:o6 X.E.P X.C) {f:Operand} {args:List Operand} (h:JP X false o f args K Z=some v) :
 ∃ g first caps az,Z.rd f=some (.func (.func g) first caps)/\jL (args.map Z.rd)=some az/\N8 X.E g (first ++ az ++ caps) o.dst (fun Z'=>K Z'=some v) Z:=by
 unfold JP at h;split at h
 .rename_i g first caps az hf ha
  have hconv:∀ (M:Mem) (B:aV) (vs:List Value),bC M B (first ++ az ++ caps) vs->bC M B (first ++ oU X.E.P (sQ X.E o) az ++ caps) vs:=fun M B vs hv=>by obtain ⟨a1,a2,rfl,h1,h2⟩:=Kv hv;obtain ⟨a3,a4,rfl,h3,h4⟩:=Kv h1;exact zl (zl h3 (Vx h4)) h2
  split at h
  .split at h
   .exact ⟨g,first,caps,az,hf,ha,aE3 hW hC hconv h⟩
   .exact ⟨g,first,caps,az,hf,ha,aE2 hW hC hconv h⟩
  split at h
  .rename_i hfl;unfold jF at h;split at h
   .rename_i r hr;have h:=UK hW h;split at h
    .unfold a1U at h;split at h
     .rename_i es;obtain ⟨h1,h2⟩:=gJ h;simp only[au,iy] at h1;exact ⟨g,first,caps,az,hf,ha,_,_,(Ev.thaw (H:=Z.h) (hC _ _ _ _ _ hr) hfl h1.1 h1.2).args hconv,uJ h2⟩
     .rename_i sz es _ _;by_cases hpos:0<es.length
      .rw[decide_eq_true hpos] at h;obtain ⟨h1,h2⟩:=gJ h;exact ⟨g,first,caps,az,hf,ha,_,_,(Ev.bMZ (H:=Z.h) (hC _ _ _ _ _ hr) hfl hpos h1).args hconv,uJ h2⟩
      .rw[decide_eq_false hpos] at h;have e0:es = []:=qK (by omega);subst e0;exact ⟨g,first,caps,az,hf,ha,a1B ((hC _ _ _ _ _ hr).args hconv) rfl (by rw[uk,uk,Qv] at hfl; rw[uk,uk]; exact hfl) (uJ h)⟩
     .cases h
    .split at h
     .rename_i hrf;exact ⟨g,first,caps,az,hf,ha,a1B ((hC _ _ _ _ _ hr).args hconv) hrf (by rw[uk,uk,Qv] at hfl; rw[uk,uk]; exact hfl) (uJ h)⟩
     .cases h
   .cases h
  .split at h
   .rename_i e; cases e
   .split at h
    .unfold a1R at h;obtain ⟨h1,h2⟩:=gJ h;unfold jF at h2;split at h2
     .rename_i r hr;have h2:=UK hW h2;split at h2
      .rename_i hrn;exact ⟨g,first,caps,az,hf,ha,_,_,(Ev.bFH (hC _ _ _ _ _ hr) hrn h1).args hconv,uJ h2⟩
      .cases h2
     .cases h2
    .split at h
     .exact ⟨g,first,caps,az,hf,ha,aE3 hW hC hconv h⟩
     exact ⟨g,first,caps,az,hf,ha,aE2 hW hC hconv h⟩
 .cases h
theorem aD' (hV:yh X.V) (hC:o6 X.E.P X.C) {f:Operand} {args:List Operand} (h:X6 X o f args K Z=some v) :
 ∃ g first caps az r,Z.rd f=some (.func (.func g) first caps)/\jL (args.map Z.rd)=some az/\Ev X.E.P g (first ++ az ++ caps) [] r []/\r.flat=true/\PV.flats (first ++ az ++ caps)=true/\ig X.E o.dst r Z (fun Z'=>K Z'=some v):=by
 unfold X6 at h;split at h
 .rename_i p az hf ha;obtain ⟨g,first,caps,rfl,h⟩:=aWL h;obtain ⟨hfl,h⟩:=gJ h;have hconv:∀ (M:Mem) (B:aV) (vs:List Value),bC M B (first ++ az ++ caps) vs->bC M B (first ++ oU X.E.P (sQ X.E o) az ++ caps) vs:=fun M B vs hv=>by obtain ⟨a1,a2,rfl,h1,h2⟩:=Kv hv;obtain ⟨a3,a4,rfl,h3,h4⟩:=Kv h1;exact zl (zl h3 (Vx h4)) h2
  unfold jF at h;split at h
  .rename_i r hr;have h:=Pi hV h;split at h
   .rename_i hrf;exact ⟨g,first,caps,az,r,hf,ha,(hC _ _ _ _ _ hr).args hconv,hrf,by rw[uk,uk,Qv] at hfl; rw[uk,uk]; exact hfl,uJ h⟩
   .cases h
  .cases h
 .cases h
theorem aDX (hV:yh X.V) (hW:uF X.W) (hC:o6 X.E.P X.C) (h:H9 X false o K Z=some v):xI X.E o (fun Z'=>K Z'=some v) Z:=by
 unfold H9 at h;split at h
 .rename_i f args hc;obtain ⟨g,first,caps,az,hf,ha,h2⟩:∃ g first caps az,Z.rd f=some (.func (.func g) first caps)/\jL (args.map Z.rd)=some az/\N8 X.E g (first ++ az ++ caps) o.dst (fun Z'=>K Z'=some v) Z:=by
   split at h
   .obtain ⟨g,first,caps,az,r,h1,h2,h3,h4,h5,h6⟩:=aD' hV hC h;exact ⟨g,first,caps,az,h1,h2,a1B h3 h4 h5 h6⟩
   .exact aVV hW hC h
  clear h;obtain ⟨dst,op,type,pos,after,guard⟩:=o;cases op<;>simp[ul] at hc
  rename_i c;obtain ⟨callee,JJ,ts⟩:=c;cases callee<;>simp at hc
  obtain ⟨rfl,rfl⟩:=hc;simp only[xI,hf,ha];exact h2
 .rename_i hc;rw[aS' hc];split at h
  .exact .inl (a1S hV hc h)
  .split at h
   .rename_i es pos hn;refine .inr ?_;unfold UA;rw[hn];intro b hb;obtain ⟨h1,h2⟩:=bHB h;cases b
    .exact uJ h1
    .exact uJ (h2 (hb rfl))
   .exact .inl (a1S hV hc h)
theorem aDY (hV:yh X.V) (hW:uF X.W) (hC:o6 X.E.P X.C) (h:H9 X true o K Z=some v):BV X.E o (fun Z'=>K Z'=some v) Z:=by
 unfold H9 at h;unfold BV;split at h
 .rename_i f args hc;obtain ⟨g,first,caps,az,hf,ha,h⟩:∃ g first caps az,Z.rd f=some (.func (.func g) first caps)/\jL (args.map Z.rd)=some az/\WX X.E g (first ++ az ++ caps) o.dst (fun Z'=>K Z'=some v) Z:=by
   split at h
   .obtain ⟨g,first,caps,az,r,h1,h2,h3,h4,h5,h6⟩:=aD' hV hC h;exact ⟨g,first,caps,az,h1,h2,aC' h3 h4 h5 h6⟩
   .exact aVW hW hC h
  simp only[hc,hf,ha];exact h
 .rename_i hc;simp only[hc];exact a1S hV hc h
theorem Yw {d:Nat} {b:Bool} (h:bU d Z.s=some (.bool b)):Z.lit d b=Z:=by unfold ASt.lit; rw[a9V h]
theorem Rf (hV:yh X.V) (hW:uF X.W) (hC:o6 X.E.P X.C):∀ (l:List Oper) {K:ASt->R} {Z:ASt},ji X false ops l K Z=some v->lG X.E ops l (fun Z'=>K Z'=some v) Z
 | [],K,Z,h=>h
 | o::l,K,Z,h=>by
  have ih:∀ Z,ji X false ops l K Z=some v->lG X.E ops l (fun Z'=>K Z'=some v) Z:=fun Z h=>Rf hV hW hC l h
  rw[ji] at h;rw[lG];split at h
  .rename_i hg;simp only[hg];exact WF ih (aDX hV hW hC h)
  .rename_i j want hg;simp only[hg,AZ];split at h
   .rename_i hd;simp only[hd];exact xw ih (uJ h)
   .rename_i d hd;simp only[hd];split at h
    .rename_i b hb;simp only[hb];have key:HY X false o d want b (ji X false ops l K) Z=some v:=by
      cases b
      .exact h
      .exact h
     unfold HY at key;split at key
     .rename_i e;have e:b=want:=by simpa using e
      rw[Yw hb] at key;exact ⟨fun _=>WF ih (aDX hV hW hC key),fun h=>absurd e h⟩
     .rename_i e;have e:b≠want:=by simpa using e
      rw[Yw hb] at key;exact ⟨fun h=>absurd h e,fun _=>xw ih (uJ key)⟩
    .rename_i hb;simp only[hb];exact xw ih (uJ h)
    .cases h
theorem a1T (hV:yh X.V) (hW:uF X.W) (hC:o6 X.E.P X.C):∀ (l:List Oper) {K:ASt->R} {Z:ASt},ji X true ops l K Z=some v->sN X.E ops l (fun Z'=>K Z'=some v) Z
 | [],K,Z,h=>h
 | o::l,K,Z,h=>by
  have ih:∀ Z,ji X true ops l K Z=some v->sN X.E ops l (fun Z'=>K Z'=some v) Z:=fun Z h=>a1T hV hW hC l h
  rw[ji] at h;rw[sN];split at h
  .rename_i hg;simp only[hg];exact WE ih (aDY hV hW hC h)
  .rename_i j want hg;simp only[hg,AZ];split at h
   .rename_i hd;simp only[hd];exact xw ih (uJ h)
   .rename_i d hd;simp only[hd];split at h
    .rename_i b hb;simp only[hb];have key:HY X true o d want b (ji X true ops l K) Z=some v:=by
      cases b
      .exact h
      .exact h
     unfold HY at key;split at key
     .rename_i e;have e:b=want:=by simpa using e
      rw[Yw hb] at key;exact ⟨fun _=>WE ih (aDY hV hW hC key),fun h=>absurd e h⟩
     .rename_i e;have e:b≠want:=by simpa using e
      rw[Yw hb] at key;exact ⟨fun h=>absurd h e,fun _=>xw ih (uJ key)⟩
    .rename_i hb;simp only[hb];exact xw ih (uJ h)
    .cases h
def IE (X:XE):Prop:=∀ l m x (K:AX->ASt->R) Z v,X.L l m x K (Z.gc l m)=some v->aM5 X.m0 (dF X.E X.m0 x) (fun e Z'=>K e Z'=some v) Z
theorem aE4 (hV:yh X.V) (hW:uF X.W) (hC:o6 X.E.P X.C) {K:ASt->R}:∀ (fuel:Nat) {L:Array Bool} {Z:ASt},F5 X ops K fuel L Z=some v->J4 X.E ops (fun Z'=>K Z'=some v) fuel L Z
 | 0,L,Z,h=>by
  unfold F5 at h;split at h
  .rename_i hr; exact ⟨hr,h⟩
  .cases h
 | fuel+1,L,Z,h=>by
  unfold F5 at h;split at h
  .rename_i hr; exact ⟨fun _=>h,fun i hi=>by rw[hr] at hi; simp[Hf] at hi⟩
  .rename_i a l hr;refine ⟨fun e=>(by rw[hr] at e; cases e),fun i hi => ?_⟩;rw[hr] at hi;have h1:=aCA h _ (qL.2 ⟨i,hi,rfl⟩);cases ho:ops[i]? with
   | none=>rw[ho] at h1; cases h1
   | some o =>rw[ho] at h1;obtain ⟨Z',h2,h3⟩:=aT0 (a1T hV hW hC [o] h1);exact ⟨o,rfl,Z',h2,aE4 hV hW hC fuel h3⟩
theorem oh {k:ASt->R}:∀ (ks:List Nat) {Z:ASt} {v:PV×aI},mZ k ks Z=some v->∃ ks',k (yL ks' Z)=some v
 | [],Z,v,h=>⟨[],h⟩
 | d::ds,Z,v,h=>by
  unfold mZ at h;split at h
  .rename_i hd;split at h
   .rename_i i hs;split at h
    .rename_i p hc;obtain ⟨h1,h2⟩:=gJ h;obtain ⟨ks',h3⟩:=oh ds h2;refine ⟨d::ks',?_⟩;have:xQ d Z=⟨iF (d-9000000) (.cst ((mX p.length p 1).headD .nilp)) Z.s,Z.h.set i none⟩:=by simp only[xQ,hd,XN,hs,hc,h1]
     rw[yL,this]; exact h3
    .exact oh ds h
   .exact oh ds h
  rename_i hd9;split at h
  .rename_i hd;split at h
   .rename_i i2 hs;split at h
    .rename_i cs0 hc;split at h
     .rename_i i n sz hj;split at h
      .rename_i cs hi;obtain ⟨h1,h2⟩:=gJ h;obtain ⟨ks',h3⟩:=oh ds h2;refine ⟨d::ks',?_⟩;have:xQ d Z=⟨Z.s,(Z.h.set i none).set i2 (some (cs0.set ((d-5000000) % 100) (.sl false sz (mX sz cs n))))⟩:=by simp only[xQ,hd9,hd,XL,hs,hc,hj,hi,h1]
       rw[yL,this]; exact h3
      .exact oh ds h
     .exact oh ds h
    .exact oh ds h
   .exact oh ds h
  rename_i hd5;split at h
  .rename_i hd;split at h
   .rename_i i hs;split at h
    .rename_i cs0 hc;split at h
     .rename_i n sz cs hj;cases hn:Nat.ble 1 n with
      | true =>rw[hn,aA] at h;obtain ⟨ks',h3⟩:=oh ds h;refine ⟨d::ks',?_⟩;rw[yL];simp only[xQ,hd9,hd5,hd,Uu,hs,hc,hj,hn];exact h3
      | false =>rw[hn,aA] at h;obtain ⟨ks',h3⟩:=oh ds h;refine ⟨d::ks',?_⟩;rw[yL];simp only[xQ,hd9,hd5,hd,Uu,hs,hc,hj,hn];exact h3
     .exact oh ds h
    .exact oh ds h
   .exact oh ds h
  rename_i hd4;split at h
  .rename_i hd;split at h
   .rename_i n sz cs hs;split at h
    .obtain ⟨hn,h⟩:=gJ h;obtain ⟨ks',h3⟩:=oh ds h;refine ⟨d::ks',?_⟩;rw[yL];simp only[xQ,hd9,hd5,hd4,hd,PU,hs,hn];exact h3
    cases hn:Nat.ble 1 n with
    | true =>rw[hn,aA] at h;obtain ⟨ks',h3⟩:=oh ds h;refine ⟨d::ks',?_⟩;rw[yL];simp only[xQ,hd9,hd5,hd4,hd,PU,hs,hn];exact h3
    | false =>rw[hn,aA] at h;obtain ⟨ks',h3⟩:=oh ds h;refine ⟨d::ks',?_⟩;rw[yL];simp only[xQ,hd9,hd5,hd4,hd,PU,hs,hn];exact h3
   .exact oh ds h
  rename_i hd3;split at h
  .rename_i hd;split at h
   .rename_i i n sz hs;split at h
    .rename_i cs hc;obtain ⟨h1,h2⟩:=gJ h;obtain ⟨ks',h3⟩:=oh ds h2;refine ⟨d::ks',?_⟩;have:xQ d Z=⟨iF (d-1000000) (.sl false sz (mX sz cs n)) Z.s,Z.h.set i none⟩:=by simp only[xQ,hd9,hd5,hd4,hd3,hd,XO,hs,hc,h1]
     rw[yL,this]; exact h3
    .exact oh ds h
   .exact oh ds h
  .obtain ⟨ks',h3⟩:=oh ds h;exact ⟨d::ks',h3⟩
theorem wI (hV:yh X.V) (hW:uF X.W) (hC:o6 X.E.P X.C) (hL:IE X):∀ (c:Code) {K:AX->ASt->R} {Z:ASt},bH X c K Z=some v->dF X.E X.m0 c (fun e Z'=>K e Z'=some v) Z
 | .skip,K,Z,h=>h
 | .label _,K,Z,h=>h
 | .exit _,K,Z,h=>h
 | .ret,K,Z,h=>h
 | .region _ ops draw,K,Z,h=>by
  simp only[bH] at h;rw[dF];cases draw with
  | false=>exact Rf hV hW hC _ h
  | true =>
   cases hok:okD X.E ops with
   | true =>simp only[hok] at h;exact .inl ⟨hok,a1T hV hW hC _ h⟩
   | false =>simp only[hok] at h;exact .inr (aE4 hV hW hC _ h)
 | .seq x y,K,Z,h=>by
  simp only[bH] at h;rw[dF];refine xJ x (fun e Z' he => ?_) (wI hV hW hC hL x h);cases e with
  | normal =>
   have he:um X.E X.m0 y (bH X y K) Z'=some v:=he;have hj:∀ Z',ED X.E X.m0 y (bH X y K) Z'=some v->dF X.E X.m0 y (fun e Z=>K e Z=some v) Z'\/∃ l m,X.m0<=m/\Bf l m Z'=true/\dF X.E X.m0 y (fun e Z=>K e Z=some v) (Z'.gc l m):=fun Z' he=>by
    unfold ED at he;cases hl:X.E.jt.lookup (CY y) with
    | none=>rw[hl] at he; exact .inl (wI hV hW hC hL y he)
    | some l =>
     rw[hl] at he;simp only at he;obtain ⟨hpl,he⟩:=gJ he;split at he
     .rename_i hg;simp only[au,iy] at hg;exact .inr ⟨l,_,hg.1,a3Y hpl hg.2,wI hV hW hC hL y he⟩
     .cases he
   unfold um at he;split at he
   .obtain ⟨ks,he⟩:=oh _ he;exact ⟨ks,hj _ he⟩
   .exact ⟨[],hj _ he⟩
  | ret=>exact he
  | exit i=>exact he
 | .cond c x y,K,Z,h=>by
  simp only[bH] at h;rw[dF];split at h
  .rename_i b hb;simp only[hb];split at h
   .rename_i d;cases b with
    | true =>have h:bH X x K (Z.lit d true)=some v:=h;rw[ZT hb] at h;exact ⟨fun _=>wI hV hW hC hL x h,fun e=>by cases e⟩
    | false =>have h:bH X y K (Z.lit d false)=some v:=h;rw[ZT hb] at h;exact ⟨fun e=>(by cases e),fun _=>wI hV hW hC hL y h⟩
   .cases b with
    | true=>exact ⟨fun _=>wI hV hW hC hL x h,fun e=>by cases e⟩
    | false=>exact ⟨fun e=>(by cases e),fun _=>wI hV hW hC hL y h⟩
  .cases h
 | .block id x,K,Z,h=>by
  simp only[bH] at h;rw[dF];refine xJ x (fun e Z' he => ?_) (wI hV hW hC hL x h);cases e with
  | normal=>exact he
  | ret=>exact he
  | exit i =>
   simp only[aj] at he;simp only[Me];split at he
   .rename_i e; rw[aJ e]; exact he
   .rename_i e; rw[aK e]; exact he
 | .scope x,K,Z,h=>by simp only[bH] at h;rw[dF];exact wI hV hW hC hL x h
 | .loop x,K,Z,h=>by simp only[bH] at h;rw[dF];exact hL _ _ _ _ _ _ h
 | .rangeFunc _ _ _ _,K,Z,h=>by simp[bH] at h
 | .goto _,K,Z,h=>by simp[bH] at h
 | .refuse _,K,Z,h=>by simp[bH] at h
end
structure xE where
 vars:List Nat
 mv:List Nat
 mu:List Nat
 sz:List (Nat×List Nat)
 jt:List (Nat×List Nat)
 lt:List (Nat×List Nat)
 pt:List (Nat×List Nat)
 fz:List Nat
 ro:List (List Nat×Bool)
 ft:List (Nat×List Nat) := []
 sy:List Nat := []
 ln:List Nat := []
 df:Bool:=false
abbrev yD:=AE->Nat->List Nat->Nat->Code->(AX->ASt->R)->ASt->R
structure SE where
 P:Program
 iI:FuncId->xE
 V:TypeId->PV->(PV->R)->R
 W:FuncId->aI->PV->aI->(PV->aI->R)->R
 C0:Cal
def SE.ae (S:SE) (g:FuncId) (n:Nat):AE:=⟨S.P,n,(S.iI g).vars,(S.iI g).mv,(S.iI g).mu,(S.iI g).sz,(S.iI g).jt,(S.iI g).lt,(S.iI g).pt,(S.iI g).fz,(S.iI g).ft,(S.iI g).sy,(S.iI g).ln⟩
def SE.xe (S:SE) (C:Cal) (L:yD) (E:AE) (m0:Nat):XE:=⟨E,C,S.V,S.W,L E m0,m0⟩
def LJ:PV->Nat
 | .ptr i _=>i+1
 | .tuple ps=>PV.GL ps
 | _=>0
def aOU (P:Program) (rs:List ResultVar) (Z:ASt):Option PV:=match rs with
 | [x]=>resV P Z x
 | rs=>(jL (rs.map (resV P Z))).map fun ps=>PV.tuple (ps.map PV.un)
def aPZ:PV->List Nat
 | .tuple ps=>Dv ps
 | _ => []
def Fv (P:Program) (rs:List ResultVar) (ro:List (List Nat×Bool)) (m0:Nat) (fl:List Nat) (Z:ASt):R:=match aOU P rs Z with
 | some r=>chk (plainO (Z.h.take (Nat.max m0 (LJ r))) (xH fl (aPZ r))) (match decide (Nat.max m0 (LJ r)<=Z.h.length)&&(r.blw (Nat.max m0 (LJ r))&&AP (Nat.max m0 (LJ r)) (Ig (xH fl (aPZ r)) 0 (Z.h.take (Nat.max m0 (LJ r))))) with
  | true=>some (xP ro r,Z.h.take (Nat.max m0 (LJ r)))
  | false=>none)
 | none=>none
def Fq (P:Program) (rs:List ResultVar) (ro:List (List Nat×Bool)) (m0:Nat) (fl:List Nat):AX->ASt->R
 | .normal,Z=>Fv P rs ro m0 fl Z
 | .ret,Z=>Fv P rs ro m0 fl Z
 | .exit _,_=>none
def bDA (o:Oper):Bool:=match o.op with | .defer _=>true | _=>false
def EC:Code->Bool
 | .region _ ops draw => !draw&&ops.toList.any bDA
 | .seq x y=>EC x||EC y
 | .cond _ x y=>EC x||EC y
 | .block _ x=>EC x
 | _=>false
def Zn:List Oper->Option (List Oper×Oper×Call×List Oper)
 | []=>none
 | o::l=>match o.op with
  | .defer c=>some ([],o,c,l)
  | _=>(match Zn l with | some (a,o',c,b)=>some (o::a,o',c,b) | none=>none)
abbrev MO:=Nat->FuncId->bSH->AX->ASt->R
def Wp (m0:Nat) (o:Oper) (c:Call) (K:Nat->FuncId->bSH->ASt->R) (Z:ASt):R:=match o.guard,o.dst,c.callee with
 | none,none,.value f=>(match Z.rd f,jL (c.args.toList.map Z.rd) with
  | some (.func (.func g) first caps),some az=>(match PV.blws (Nat.max m0 (PV.GL (first ++ az ++ caps))) (first ++ az ++ caps) with
   | true=>K (Nat.max m0 (PV.GL (first ++ az ++ caps))) g (first ++ az ++ caps) Z
   | false=>none)
  | _,_=>none)
 | _,_,_=>none
def SE.sU (S:SE) (C:Cal) (L:yD) (E:AE) (m0:Nat):Code->(AX->ASt->R)->MO->ASt->R
 | .seq x y,K0,KD,Z=>(match EC x with
  | true=>S.sU C L E m0 x (wX (um E m0 y (bH (S.xe C L E m0) y K0)) K0) (fun m g ps=>wX (um E m y (bH (S.xe C L E m) y (KD m g ps))) (KD m g ps)) Z
  | false=>bH (S.xe C L E m0) x (wX (S.sU C L E m0 y K0 KD) K0) Z)
 | .cond c x y,K0,KD,Z=>(match Z.rd c with
  | some (.bool b)=>(match c with
   | .tmp d=>aA b (match EC x with | true=>S.sU C L E m0 x K0 KD (Z.lit d true) | false=>bH (S.xe C L E m0) x K0 (Z.lit d true)) (match EC y with | true=>S.sU C L E m0 y K0 KD (Z.lit d false) | false=>bH (S.xe C L E m0) y K0 (Z.lit d false))
   | _=>none)
  | _=>none)
 | .block id x,K0,KD,Z=>S.sU C L E m0 x (aj id K0) (fun m g ps=>aj id (KD m g ps)) Z
 | .region _ ops draw,_,KD,Z=>(match draw with
  | true=>none
  | false=>(match Zn ops.toList with
   | some (pre,o,c,post)=>ji (S.xe C L E m0) false ops pre (Wp m0 o c fun m g ps=>ji (S.xe C L E m0) false ops post (KD m g ps .normal)) (Z.head E)
   | none=>none))
 | _,_,_,_=>none
def SE.CD (S:SE) (C:Cal):Cal:=fun g args h=>match S.C0 g args h with
 | some _=>none
 | none=>(match (S.iI g).df with | true=>none | false=>C g args h)
def SE.Ue (S:SE) (C:Cal) (L:yD) (E:AE) (rs:List ResultVar) (ro:List (List Nat×Bool)) (m0:Nat) (fl:List Nat):MO:=fun _ g ps e Z=>match e with
 | .exit _=>none
 | _=>zK (S.xe (S.CD C) L E m0) none g ps (H7 Z.h 3 (xH [] (PV.xU ps))) (Fv S.P rs ro m0 fl) Z
def SE.run (S:SE) (C:Cal) (L:yD) (g:FuncId) (args:bSH) (h:aI):R:=match S.P.funcs[g]? with
 | some fn=>(match fn.body with
  | some c=>(match decide (args.length<=fn.ntmps)&&(fn.name != "runtime.NumGoroutine") with
   | true=>(match (S.iI g).df with
    | false=>bH (S.xe C L (S.ae g fn.ntmps) h.length) c (Fq S.P fn.results.toList (S.iI g).ro h.length (Dv args)) ⟨lY 0 args,h⟩
    | true=>S.sU C L (S.ae g fn.ntmps) h.length c (Fq S.P fn.results.toList (S.iI g).ro h.length (Dv args)) (S.Ue C L (S.ae g fn.ntmps) fn.results.toList (S.iI g).ro h.length (Dv args)) ⟨lY 0 args,h⟩)
   | false=>none)
  | none=>none)
 | none=>none
def SE.wp (S:SE) (E:AE):AE := { E with P:=S.P }
def SE.turn (S:SE) (C:Cal) (L:yD):yD:=fun E m0 l m x K Z =>
 chk (Fa l m Z) (match decide (m0<=m)&&Dz l m Z with
 | true=>bH (S.xe C L (S.wp E) m0) x (wX (fun Z'=>L E m0 l m x K (Z'.gc l m)) K) (Z.gc l m)
 | false=>none)
def FV (a b:R):R:=match a with | some x=>some x | none=>b
def SE.aZ (S:SE):Nat->Cal×yD
 | 0=>(S.C0,fun _ _ _ _ _ _ _=>none)
 | n+1=>(fun g args h=>FV (S.C0 g args h) (S.run (S.aZ n).1 (S.aZ n).2 g args h),S.turn (S.aZ n).1 (S.aZ n).2)
open Classical in
def lim (f:Nat->R):R:=if h:∃ n v,f n=some v then some (Classical.choose (Q9 h)) else none
def SE.CC (S:SE):Cal:=fun g args h=>lim fun n=>(S.aZ n).1 g args h
def SE.LL (S:SE):yD:=fun E m0 l m x K Z=>lim fun n=>(S.aZ n).2 E m0 l m x K Z
structure SE.OK (S:SE):Prop where
 V:yh S.V
 W:uF S.W
section
variable {S:SE}
theorem a3Z (l:List Nat) (m:Nat) (Z:ASt):(Z.gc l m).gc l m=Z.gc l m:=by simp only[ASt.gc,List.filter_filter,yw,List.take_take,Nat.min_self]
theorem bBL (l:List Nat) (m:Nat) (Z:ASt):Dz l m (Z.gc l m)=Dz l m Z:=by unfold Dz; rw[a3Z]
theorem bJU (l:List Nat) (m:Nat) (Z:ASt):Fa l m (Z.gc l m)=Fa l m Z:=by unfold Fa; rw[a3Z]
theorem bNB (C:Cal) (L:yD) (E:AE) (m0:Nat) (l:List Nat) (m:Nat) (x:Code) (K:AX->ASt->R) (Z:ASt):S.turn C L E m0 l m x K (Z.gc l m)=S.turn C L E m0 l m x K Z:=by unfold SE.turn; rw[bBL,bJU,a3Z]
variable {ι:Type} {Good:(ι->R)->Prop} (F:J7 Good) (hS:S.OK) {C:ι->Cal} {L:ι->yD} (hC:∀ g args h,Good fun i=>C i g args h)
 (hL:∀ (E:AE) (m0:Nat) (l:List Nat) (m:Nat) (x:Code) (K:ι->AX->ASt->R) (Z:ASt),(∀ e Z,Good fun i=>K i e Z)->Good fun i=>L i E m0 l m x (K i) Z)
include F hS hC hL in
theorem Ji {E:AE} {m0:Nat} (c:Code) {K:ι->AX->ASt->R} {Z:ASt} (h:∀ e Z,Good fun i=>K i e Z):Good fun i=>bH (S.xe (C i) (L i) E m0) c (K i) Z :=E5 F (X:=S.xe (fun _ _ _=>none) (fun _ _ _ _ _ _ _=>none) E m0) (C:=C) (L:=fun i=>L i E m0) hS.V hS.W hC (fun l m x K Z h=>hL E m0 l m x K Z h) c h
include F hS hC hL in
theorem aJ9 {E:AE} {m0:Nat} {ops:Array Oper} (l:List Oper) {K:ι->ASt->R} {Z:ASt} (h:∀ Z,Good fun i=>K i Z):Good fun i=>ji (S.xe (C i) (L i) E m0) false ops l (K i) Z :=TE F (X:=S.xe (fun _ _ _=>none) (fun _ _ _ _ _ _ _=>none) E m0) (C:=C) (L:=fun i=>L i E m0) hS.V hS.W hC l h
include F hS hC hL in
theorem aJ6 {E:AE} {m0:Nat} {y:Code} {K:ι->AX->ASt->R} {Z:ASt} (h:∀ e Z,Good fun i=>K i e Z):Good fun i=>um E m0 y (bH (S.xe (C i) (L i) E m0) y (K i)) Z:=by
 have hj:∀ Z,Good fun i=>ED E m0 y (bH (S.xe (C i) (L i) E m0) y (K i)) Z:=fun Z=>by
  unfold ED;split
  .refine gp F ?_;split
   .exact Ji F hS hC hL y h
   .exact F.no
  .exact Ji F hS hC hL y h
 unfold um;split
 .exact ou F hj _
 .exact hj _
include F in
theorem bBS {m0:Nat} {o:Oper} {c:Call} {K:ι->Nat->FuncId->bSH->ASt->R} {Z:ASt} (h:∀ m g ps Z,Good fun i=>K i m g ps Z):Good fun i=>Wp m0 o c (K i) Z:=by
 unfold Wp;split
 .split
  .split
   .exact h _ _ _ _
   .exact F.no
  .exact F.no
 .exact F.no
include F hS hC hL in
theorem OC {E:AE} {m0:Nat}:∀ (c:Code) {K0:ι->AX->ASt->R} {KD:ι->MO} {Z:ASt},(∀ e Z,Good fun i=>K0 i e Z)->(∀ m g ps e Z,Good fun i=>KD i m g ps e Z)->Good fun i=>S.sU (C i) (L i) E m0 c (K0 i) (KD i) Z
 | .seq x y,K0,KD,Z,h,h'=>by
  simp only[SE.sU];split
  .exact OC x (fun e Z=>TF (fun Z=>aJ6 F hS hC hL h) h e Z) (fun m g ps e Z=>TF (fun Z=>aJ6 F hS hC hL (h' m g ps)) (h' m g ps) e Z)
  .exact Ji F hS hC hL x fun e Z=>TF (fun Z=>OC y h h') h e Z
 | .cond c x y,K0,KD,Z,h,h'=>by
  simp only[SE.sU];split
  .split
   .refine AY F ?_ ?_
    .split
     .exact OC x h h'
     .exact Ji F hS hC hL x h
    .split
     .exact OC y h h'
     .exact Ji F hS hC hL y h
   .exact F.no
  .exact F.no
 | .block id x,K0,KD,Z,h,h'=>by simp only[SE.sU];exact OC x (fun e Z=>a4B h e Z) (fun m g ps e Z=>a4B (h' m g ps) e Z)
 | .region _ ops draw,K0,KD,Z,h,h'=>by
  simp only[SE.sU];split
  .exact F.no
  .split
   .exact aJ9 F hS hC hL _ fun Z=>bBS F fun m g ps Z=>aJ9 F hS hC hL _ fun Z=>h' m g ps .normal Z
   .exact F.no
 | .skip,K0,KD,Z,h,h'=>F.no
 | .label _,K0,KD,Z,h,h'=>F.no
 | .exit _,K0,KD,Z,h,h'=>F.no
 | .ret,K0,KD,Z,h,h'=>F.no
 | .scope _,K0,KD,Z,h,h'=>F.no
 | .loop _,K0,KD,Z,h,h'=>F.no
 | .rangeFunc _ _ _ _,K0,KD,Z,h,h'=>F.no
 | .goto _,K0,KD,Z,h,h'=>F.no
 | .refuse _,K0,KD,Z,h,h'=>F.no
include F hS hC in
theorem bC1 {E:AE} {rs:List ResultVar} {ro:List (List Nat×Bool)} {m0:Nat} {fl:List Nat} (m:Nat) (g:FuncId) (ps:bSH) (e:AX) (Z:ASt):Good fun i=>S.Ue (C i) (L i) E rs ro m0 fl m g ps e Z:=by
 have hC':∀ g args h,Good fun i=>S.CD (C i) g args h:=fun g args h=>by
  unfold SE.CD;split
  .exact F.no
  .split
   .exact F.no
   .exact hC _ _ _
 have hH:Good fun i=>zK (S.xe (S.CD (C i)) (L i) E m0) none g ps (H7 Z.h 3 (xH [] (PV.xU ps))) (Fv S.P rs ro m0 fl) Z:=by
  simp only[zK];split
  .exact YP F hC' fun r h'=>OB (X:=S.xe (fun _ _ _=>none) (fun _ _ _ _ _ _ _=>none) E m0) F hS.W fun p q=>gK F fun Z=>F.const _
  .exact F.no
 unfold SE.Ue;cases e
 .exact hH
 .exact hH
 .exact F.no
include F hS hC hL in
theorem a4E {g:FuncId} {args:bSH} {h:aI}:Good fun i=>S.run (C i) (L i) g args h:=by
 unfold SE.run;split
 .split
  .split
   .split
    .exact Ji F hS hC hL _ fun e Z=>F.const _
    .exact OC F hS hC hL _ (fun e Z=>F.const _) fun m g ps e Z=>bC1 F hS hC m g ps e Z
   .exact F.no
  .exact F.no
 .exact F.no
include F hS hC hL in
theorem YQ {E:AE} {m0:Nat} {l:List Nat} {m:Nat} {x:Code} {K:ι->AX->ASt->R} {Z:ASt} (h:∀ e Z,Good fun i=>K i e Z):Good fun i=>S.turn (C i) (L i) E m0 l m x (K i) Z:=by
 unfold SE.turn;refine gp F ?_;split
 .exact Ji F hS hC hL _ fun e Z=>TF (fun Z=>hL _ _ _ _ _ _ _ h) h e Z
 .exact F.no
include F in
theorem a4D {a:R} {f:ι->R} (h:Good f):Good fun i=>FV a (f i):=by
 cases a
 .exact h
 .exact F.const _
theorem a4F (F:J7 Good) (hS:S.OK):∀ (n:Nat) (E:AE) (m0:Nat) (l:List Nat) (m:Nat) (x:Code) (K:ι->AX->ASt->R) (Z:ASt),(∀ e Z,Good fun i=>K i e Z)->Good fun i=>(S.aZ n).2 E m0 l m x (K i) Z
 | 0,_,_,_,_,_,_,_,_=>F.no
 | n+1,_,_,_,_,_,_,_,h=>YQ F hS (C:=fun _=>(S.aZ n).1) (L:=fun _=>(S.aZ n).2) (fun _ _ _=>F.const _) (a4F F hS n) h
def DT (F:Bool->R):Prop:=∀ v,F false=some v->F true=some v
theorem JU:J7 DT:=⟨fun _ _ h=>h,fun c k hc hk v h=>by
 have h:(match c false with | some (r,h)=>k false r h | none=>none)=some v:=h;show (match c true with | some (r,h)=>k true r h | none=>none)=some v;cases hf:c false with
 | none=>rw[hf] at h; cases h
 | some x =>obtain ⟨r,hh⟩:=x;rw[hf] at h;rw[hc _ hf];exact hk r hh v h⟩
theorem G5 (hS:S.OK):∀ n,(∀ g args h v,(S.aZ n).1 g args h=some v->(S.aZ (n+1)).1 g args h=some v) /\
 (∀ E m0 l m x (K K':AX->ASt->R) Z v,(∀ e Z v,K e Z=some v->K' e Z=some v)->(S.aZ n).2 E m0 l m x K Z=some v->(S.aZ (n+1)).2 E m0 l m x K' Z=some v)
 | 0=>⟨fun g args h v hv=>by show FV (S.C0 g args h) _=some v; rw[show S.C0 g args h=some v from hv]; rfl,fun _ _ _ _ _ _ _ _ _ _ h=>by cases h⟩
 | n+1=>by
  obtain ⟨ih1,ih2⟩:=G5 hS n;have hC:∀ g args h,DT fun i=>(bif i then (S.aZ (n+1)).1 else (S.aZ n).1) g args h:=fun g args h v hv=>ih1 g args h v hv
  have hL:∀ (E:AE) (m0:Nat) (l:List Nat) (m:Nat) (x:Code) (K:Bool->AX->ASt->R) (Z:ASt),(∀ e Z,DT fun i=>K i e Z)->DT fun i=>(bif i then (S.aZ (n+1)).2 else (S.aZ n).2) E m0 l m x (K i) Z :=fun E m0 l m x K Z hK v hv=>ih2 E m0 l m x _ _ Z v (fun e Z v h=>hK e Z v h) hv
  refine ⟨fun g args h v hv => ?_,fun E m0 l m x K K' Z v hK hv => ?_⟩
  .exact a4D JU (a4E JU hS hC hL) v hv
  .exact YQ JU hS hC hL (K:=fun i=>bif i then K' else K) (fun e Z v h=>hK e Z v h) v hv
theorem bGA (hS:S.OK) {E:AE} {m0:Nat} {l:List Nat} {m:Nat} {x:Code} {K:AX->ASt->R} {Z:ASt} {v:PV×aI} {n k:Nat} (hk:n<=k) (hv:(S.aZ n).2 E m0 l m x K Z=some v):(S.aZ k).2 E m0 l m x K Z=some v:=by
 induction hk with
 | refl=>exact hv
 | step _ ih=>exact (G5 hS _).2 _ _ _ _ _ _ _ _ _ (fun _ _ _ h=>h) ih
theorem aM7 (hS:S.OK) (n:Nat) {E:AE} {m0:Nat} {l:List Nat} {m:Nat} {x:Code} {K K':AX->ASt->R} {Z:ASt} {v:PV×aI} (hK:∀ e Z v,K e Z=some v->K' e Z=some v) (hv:(S.aZ n).2 E m0 l m x K Z=some v):(S.aZ n).2 E m0 l m x K' Z=some v :=a4F JU hS n E m0 l m x (fun i=>bif i then K' else K) Z (fun e Z v h=>hK e Z v h) v hv
theorem a5X {f:Nat->R} (hm:∀ n v,f n=some v->f (n+1)=some v) {v:PV×aI}:lim f=some v↔∃ n,f n=some v:=by
 have hle:∀ {n k:Nat} {v:PV×aI},n<=k->f n=some v->f k=some v:=fun hk hv=>by
  induction hk with
  | refl=>exact hv
  | step _ ih=>exact hm _ _ ih
 have hu:∀ {n k:Nat} {v u:PV×aI},f n=some v->f k=some u->v=u:=fun {n k v u} h1 h2=>by have a:=hle (a0E n k) h1;have b:=hle (Nat.le_max_right n k) h2;rw[a] at b; injection b
 unfold lim;constructor
 .intro h;split at h
  .rename_i hx;injection h with h
   exact ⟨_,by rw[<- h]; exact Q9 (Q9 hx)⟩
  .cases h
 .intro ⟨n,hn⟩;have hx:∃ n v,f n=some v:=⟨n,v,hn⟩;rw[dif_pos hx];exact congrArg some (hu (Q9 (Q9 hx)) hn)
structure MI (F:Option Nat->R):Prop where
 mono:∀ n v,F (some n)=some v->F (some (n+1))=some v
 lim:∀ v,F none=some v↔∃ n,F (some n)=some v
theorem MI.le {F:Option Nat->R} (h:MI F) {n k:Nat} {v:PV×aI} (hk:n<=k) (hv:F (some n)=some v):F (some k)=some v:=by
 induction hk with
 | refl=>exact hv
 | step _ ih=>exact h.mono _ _ ih
theorem NR:J7 MI:=⟨fun c=>⟨fun _ _ h=>h,fun v=>⟨fun h=>⟨0,h⟩,fun ⟨_,h⟩=>h⟩⟩,fun c k hc hk=>by
 refine ⟨fun n v h => ?_,fun v=>⟨fun h => ?_,fun ⟨n,h⟩ => ?_⟩⟩
 .cases hf:c (some n) with
  | none=>rw[hf] at h; cases h
  | some x =>obtain ⟨r,hh⟩:=x;rw[hf] at h;rw[hc.mono _ _ hf];exact (hk r hh).mono _ _ h
 .cases hf:c none with
  | none=>rw[hf] at h; cases h
  | some x =>obtain ⟨r,hh⟩:=x;rw[hf] at h;obtain ⟨n1,h1⟩:=(hc.lim _).1 hf;obtain ⟨n2,h2⟩:=((hk r hh).lim v).1 h;refine ⟨max n1 n2,?_⟩;rw[hc.le (a0E n1 n2) h1];exact (hk r hh).le (Nat.le_max_right n1 n2) h2
 .cases hf:c (some n) with
  | none=>rw[hf] at h; cases h
  | some x =>obtain ⟨r,hh⟩:=x;rw[hf] at h;rw[(hc.lim _).2 ⟨n,hf⟩];exact ((hk r hh).lim v).2 ⟨n,h⟩⟩
def SE.aU8 (S:SE):Option Nat->Cal | none=>S.CC | some n=>(S.aZ n).1
def SE.bGB (S:SE):Option Nat->yD | none=>S.LL | some n=>(S.aZ n).2
theorem RH (hS:S.OK) (g:FuncId) (args:bSH) (h:aI):MI fun i=>S.aU8 i g args h :=⟨fun n v hv=>(G5 hS n).1 g args h v hv,fun _=>a5X fun n v hv=>(G5 hS n).1 g args h v hv⟩
theorem a6C (hS:S.OK) (E:AE) (m0:Nat) (l:List Nat) (m:Nat) (x:Code) (K:Option Nat->AX->ASt->R) (Z:ASt) (hK:∀ e Z,MI fun i=>K i e Z):MI fun i=>S.bGB i E m0 l m x (K i) Z:=by
 have hl:∀ v,S.LL E m0 l m x (K none) Z=some v↔∃ n,(S.aZ n).2 E m0 l m x (K none) Z=some v:=fun v=>a5X fun n v hv=>(G5 hS n).2 _ _ _ _ _ _ _ _ _ (fun _ _ _ h=>h) hv
 refine ⟨fun n v hv=>(G5 hS n).2 _ _ _ _ _ _ _ _ _ (fun e Z v h=>(hK e Z).mono n v h) hv,fun v=>⟨fun h => ?_,fun ⟨n,h⟩ => ?_⟩⟩
 .obtain ⟨n,hn⟩:=(hl v).1 h;obtain ⟨k,hk⟩:=((a4F NR hS n E m0 l m x K Z hK).lim v).1 hn;refine ⟨max n k,?_⟩;exact bGA hS (a0E n k) (aM7 hS n (fun e Z v h=>(hK e Z).le (Nat.le_max_right n k) h) hk)
 .exact (hl v).2 ⟨n,aM7 hS n (fun e Z v h=>((hK e Z).lim v).2 ⟨n,h⟩) h⟩
theorem J5 (hS:S.OK) (g:FuncId) (args:bSH) (h:aI):S.CC g args h=FV (S.C0 g args h) (S.run S.CC S.LL g args h):=by
 have hg:=a4D NR (a:=S.C0 g args h) (a4E NR hS (RH hS) (a6C hS) (g:=g) (args:=args) (h:=h));refine Option.ext fun v => ?_
 have h1:S.CC g args h=some v↔∃ n,(S.aZ n).1 g args h=some v:=(RH hS g args h).lim v;have h2:FV (S.C0 g args h) (S.run S.CC S.LL g args h)=some v↔∃ n,(S.aZ (n+1)).1 g args h=some v:=hg.lim v;rw[h1,h2];exact ⟨fun ⟨n,hn⟩=>⟨n,(G5 hS n).1 _ _ _ _ hn⟩,fun ⟨n,hn⟩=>⟨n+1,hn⟩⟩
theorem aBZ (hS:S.OK) (E:AE) (m0:Nat) (l:List Nat) (m:Nat) (x:Code) (K:AX->ASt->R) (Z:ASt):S.LL E m0 l m x K Z=S.turn S.CC S.LL E m0 l m x K Z:=by
 have hg:=YQ NR hS (RH hS) (a6C hS) (E:=E) (m0:=m0) (l:=l) (m:=m) (x:=x) (K:=fun _=>K) (Z:=Z) fun e Z=>NR.const _
 refine Option.ext fun v => ?_
 have h1:S.LL E m0 l m x K Z=some v↔∃ n,(S.aZ n).2 E m0 l m x K Z=some v:=(a6C hS E m0 l m x (fun _=>K) Z fun e Z=>NR.const _).lim v;have h2:S.turn S.CC S.LL E m0 l m x K Z=some v↔∃ n,(S.aZ (n+1)).2 E m0 l m x K Z=some v:=hg.lim v;rw[h1,h2];exact ⟨fun ⟨n,hn⟩=>⟨n,(G5 hS n).2 _ _ _ _ _ _ _ _ _ (fun _ _ _ h=>h) hn⟩,fun ⟨n,hn⟩=>⟨n+1,hn⟩⟩
theorem DV (hS:S.OK) {E:AE} {m0:Nat} {l:List Nat} {m:Nat} {x:Code} {K:AX->ASt->R} {Z:ASt} (hm:m0<=m) (hg:Dz l m Z=true) (hP:S.wp E=E) :
 S.LL E m0 l m x K Z=chk (Fa l m Z) (bH (S.xe S.CC S.LL E m0) x (wX (fun Z'=>S.LL E m0 l m x K (Z'.gc l m)) K) (Z.gc l m)):=by
 rw[aBZ hS]; unfold SE.turn; rw[decide_eq_true hm,hg,hP]; rfl
theorem tY (hS:S.OK) {g:FuncId} {args:bSH} {h:aI} (h0:S.C0 g args h=none):S.CC g args h=S.run S.CC S.LL g args h:=by rw[J5 hS,h0]; rfl
theorem a97 {P:Program} {rs:List ResultVar} {ro:List (List Nat×Bool)} {m0:Nat} {fl:List Nat} {Z:ASt} {r:PV} {h':aI} (h:Fv P rs ro m0 fl Z=some (r,h')):∃ r0,Kw P rs m0 r0 h' Z/\xP ro r0=r:=by
 unfold Fv at h;split at h
 .rename_i q hq;obtain ⟨hpl,h⟩:=gJ h;split at h
  .rename_i hb;injection h with h
   injection h with h1 h2
   subst h1;simp only[au,iy] at hb;obtain ⟨b1,b2,b3⟩:=hb;have hlen:h'.length=Nat.max m0 (LJ q):=by rw[<- h2,nY]; omega
   refine ⟨q,⟨by rw[hlen]; exact a0E _ _,by rw[hlen]; exact h2,by rw[hlen]; exact b2,by rw[hlen,<- h2]; exact aCX hpl b3,?_⟩,rfl⟩;unfold aOU at hq;split at hq
   .exact hq
   .rename_i hne;split
    .rename_i x; exact absurd rfl (hne x)
    .exact hq
  .cases h
 .cases h
theorem aQ3:∀ {l:List Oper} {a:List Oper} {o:Oper} {c:Call} {b:List Oper},Zn l=some (a,o,c,b)->l=a ++ o::b/\o.op = .defer c
 | [],_,_,_,_,h=>by cases h
 | x::l,a,o,c,b,h=>by
  unfold Zn at h;split at h
  .rename_i hx; cases h; exact ⟨rfl,hx⟩
  .split at h
   .rename_i a' o' c' b' hs;cases h;obtain ⟨h1,h2⟩:=aQ3 hs;exact ⟨by rw[h1]; rfl,h2⟩
   .cases h
def QU (M:Mem) (B:aV) (m:Nat) (g:FuncId) (ps:bSH) (d:Deferred):Prop:=∃ cap vals,d.target = .fn (.func g) cap/\d.args ++ cap=vals/\bC M (B.take m) ps vals.toList
section
variable {n:Nat} {out:Nat->Nat} {m m0:Nat} {M M':Mem} {B B':aV} {Z Z':ASt} {t t':Array Value} {w w':World} {g:FuncId} {ps:bSH} {d:Deferred}
theorem QU.mono (h:QU M B m g ps d) (hG:bz n out m M B Z t w M' B' Z' t' w'):QU M' B' m g ps d:=by
 obtain ⟨cap,vals,h1,h2,h3⟩:=h;refine ⟨cap,vals,h1,h2,h3.mono ⟨hG.mem,fun i c hi => ?_⟩⟩;rw[iO] at hi ⊢;split at hi
 .rename_i hlt; rw[aJ hlt]; exact hG.pre i c hlt hi
 .cases hi
theorem bz.lessM (h:bz n out m M B Z t w M' B' Z' t' w') (hm:m0<=m):bz n out m0 M B Z t w M' B' Z' t' w':=⟨h.inv,h.mem,fun i c hi e=>h.pre i c (QI hi hm) e,h.fr,h.own⟩
end
def U2 (E:AE) (out:Nat->Nat) (m0:Nat) (M:Mem) (B:aV) (Z:ASt) (t:Array Value) (w:World) (v:PV×aI) (K0:AX->ASt->R) (KD:MO) (e:Exit) (a':Act) (w':World):Prop :=∃ ax Z' M' B',e=ax.toExit/\bz E.n out m0 M B Z t w M' B' Z' a'.tmps w'/\((K0 ax Z'=some v/\a'.defers = [])\/∃ m g ps d,m0<=m/\a'.defers = [d]/\QU M' B' m g ps d/\KD m g ps ax Z'=some v)
theorem bFM {E:AE} {out:Nat->Nat} {m0:Nat} {M M1:Mem} {B B1:aV} {Z Z1:ASt} {t t1:Array Value} {w w1:World} {v:PV×aI} {K0:AX->ASt->R} {KD:MO} (h:bz E.n out m0 M B Z t w M1 B1 Z1 t1 w1) {e:Exit} {a':Act} {w':World} (k:U2 E out m0 M1 B1 Z1 t1 w1 v K0 KD e a' w'):U2 E out m0 M B Z t w v K0 KD e a' w':=by obtain ⟨ax,Z',M',B',h1,h2,h3⟩:=k;exact ⟨ax,Z',M',B',h1,h.trans h2,h3⟩
theorem aKE {E:AE} {n:Nat} {out:Nat->Nat} {m0:Nat} {M:Mem} {B:aV} {Z:ASt} {t:Array Value} {w:World} {y:Code} {k:ASt->R} {v:PV×aI} (hI:Inv n M B out Z t w) (h:um E m0 y k Z=some v) :
 ∃ M2 B2 Z2,bz n out m0 M B Z t w M2 B2 Z2 t w/\k Z2=some v:=by
 have hj:∀ {M1:Mem} {B1:aV} {Z1:ASt},bz n out m0 M B Z t w M1 B1 Z1 t w->ED E m0 y k Z1=some v->∃ M2 B2 Z2,bz n out m0 M B Z t w M2 B2 Z2 t w/\k Z2=some v:=fun {M1 B1 Z1} hG he=>by
  unfold ED at he;cases hl:E.jt.lookup (CY y) with
  | none=>rw[hl] at he; exact ⟨M1,B1,Z1,hG,he⟩
  | some l =>
   rw[hl] at he;simp only at he;obtain ⟨hpl,he⟩:=gJ he;split at he
   .rename_i hg;simp only[au,iy] at hg;exact ⟨_,_,_,hG.trans (FC hG.inv hg.1 (a3Y hpl hg.2)),he⟩
   .cases he
 unfold um at h;split at h
 .obtain ⟨ks,he⟩:=oh _ h;obtain ⟨M2,B2,hz⟩:=XM (m0:=m0) ks hI;exact hj hz he
 .exact hj (bz.refl hI) h
theorem NK {C:Cal} {L:yD} {E:AE} {out:Nat->Nat} {m0:Nat} {v:PV×aI} (hm:E.P.follows .mixedOrders=true) (hS:S.OK) (hC:o6 E.P C) (hL:∀ m,IE (S.xe C L E m)):∀ (c:Code) {K0:AX->ASt->R} {KD:MO} {M:Mem} {B:aV} {Z:ASt} {a:Act} {w:World},
 S.sU C L E m0 c K0 KD Z=some v->Inv E.n M B out Z a.tmps w->a.defers = []->c.wp E.P (U2 E out m0 M B Z a.tmps w v K0 KD) a w
 | .seq x y,K0,KD,M,B,Z,a,w,h,hI,hd0=>by
  simp only[SE.sU] at h;split at h
  .refine wp_seq (vW (NK hm hS hC hL x h hI hd0) fun e a' w' hl => ?_);obtain ⟨ax,Z',M',B',rfl,hG,hl⟩:=hl;rcases hl with ⟨hq,hd⟩ | ⟨m,g,ps,d,hm0,hd,hD,hq⟩
   .cases ax with
    | normal =>
     obtain ⟨M2,B2,Z2,hj,hk⟩:=aKE hG.inv hq;refine vW (xK (m0:=m0) hm y hj.inv (wI (X:=S.xe C L E m0) hS.V hS.W hC (hL m0) y hk)) fun e a2 w2 hl2 => ?_
     obtain ⟨Qz,Z3,M3,B3,rfl,hq3,hd3,hG3⟩:=hl2;exact ⟨Qz,Z3,M3,B3,rfl,(hG.trans hj).trans hG3,.inl ⟨hq3,by rw[hd3,hd]⟩⟩
    | ret=>exact ⟨.ret,Z',M',B',rfl,hG,.inl ⟨hq,hd⟩⟩
    | exit i=>exact ⟨.exit i,Z',M',B',rfl,hG,.inl ⟨hq,hd⟩⟩
   .cases ax with
    | normal =>
     obtain ⟨M2,B2,Z2,hj,hk⟩:=aKE hG.inv hq;refine vW (xK (m0:=m) hm y hj.inv (wI (X:=S.xe C L E m) hS.V hS.W hC (hL m) y hk)) fun e a2 w2 hl2 => ?_
     obtain ⟨Qz,Z3,M3,B3,rfl,hq3,hd3,hG3⟩:=hl2;exact ⟨Qz,Z3,M3,B3,rfl,hG.trans ((hj.trans hG3).lessM hm0),.inr ⟨m,g,ps,d,hm0,by rw[hd3,hd],hD.mono (hj.trans hG3),hq3⟩⟩
    | ret=>exact ⟨.ret,Z',M',B',rfl,hG,.inr ⟨m,g,ps,d,hm0,hd,hD,hq⟩⟩
    | exit i=>exact ⟨.exit i,Z',M',B',rfl,hG,.inr ⟨m,g,ps,d,hm0,hd,hD,hq⟩⟩
  .refine wp_seq (vW (xK (m0:=m0) hm x hI (wI (X:=S.xe C L E m0) hS.V hS.W hC (hL m0) x h)) fun e a' w' hl => ?_);obtain ⟨ax,Z',M',B',rfl,hq,hd,hG⟩:=hl;cases ax with
   | normal=>exact vW (NK hm hS hC hL y hq hG.inv (by rw[hd,hd0])) fun e a2 w2 hl2=>bFM hG hl2
   | ret=>exact ⟨.ret,Z',M',B',rfl,hG,.inl ⟨hq,by rw[hd,hd0]⟩⟩
   | exit i=>exact ⟨.exit i,Z',M',B',rfl,hG,.inl ⟨hq,by rw[hd,hd0]⟩⟩
 | .cond c x y,K0,KD,M,B,Z,a,w,h,hI,hd0=>by
  have hx:∀ (x:Code),(∀ {Z1:ASt},S.sU C L E m0 x K0 KD Z1=some v->Inv E.n M B out Z1 a.tmps w->x.wp E.P (U2 E out m0 M B Z1 a.tmps w v K0 KD) a w)->(match EC x with | true=>S.sU C L E m0 x K0 KD Z | false=>bH (S.xe C L E m0) x K0 Z)=some v->x.wp E.P (U2 E out m0 M B Z a.tmps w v K0 KD) a w:=fun x ih hh=>by
   cases hd:EC x with
   | true=>rw[hd] at hh; exact ih hh hI
   | false =>
    rw[hd] at hh;refine vW (xK (m0:=m0) hm x hI (wI (X:=S.xe C L E m0) hS.V hS.W hC (hL m0) x hh)) fun e a2 w2 hl2 => ?_
    obtain ⟨Qz,Z3,M3,B3,rfl,hq3,hd3,hG3⟩:=hl2;exact ⟨Qz,Z3,M3,B3,rfl,hG3,.inl ⟨hq3,by rw[hd3,hd0]⟩⟩
  simp only[SE.sU] at h;split at h
  .rename_i b hb;have he:=jo.1 (hI.rd _ _ hb).1;split at h
   .rename_i d;cases b with
    | true =>simp only[aA,ZT hb] at h;exact wp_cond_split he (fun _=>hx x (fun k1 k2=>NK hm hS hC hL x k1 k2 hd0) h) (fun e=>by cases e)
    | false =>simp only[aA,ZT hb] at h;exact wp_cond_split he (fun e=>by cases e) (fun _=>hx y (fun k1 k2=>NK hm hS hC hL y k1 k2 hd0) h)
   .cases h
  .cases h
 | .block id x,K0,KD,M,B,Z,a,w,h,hI,hd0=>by
  simp only[SE.sU] at h;refine wp_block (vW (NK hm hS hC hL x h hI hd0) fun e a' w' hl => ?_);obtain ⟨ax,Z',M',B',rfl,hG,hl⟩:=hl;cases ax with
  | normal=>exact ⟨.normal,Z',M',B',rfl,hG,hl⟩
  | ret=>exact ⟨.ret,Z',M',B',rfl,hG,hl⟩
  | exit i =>
   simp only[AX.toExit,Exit.inBlock];simp only[aj] at hl;split
   .rename_i e; simp only[aJ e] at hl; exact ⟨.normal,Z',M',B',rfl,hG,hl⟩
   .rename_i e; simp only[aK e] at hl; exact ⟨.exit i,Z',M',B',rfl,hG,hl⟩
 | .region id ops draw,K0,KD,M,B,Z,a,w,h,hI,hd0=>by
  simp only[SE.sU] at h;split at h
  .cases h
  .split at h
   .rename_i pre o c post hs;obtain ⟨hl,ho⟩:=aQ3 hs;have hk:=YS (E:=E) hI;refine wp_region_list ?_;rw[hl];refine a0U (E:=E) pre hk.inv (Rf (X:=S.xe C L E m0) hS.V hS.W hC pre h) fun Z1 M1 B1 a1 w1 hq hG hd => ?_
    unfold Wp at hq;split at hq
    .rename_i f hg hdst aJG;split at hq
     .rename_i g first caps az hf has
      split at hq
      .rename_i hbl;obtain ⟨f',c',e1,r1,r2⟩:=zk.1 (hG.inv.rd _ _ hf).1;obtain ⟨ra,_⟩:=Ku hG.inv.rd has;unfold wpList;rw[aJ (by simp[Region.wanted,hg])];refine .inl ?_;unfold Oper.wp;have hrun:(execOp a1.eval o).run E.P w1 = .ok (.defer { target := .fn (.func g) c',args:=f' ++ c.args.map a1.eval }) w1:=by obtain ⟨callee,JJ,cts⟩:=c;simp only at aJG;subst aJG;unfold execOp;rw[ho];simp only[resolve,e1,Deferred.ofValue,kX,DN,qM]
       rw[hrun,Oper.upon_defer];have hput:∀ (a:Act) (u:Value),a.put o.dst u=a:=fun a u=>by rw[hdst]; rfl
       rw[hput];refine Qy (E:=E) post (a := { a1 with defers := { target := .fn (.func g) c',args:=f' ++ c.args.map a1.eval }::a1.defers }) hG.inv (Rf (X:=S.xe C L E m0) hS.V hS.W hC post hq) fun Z2 M2 B2 a2 w2 hq2 hG2 hd2 => ?_
       refine ⟨.normal,Z2,M2,B2,rfl,((hk.trans hG).trans hG2).c,.inr ⟨_,g,_,{ target := .fn (.func g) c',args:=f' ++ c.args.map a1.eval },a0E _ _,by rw[hd2]; simp only[hd,hd0],QU.mono (m:=_) ?_ hG2.c,hq2⟩⟩;refine ⟨c',_,rfl,rfl,?_⟩;have hr:bC M1 B1 (first ++ az ++ caps) (f' ++ c.args.map a1.eval ++ c').toList:=by simpa using zl (zl r1 ra) r2
       exact hr.blw hbl
      .cases hq
     .cases hq
    .cases hq
   .cases h
 | .skip,_,_,_,_,_,_,_,h,_,_=>by cases h
 | .label _,_,_,_,_,_,_,_,h,_,_=>by cases h
 | .exit _,_,_,_,_,_,_,_,h,_,_=>by cases h
 | .ret,_,_,_,_,_,_,_,h,_,_=>by cases h
 | .scope _,_,_,_,_,_,_,_,h,_,_=>by cases h
 | .loop _,_,_,_,_,_,_,_,h,_,_=>by cases h
 | .rangeFunc _ _ _ _,_,_,_,_,_,_,_,h,_,_=>by cases h
 | .goto _,_,_,_,_,_,_,_,h,_,_=>by cases h
 | .refuse _,_,_,_,_,_,_,_,h,_,_=>by cases h
theorem Ev.bHI {C:Cal} {L:yD} {g:FuncId} {fn:Func} {c:Code} (hm:S.P.follows .mixedOrders=true) (hS:S.OK) (hC:o6 S.P C) (hCD:∀ g args h r h',S.CD C g args h=some (r,h')->sG S.P (CD S.P) g args h r h') (hL:∀ m,IE (S.xe C L (S.ae g fn.ntmps) m))
 (hf:S.P.funcs[g]? = some fn) (hb:fn.body=some c) (hn:(fn.name != "runtime.NumGoroutine")=true) {args:bSH} {h:aI} {r:PV} {h':aI} (hlen:args.length<=fn.ntmps)
 (hA:S.sU C L (S.ae g fn.ntmps) h.length c (Fq S.P fn.results.toList (S.iI g).ro h.length (Dv args)) (S.Ue C L (S.ae g fn.ntmps) fn.results.toList (S.iI g).ro h.length (Dv args)) ⟨lY 0 args,h⟩=some (r,h')):Ev S.P g args h r h':=by
 refine ⟨by simp[callable,hf,hb]; simpa using hn,fun out M B w vals hmem hheap hcnt hnew hv => ?_⟩;have hI:=aK2 (n:=fn.ntmps) hlen hmem hheap hcnt hnew hv;refine calls_of_wp_defers hf hb (vW (NK (E:=S.ae g fn.ntmps) (out:=out) (a := { tmps:=vals ++ Array.replicate (fn.ntmps-vals.size) undef,defers := [] }) hm hS hC hL c hA hI rfl) fun e a' w' hl => ?_);obtain ⟨ax,Z',M',B',rfl,hG,hl⟩:=hl;have fin:∀ {M2 B2 Z2 w2},bz fn.ntmps out h.length M B ⟨lY 0 args,h⟩ (vals ++ Array.replicate (fn.ntmps-vals.size) undef) w M2 B2 Z2 a'.tmps w2->Fv S.P fn.results.toList (S.iI g).ro h.length (Dv args) Z2=some (r,h')->∃ v,(results fn a'.tmps).run S.P w2 = .ok v w2/\∃ v' M' B',Ending.returned v = .returned v'/\Post h B out M w r h' v' M' B' w2:=fun {M2 B2 Z2 w2} hG2 hk=>by obtain ⟨r0,hret,rfl⟩:=a97 hk;obtain ⟨v,hrun,M'',B'',hpost⟩:=aEH (ro:=(S.iI g).ro) hheap hG2 hret;exact ⟨v,hrun,v,M'',B'',rfl,hpost⟩
 rcases hl with ⟨hk,hd⟩ | ⟨m,g2,ps,d,hm0,hd,hD,hk⟩
 .have key:Fv S.P fn.results.toList (S.iI g).ro h.length (Dv args) Z'=some (r,h')->Leaves S.P fn a'.tmps (fun e w'=>∃ v M' B',e = .returned v/\Post h B out M w r h' v M' B' w') a'.defers .returning w':=fun hk=>by rw[hd]; exact fin hG hk
  cases ax with
  | normal=>exact key hk
  | ret=>exact key hk
  | exit i=>cases hk
 .have key:zK (S.xe (S.CD C) L (S.ae g fn.ntmps) h.length) none g2 ps (H7 Z'.h 3 (xH [] (PV.xU ps))) (Fv S.P fn.results.toList (S.iI g).ro h.length (Dv args)) Z'=some (r,h')->Leaves S.P fn a'.tmps (fun e w'=>∃ v M' B',e = .returned v/\Post h B out M w r h' v M' B' w') a'.defers .returning w':=fun hk=>by
   obtain ⟨r1,h1,hE,hp⟩:=aE1 (X:=S.xe (S.CD C) L (S.ae g fn.ntmps) h.length) (aD7 S.P) hS.W hCD (full':=ps) (fun _ _ _ x=>x) hk;unfold ig at hp;split at hp
   .rename_i Z2 hput;obtain ⟨cap,vs,htar,bCZ,Jp⟩:=hD;have Jp:bC M' B' ps vs.toList:=Jp.mono ⟨fun _ _ _ x=>x,fun i c hi=>by
     rw[iO] at hi;split at hi
     .exact hi
     .cases hi⟩
    have hcall:=hE.1;unfold callable at hcall;split at hcall
    .rename_i XJ hfn2;simp only[au,bne_iff_ne,ne_eq] at hcall;have hinv:(invoke d.target d.args).run S.P w' = .ok (.enter g2 vs) w':=by
      rw[htar];have bCK:S.P.funcs[g2]? = some XJ:=hfn2;simp only[invoke,callFunc,run_program,kX,DN,qM];have hnb:XJ.body.isNone=false:=by cases hb:XJ.body<;>simp[hb] at hcall ⊢
      have hnn:(XJ.name == "runtime.NumGoroutine")=false:=by simpa using hcall.1
      rw[bCZ,bCK]; simp only[hnn,hnb,uP,tX,DN]
     rw[hd];refine ⟨by simp,_,cap,g2,vs,htar,hinv,?_⟩;refine CallsD.mono (aD0 (E:=S.ae g fn.ntmps) (aD7 S.P) hG.inv Jp hE (dst:=none) hput (a:=a') (R:=fun e w2=>∃ v,e = .returned v/\∃ v2,(results fn a'.tmps).run S.P w2 = .ok v2 w2/\∃ v' M' B',Ending.returned v2 = .returned v'/\Post h B out M w r h' v' M' B' w2) fun v M2 B2 w2 hG2 => ?_) fun e u' w2 hh => ?_
     .exact ⟨v,rfl,fin (hG.trans hG2.c) hp⟩
     .obtain ⟨rfl,v,rfl,hh⟩:=hh;exact hh
    .cases hcall
   .exact hp.elim
  cases ax with
  | normal=>exact key hk
  | ret=>exact key hk
  | exit i=>cases hk
theorem a9S (hm:S.P.follows .mixedOrders=true) (hS:S.OK) (h0:o6 S.P S.C0):∀ n,(o6 S.P (S.aZ n).1/\∀ g args h r h',S.CD (S.aZ n).1 g args h=some (r,h')->sG S.P (CD S.P) g args h r h') /\
 ∀ E m0 l m x (K:AX->ASt->R) Z v,S.wp E=E->(S.aZ n).2 E m0 l m x K (Z.gc l m)=some v->Kz m0 (dF E m0 x) (fun e Z'=>K e Z'=some v) n Z
 | 0=>by
  refine ⟨⟨h0,fun g args h r h' hv => ?_⟩,fun _ _ _ _ _ _ _ _ _ h=>by cases h⟩;unfold SE.CD at hv;split at hv
  .cases hv
  .rename_i hc;split at hv
   .cases hv
   .rw[show (S.aZ 0).1 g args h=S.C0 g args h from rfl,hc] at hv; cases hv
 | n+1=>by
  obtain ⟨⟨ih1,ihD⟩,ih2⟩:=a9S hm hS h0 n;have a4N:∀ E m0,S.wp E=E->IE (S.xe (S.aZ n).1 (S.aZ n).2 E m0):=fun E m0 hE l m x K Z v hv=>by refine ⟨n,?_⟩;exact ih2 E m0 l m x K Z v hE hv
  have body:∀ {cp:CP} (g:FuncId) (args:bSH) (h:aI) (r:PV) (h':aI),(∀ (fn:Func) (c:Code),S.P.funcs[g]? = some fn->fn.body=some c->∀ (vals:Array Value) (w:World) (R:Ending->World->Prop),c.wp S.P (bodyPost S.P fn R) { tmps:=vals ++ Array.replicate (fn.ntmps-vals.size) undef,defers := [] } w->cp g vals w R) ->
   (S.iI g).df=false->S.run (S.aZ n).1 (S.aZ n).2 g args h=some (r,h')->sG S.P cp g args h r h':=fun {cp} g args h r h' hcp hdf hv=>by
   unfold SE.run at hv;split at hv
   .rename_i fn hf;split at hv
    .rename_i c hb;split at hv
     .rename_i hd;rw[hdf] at hv;simp only[au,iy] at hd;have key:=wI (X:=S.xe (S.aZ n).1 (S.aZ n).2 (S.ae g fn.ntmps) h.length) hS.V hS.W ih1 (a4N _ _ rfl) c hv;refine sG.a6N (cp:=cp) (fun k=>hcp _ _ hf hb _ _ _ k) hm hf hb hd.2 (S.iI g).vars (S.iI g).mv (S.iI g).mu (S.iI g).sz (S.iI g).jt (S.iI g).lt (S.iI g).pt (S.iI g).fz (S.iI g).ro (S.iI g).ft (S.iI g).sy (S.iI g).ln hd.1 (xJ c (fun e Z' he => ?_) key);cases e with
      | normal=>exact ⟨trivial,a97 he⟩
      | ret=>exact ⟨trivial,a97 he⟩
      | exit i=>cases he
     .cases hv
    .cases hv
   .cases hv
  refine ⟨⟨fun g args h r h' hv => ?_,fun g args h r h' hv => ?_⟩,fun E m0 l m x K Z v hE hv => ?_⟩
  .have hv:FV (S.C0 g args h) (S.run (S.aZ n).1 (S.aZ n).2 g args h)=some (r,h'):=hv;cases hc:S.C0 g args h with
   | some x=>rw[hc] at hv; injection hv with hv; subst hv; exact h0 _ _ _ _ _ hc
   | none =>
    rw[hc] at hv;have hv:S.run (S.aZ n).1 (S.aZ n).2 g args h=some (r,h'):=hv;cases hdf:(S.iI g).df with
    | false=>exact body (cp:=Calls S.P) g args h r h' (fun _ _ hf hb _ _ _ k=>calls_of_wp hf hb k) hdf hv
    | true =>
     unfold SE.run at hv;split at hv
     .rename_i fn hf;split at hv
      .rename_i c hb;split at hv
       .rename_i hd;rw[hdf] at hv;simp only[au,iy] at hd;exact Ev.bHI hm hS ih1 ihD (fun m=>a4N _ _ rfl) hf hb hd.2 hd.1 hv
       .cases hv
      .cases hv
     .cases hv
  .unfold SE.CD at hv;split at hv
   .cases hv
   .rename_i hc;split at hv
    .cases hv
    .rename_i hdf;have hv:FV (S.C0 g args h) (S.run (S.aZ n).1 (S.aZ n).2 g args h)=some (r,h'):=hv;rw[hc] at hv;exact body (cp:=CD S.P) g args h r h' (fun _ _ hf hb _ _ _ k=>callsD_of_wp hf hb k) hdf hv
  .have hv:S.turn (S.aZ n).1 (S.aZ n).2 E m0 l m x K (Z.gc l m)=some v:=hv;rw[bNB] at hv;unfold SE.turn at hv;obtain ⟨hpl,hv⟩:=gJ hv;split at hv
   .rename_i hc;simp only[au,iy] at hc;rw[hE] at hv;refine ⟨l,m,hc.1,a3Y hpl hc.2,xJ x (fun e Z' he => ?_) (wI (X:=S.xe (S.aZ n).1 (S.aZ n).2 E m0) hS.V hS.W (by rw[<- hE]; exact ih1) (a4N _ _ hE) x hv)⟩;cases e with
    | normal=>exact ih2 E m0 l m x K Z' v hE he
    | ret=>exact he
    | exit i=>exact he
   .cases hv
theorem aBE (hS:S.OK) (n:Nat) {g:FuncId} {args:bSH} {h:aI} {v:PV×aI} (e:(S.aZ n).1 g args h=some v):S.CC g args h=some v:=((RH hS g args h).lim v).2 ⟨n,e⟩
theorem MC (hm:S.P.follows .mixedOrders=true) (hS:S.OK) (h0:o6 S.P S.C0):o6 S.P S.CC:=fun g args h r h' hv=>by obtain ⟨n,hn⟩:=((RH hS g args h).lim _).1 hv;exact (a9S hm hS h0 n).1.1 g args h r h' hn
end
def vI (k:IntKind) (p:PV) (K:Int->R):R:=match p with | .int k' n=>(match decide (k'=k) with | true=>K n | false=>none) | _=>none
def vB (p:PV) (K:Bool->R):R:=match p with | .bool b=>K b | _=>none
def vS (p:PV) (K:ByteArray->R):R:=match p with | .str b=>K b | _=>none
def vL (o:Bool) (z:Nat) (p:PV) (K:bSH->R):R:=match p with | .sl o' z' es=>(match o'==o&&Nat.beq z' z with | true=>K es | false=>none) | _=>none
def w0 (p:PV) (K:R):R:=match p with | .tuple []=>K | _=>none
@[simp] theorem BB (k : IntKind) (n : Int) (K : Int -> R) : vI k (.int k n) K = K n := by simp [vI]
@[simp] theorem yg (b : Bool) (K : Bool -> R) : vB (.bool b) K = K b := rfl
@[simp] theorem jR (b : ByteArray) (K : ByteArray -> R) : vS (.str b) K = K b := rfl
@[simp] theorem a01 (o : Bool) (z : Nat) (es : bSH) (K : bSH -> R) : vL o z (.sl o z es) K = K es := by simp [vL]
@[simp] theorem bS9 (K : R) : w0 (.tuple []) K = K := rfl
theorem rZ (k:IntKind) (p:PV):(∀ K:PV->R,vI k p (fun n=>K (.int k n))=K p)\/(∀ K:PV->R,vI k p (fun n=>K (.int k n))=none):=by
 unfold vI; split
 .split
  .rename_i h; have h:=qo h; subst h; exact .inl fun _=>rfl
  .exact .inr fun _=>rfl
 .exact .inr fun _=>rfl
theorem Io (p:PV):(∀ K:PV->R,vB p (fun n=>K (.bool n))=K p)\/(∀ K:PV->R,vB p (fun n=>K (.bool n))=none):=by
 unfold vB; split
 .exact .inl fun _=>rfl
 .exact .inr fun _=>rfl
theorem V9 (p:PV):(∀ K:PV->R,vS p (fun n=>K (.str n))=K p)\/(∀ K:PV->R,vS p (fun n=>K (.str n))=none):=by
 unfold vS; split
 .exact .inl fun _=>rfl
 .exact .inr fun _=>rfl
theorem BC (o:Bool) (z:Nat) (p:PV):(∀ K:PV->R,vL o z p (fun n=>K (.sl o z n))=K p)\/(∀ K:PV->R,vL o z p (fun n=>K (.sl o z n))=none):=by
 unfold vL; split
 .split
  .rename_i h;simp only[au,oN] at h;have h2:=lm h.2;obtain ⟨rfl,_⟩:=h;subst h2;exact .inl fun _=>rfl
  .exact .inr fun _=>rfl
 .exact .inr fun _=>rfl
theorem bOC (p:PV) (h:aI):(∀ K:PV->aI->R,w0 p (K (.tuple []) h)=K p h)\/(∀ K:PV->aI->R,w0 p (K (.tuple []) h)=none):=by
 unfold w0; split
 .exact .inl fun _=>rfl
 .exact .inr fun _=>rfl
theorem zf {f:(PV->R)->R} {p:PV} (hf:(∀ K:PV->R,f K=K p)\/(∀ K:PV->R,f K=none)) (h:aI):(∀ K:PV->aI->R,f (fun q=>K q h)=K p h)\/(∀ K:PV->aI->R,f (fun q=>K q h)=none):=by
 rcases hf with e | e
 .exact .inl fun K=>e _
 .exact .inr fun K=>e _
theorem kV {b:Bool} {f g:(PV->R)->R} {p:PV} (hf:(∀ K:PV->R,f K=K p)\/(∀ K:PV->R,f K=none)) (hg:(∀ K:PV->R,g K=K p)\/(∀ K:PV->R,g K=none)) :
 (∀ K:PV->R,aA b (f K) (g K)=K p)\/(∀ K:PV->R,aA b (f K) (g K)=none):=by
 cases b
 .exact hg
 .exact hf
theorem su {b:Bool} {f g:(PV->aI->R)->R} {p:PV} {h:aI} (hf:(∀ K:PV->aI->R,f K=K p h)\/(∀ K:PV->aI->R,f K=none)) (hg:(∀ K:PV->aI->R,g K=K p h)\/(∀ K:PV->aI->R,g K=none)) :
 (∀ K:PV->aI->R,aA b (f K) (g K)=K p h)\/(∀ K:PV->aI->R,aA b (f K) (g K)=none):=by
 cases b
 .exact hg
 .exact hf
noncomputable def qU (f:Func):Code:=match f.body with | some c=>c | none => .skip
def Code.sub:List Bool->Code->Code
 | [],c=>c
 | b::p,.seq x y=>match b with | true=>Code.sub p y | false=>Code.sub p x
 | b::p,.cond _ x y=>match b with | true=>Code.sub p y | false=>Code.sub p x
 | b::p,.rangeFunc _ _ x y=>match b with | true=>Code.sub p y | false=>Code.sub p x
 | _::p,.block _ x=>Code.sub p x
 | _::p,.scope x=>Code.sub p x
 | _::p,.loop x=>Code.sub p x
 | _,c=>c
@[simp] theorem aG (A B : R) : aA true A B = A := rfl
@[simp] theorem aC (A B : R) : aA false A B = B := rfl
theorem N7 (b:Bool) (A B:R):aA b A B=if b=true then A else B:=by cases b<;>rfl
theorem aX {b:Bool} {A:R} (h:b=true):chk b A=A:=by subst h; rfl
theorem lH {es:bSH} {n:Int} {K:PV->R} {e:PV} (h0:0<=n) (h:es[n.toNat]? = some e):dQ es n K=K e:=by unfold dQ; rw[aJ h0,h]
theorem Di {s:ByteArray} {n:Int} {K:Int->R} {b:UInt8} (h0:0<=n) (h:s[n.toNat]? = some b):vz s n K=K b.toNat:=by unfold vz; rw[aJ h0,h]
theorem oZ {C:Cal} {g:FuncId} {args:bSH} {K:PV->R} {r:PV} (h:C g args []=some (r,[])):jF C g args K=K r:=by unfold jF; rw[h]
theorem aN4 {es:bSH} {K:Bool->R} {v:PV×aI} (h1:K false=some v) (h2:es = []->K true=some v):IK es K=some v:=by
 unfold IK;rw[h1];obtain ⟨r,h⟩:=v;cases es with
 | nil=>simp[h2 rfl,aVG]
 | cons a l=>rfl
section
variable {E:AE} {ops:Array Oper} {K:ASt->Prop}
end
end Go.Proofs.YtcdceiloganlnaaGreatDoor
namespace Go.Proofs.YtcdceiloganlnaaGreatDoor
open Go.RowKit Go.ChangeShapes Go.WideShapes Go.ChangeAt
def a03 (w:World) (b o:Nat):Option Value:=match w.cell? ⟨b,o,none⟩ with | some v=>if v.oneCell' then some v else none | none=>none
theorem aA' {w:World} {b o:Nat} {v:Value}:a03 w b o=some v↔w.cell? ⟨b,o,none⟩=some v/\v.oneCell'=true:=by
 unfold a03;cases h:w.cell? ⟨b,o,none⟩ with
 | none=>simp
 | some u =>
  simp only;by_cases hu:u.oneCell'=true
  .rw[aJ hu];exact ⟨fun e=>by injection e with e; subst e; exact ⟨rfl,hu⟩,fun e=>by rw[e.1]⟩
  .rw[aK hu];exact ⟨fun e=>(by cases e),fun ⟨e1,e2⟩=>by injection e1 with e1; subst e1; exact absurd e2 hu⟩
def GW (w:World):Prop:=∃ m,∀ b o v,BI m b o=some v->a03 w b o=some v
def whole (w:World) (h:GW w):Mem:=⟨Classical.choose h,a03 w,Q9 h⟩
theorem bP0 {w:World} {hw:GW w} {b o:Nat} {v:Value}:whole w hw b o=some v↔w.cell? ⟨b,o,none⟩=some v/\v.oneCell'=true:=aA'
theorem bO' (w:World) (hw:GW w):zX (whole w hw) w:=fun _ _ _ h=>bP0.1 h
theorem Ev.top {P:Program} {g:FuncId} {args:bSH} {r:PV} {w:World} {hw:GW w} {vals:Array Value} (h:Ev P g args [] r []) (ha:bC (whole w hw) [] args vals.toList) :
 Calls P g vals w fun e w'=>∃ v M',e = .returned v/\Rep M' [] r v/\zX M' w'/\Below w.heap.size w w':=by
 have h0:∀ w b,aU w [] [] b=0:=fun w b=>by simp[aU]
 refine (h.2 (fun _=>0) (whole w hw) [] w vals (bO' w hw) ⟨rfl,fun i cs hi=>by simp at hi⟩ (fun b=>by rw[h0]; omega) (fun b _=>by rw[h0]) ha).mono fun e w' he => ?_
 obtain ⟨v,M',B',rfl,hP⟩:=he;have hB':B' = []:=qK (by have:=hP.heap.1; simpa using this.symm);subst hB';exact ⟨v,M',rfl,hP.rep,hP.mem,hP.fr.os,hP.fr.tape,hP.fr.output,hP.fr.size,fun k hk=>(hP.fr.blk k hk (h0 w k)).1⟩
section
variable {H:Type} {enc:TypeId×Value->H} {W:World} {hW:GW W} {P:Program}
end
end Go.Proofs.YtcdceiloganlnaaGreatDoor
namespace Go.Proofs.YtcdceiloganlnaaGreatDoor
open Go.RowKit
abbrev Ib (l:Nat):Fence:=Fence.wide.inRound l
section
variable {P:Program} {l n:Nat}
theorem aU7 {f:FuncId} {args:Array Value} {w:World} {R:Ending->World->Prop} (h:Calls P f args w R):CallsIn (Ib l) n P f args w R :=callsIn_wide.2 h
theorem bL4 {row:String} {args:Array Value} {w:World} {R:Value->World->Prop} (h:Rows P row args w R):RowsIn (Ib l) n P row args w R :=fun c cs _=>let ⟨v,w',r,s⟩:=h c cs; ⟨v,w',r,stepsIn_wide.2 s⟩
theorem aNK {o:Oper} {a:Act} {w:World} {K:Act->World->Prop} {Q:Exit->Act->World->Prop} (hd:∀ c,o.op ≠ .defer c) (h:o.wp P a w K Q):o.wpIn (Ib l) n P a w K Q:=by
 refine ⟨fun _ _=>trivial,?_⟩;rw[show (Ib l).round=some l from rfl,Oper.semAt_some l a.eval o hd];unfold Oper.wp at h;generalize (execOp a.eval o).run P w=r at *;cases r with
 | ok x w' =>
  cases x<;>simp only[Oper.upon,Oper.uponIn] at h ⊢ <;>
   first
    | exact h
    | exact h.elim
    | exact ⟨fun h=>by simp[Fence.wide,Fence.inRound] at h,aU7 h⟩
    | exact ⟨fun h=>by simp[Fence.wide,Fence.inRound] at h,bL4 h⟩
 | halt x w'=>cases x<;>simp only[Oper.upon,Oper.uponIn] at h ⊢ <;> exact h
def KO (o:Oper):Bool:=match o.op with | .defer _=>false | _=>true
theorem aN8 {o:Oper} (h:KO o=true):∀ c,o.op ≠ .defer c:=fun c hc=>by simp[KO,hc] at h
theorem a5Y {ops:Array Oper} {Q:Exit->Act->World->Prop} (hQ:¬ LetsOut Q):∀ (os:List Oper),(os.all KO)=true->∀ (a:Act) (w:World),wpList P ops Q os a w->wpListIn (Ib l) n P ops Q os a w
 | [],_,a,w,h=>h
 | o::os,hd,a,w,h=>by
  simp only[vN,au] at hd;unfold wpList at h;unfold wpListIn;split at h
  .rename_i hw;rw[aJ hw];rcases h with h | h
   .exact Oper.wpIn_mono (fun a w=>a5Y hQ os hd.2 a w) (aNK (aN8 hd.1) h)
   .exact absurd h.2 hQ
  .rename_i hw;rw[aK hw];exact ⟨fun _ _=>trivial,a5Y hQ os hd.2 _ _ h⟩
theorem Qu {md:Region.Mode} {ops:Array Oper} {Q:Exit->Act->World->Prop} (hQ:¬ LetsOut Q) (hd:ops.all KO=true):∀ (fuel:Nat) (L:Array Bool) (a:Act) (w:World),wpAny P md ops Q fuel L a w->wpAnyIn (Ib l) n P md ops Q fuel L a w
 | 0,L,a,w,h=>h
 | fuel+1,L,a,w,h=>by
  refine ⟨h.1,fun i hi => ?_⟩;have h2:=h.2 i hi;unfold wpOp at h2;unfold wpOpIn;cases ho:ops[i]? with
  | none=>rw[ho] at h2; exact Qu hQ hd fuel _ a w h2
  | some o =>
   rw[ho] at h2;have hdo:KO o=true:=by obtain ⟨hlt,he⟩:=wu.1 ho;rw[Array.all_eq_true] at hd;rw[<- he]; exact hd i hlt
   show if Region.wanted o (yielded ops a.tmps)=true then _ else _
   have h2:if Region.wanted o (yielded ops a.tmps)=true then _ else _:=h2
   split at h2
   .rename_i hw;rw[aJ hw];rcases h2 with h2 | h2
    .exact Oper.wpIn_mono (fun a w=>Qu hQ hd fuel _ a w) (aNK (aN8 hdo) h2)
    .exact absurd h2.2 hQ
   .rename_i hw;rw[aK hw];exact ⟨fun _ _=>trivial,Qu hQ hd fuel _ _ _ h2⟩
end
def oC:Code->Bool
 | .region _ ops _=>ops.all KO
 | .seq x y=>oC x&&oC y
 | .cond _ x y=>oC x&&oC y
 | .block _ x=>oC x
 | .loop x=>oC x
 | .scope _=>false
 | .rangeFunc _ _ _ _=>false
 | _=>true
section
variable {E:AE} {m0 l n:Nat} {out:Nat->Nat}
theorem a5W {M:Mem} {B:aV} {Z:ASt} {t:Array Value} {w:World} {ds:List Deferred} {Q:AX->ASt->Prop}:¬ LetsOut (lift E out m0 M B Z t w ds Q):=by rintro ⟨a,w',ax,Z',M',B',h,_⟩;cases ax<;>cases h
theorem Ey (hm:E.P.follows .mixedOrders=true):∀ (c:Code),oC c=true->∀ {M:Mem} {B:aV} {Z:ASt} {a:Act} {w:World} {Q:AX->ASt->Prop},Inv E.n M B out Z a.tmps w->dF E m0 c Q Z->c.wpIn (Ib l) n E.P (lift E out m0 M B Z a.tmps w a.defers Q) a w
 | .skip,_,M,B,Z,a,w,Q,hI,h=>wpIn_skip ⟨.normal,Z,M,B,rfl,h,rfl,bz.refl hI⟩
 | .label _,_,M,B,Z,a,w,Q,hI,h=>wpIn_label ⟨.normal,Z,M,B,rfl,h,rfl,bz.refl hI⟩
 | .exit id,_,M,B,Z,a,w,Q,hI,h=>wpIn_exit ⟨.exit id,Z,M,B,rfl,h,rfl,bz.refl hI⟩
 | .ret,_,M,B,Z,a,w,Q,hI,h=>wpIn_ret ⟨.ret,Z,M,B,rfl,h,rfl,bz.refl hI⟩
 | .region id ops draw,hn,M,B,Z,a,w,Q,hI,h=>by
  have hk:=YS (E:=E) hI;have hn:ops.all KO=true:=hn;rw[dF] at h;cases draw with
  | false =>simp only[uP,tX] at h;exact wpIn_region_list (a5Y a5W _ (by rw[Array.all_toList]; exact hn) _ _ (Qy _ hk.inv h fun Z' M' B' a' w' hq hG hd=>⟨.normal,Z',M',B',rfl,hq,hd,(hk.trans hG).c⟩))
  | true =>
   simp only[gV] at h;have hd:=hk.inv.drew;rcases h with ⟨hok,h⟩ | h
   .obtain ⟨Z',hc,hq⟩:=a0T ops.toList 0 (fun j=>by simp) h;have hu:oH ops.size (Array.replicate ops.size false)=List.range' 0 ops.toList.length:=by unfold oH;rw[List.filter_eq_self.2 (fun i hi=>by have:=DJ.1 hi; simp[this]),aB9]; simp
    refine wpIn_region_any hm (Qu a5W hn _ _ _ _ ?_);refine aCJ hok ops.size (Array.replicate ops.size false) (K:=Q .normal) (Z':=Z') (by simp) (by rw[hu]; simp) (fun j o _ h => ?_) hd.1 (by rw[hu]; exact hc) hq fun M' B' a' w' hk' hG hd'=>⟨.normal,Z',M',B',rfl,hk',hd',((hk.trans hd.2).trans hG).c⟩
    have h':(Array.replicate ops.size false).getD j false=true:=h;simp[Array.getElem?_replicate] at h';split at h'<;>simp at h'
   .exact wpIn_region_any hm (Qu a5W hn _ _ _ _ (a0P ops.size _ hd.1 (Vt _ hd.1.gu h) fun Zt M' B' a' w' hq hG hd'=>⟨.normal,Zt,M',B',rfl,hq,hd',((hk.trans hd.2).trans hG).c⟩))
 | .seq x y,hn,M,B,Z,a,w,Q,hI,h=>by
  simp only[oC,au] at hn;rw[dF] at h;refine Lu (uS (Ey hm x hn.1 hI h) fun e a' w' hl => ?_);obtain ⟨ax,Z',M',B',rfl,hq,hd,hG⟩:=hl;cases ax with
  | normal =>
   obtain ⟨ks,hq⟩:=hq;obtain ⟨M2,B2,hz⟩:=XM (m0:=m0) ks hG.inv;have hG:=hG.trans hz;rcases hq with hq | ⟨l,m,hm0,hg,hq⟩
   .exact uS (Ey hm y hn.2 hG.inv hq) fun e a2 w2 hl2=>by rw[hd] at hl2; exact Yv hG hl2
   .have hgc:=hG.trans (FC hG.inv hm0 hg);exact uS (Ey hm y hn.2 hgc.inv hq) fun e a2 w2 hl2=>by rw[hd] at hl2; exact Yv hgc hl2
  | ret=>exact ⟨.ret,Z',M',B',rfl,hq,hd,hG⟩
  | exit i=>exact ⟨.exit i,Z',M',B',rfl,hq,hd,hG⟩
 | .cond c x y,hn,M,B,Z,a,w,Q,hI,h=>by
  simp only[oC,au] at hn;rw[dF] at h;split at h
  .rename_i b hb;have he:=jo.1 (hI.rd _ _ hb).1;refine wpIn_cond_split he (fun hb=>Ey hm x hn.1 hI (h.1 hb)) (fun hb=>Ey hm y hn.2 hI (h.2 hb))
  .exact h.elim
 | .block id x,hn,M,B,Z,a,w,Q,hI,h=>by
  rw[dF] at h;refine wpIn_block (uS (Ey hm x (by simpa[oC] using hn) hI h) fun e a' w' hl => ?_);obtain ⟨ax,Z',M',B',rfl,hq,hd,hG⟩:=hl;cases ax with
  | normal=>exact ⟨.normal,Z',M',B',rfl,hq,hd,hG⟩
  | ret=>exact ⟨.ret,Z',M',B',rfl,hq,hd,hG⟩
  | exit i =>
   simp only[AX.toExit,Exit.inBlock];simp only[Me] at hq;split
   .rename_i e; rw[aJ e] at hq; exact ⟨.normal,Z',M',B',rfl,hq,hd,hG⟩
   .rename_i e; rw[aK e] at hq; exact ⟨.exit i,Z',M',B',rfl,hq,hd,hG⟩
 | .scope x,hn,_,_,_,_,_,_,_,_=>by simp[oC] at hn
 | .loop x,hn,M,B,Z,a,w,Q,hI,h=>by
  rw[dF] at h;obtain ⟨k,hk⟩:=h;refine wpIn_loop_rounds k ?_;have key:∀ (k:Nat) (M1:Mem) (B1:aV) (Z1:ASt) (a1:Act) (w1:World),bz E.n out m0 M B Z a.tmps w M1 B1 Z1 a1.tmps w1->a1.defers=a.defers->Kz m0 (dF E m0 x) Q k Z1->Code.roundsIn (Ib l) n E.P x (lift E out m0 M B Z a.tmps w a.defers Q) k a1 w1:=by
   intro k;induction k with
   | zero=>intro M1 B1 Z1 a1 w1 _ _ h; exact h.elim
   | succ k ih =>
    intro M1 B1 Z1 a1 w1 hG hd h;obtain ⟨l,m,hm0,hg,hb⟩:=h;have hgc:=FC hG.inv hm0 hg;rw[roundsIn_succ];refine uS (Ey hm x (by simpa[oC] using hn) hgc.inv hb) fun e a' w' hl => ?_
    obtain ⟨ax,Z',M',B',rfl,hq,hd',hG'⟩:=hl;have hG2:=(hG.trans hgc).trans hG';cases ax with
    | normal=>exact ih M' B' Z' a' w' hG2 (by rw[hd',hd]) hq
    | ret=>exact ⟨.ret,Z',M',B',rfl,hq,by rw[hd',hd],hG2⟩
    | exit i=>exact ⟨.exit i,Z',M',B',rfl,hq,by rw[hd',hd],hG2⟩
  exact key k M B Z a w (bz.refl hI) rfl hk
 | .rangeFunc f ps az b,_,_,_,_,_,_,_,_,h=>by rw[dF] at h; exact h.elim
 | .goto l,_,_,_,_,_,_,_,_,h=>by rw[dF] at h; exact h.elim
 | .refuse l,_,_,_,_,_,_,_,_,h=>by rw[dF] at h; exact h.elim
end
structure qp (l n:Nat) (out:Nat->Nat) (m0:Nat) (M:Mem) (B:aV) (Z:ASt) (t:Array Value) (w:World) (M':Mem) (B':aV) (Z':ASt) (t':Array Value) (w':World):Prop where
 inv:Inv n M' B' out Z' t' w'
 mem:∀ (b o:Nat) (v:Value),M b o=some v->M' b o=some v
 pre:∀ (i:Nat) (c:Nat×Nat×TypeId),i<m0->B[i]? = some c->B'[i]? = some c
 os:w'.os=w.os
 tape:w'.tape=w.tape
 output:w'.output=w.output
 size:w.heap.size<=w'.heap.size
 blk:∀ b,b<w.heap.size->b≠l->fp B Z t w b=0->w'.heap[b]? = w.heap[b]? /\ ∀ o,M' b o=M b o
 own:∀ b,b<w.heap.size->fp B' Z' t' w' b<=fp B Z t w b
section
variable {n l:Nat} {out:Nat->Nat} {m0:Nat} {M M1 M2:Mem} {B B1 B2:aV} {Z Z1 Z2:ASt} {t t1 t2:Array Value} {w w1 w2:World}
theorem bz.gl (h:bz n out m0 M B Z t w M1 B1 Z1 t1 w1):qp l n out m0 M B Z t w M1 B1 Z1 t1 w1 :=⟨h.inv,h.mem,h.pre,h.fr.os,h.fr.tape,h.fr.output,h.fr.size,fun b hb _ h0=>h.fr.blk b hb h0,h.own⟩
theorem qp.trans (h:qp l n out m0 M B Z t w M1 B1 Z1 t1 w1) (k:qp l n out m0 M1 B1 Z1 t1 w1 M2 B2 Z2 t2 w2):qp l n out m0 M B Z t w M2 B2 Z2 t2 w2 :=
 ⟨k.inv,fun b o v e=>k.mem b o v (h.mem b o v e),fun i c hi e=>k.pre i c hi (h.pre i c hi e),k.os.trans h.os,k.tape.trans h.tape,k.output.trans h.output,oM h.size k.size,
  fun b hb hl h0=>by obtain ⟨h1,h2⟩:=h.blk b hb hl h0;obtain ⟨k1,k2⟩:=k.blk b (QI hb h.size) hl (by have:=h.own b hb; omega);exact ⟨k1.trans h1,fun o=>(k2 o).trans (h2 o)⟩,
  fun b hb=>oM (k.own b (QI hb h.size)) (h.own b hb)⟩
theorem Ro (hI:Inv n M B out Z t w) (ho:1<=out l):fp B Z t w l=0:=by have:=hI.cnt l; omega
theorem a7K (hI:Inv n M B out Z t w) (ho:1<=out l) {r:Loop} (hr:w.heap[l]? = some (.loop r)) (r':Loop):qp l n out m0 M B Z t w M B Z t (w.putObj l (.loop r')):=by
 have h0:=Ro hI ho;have hx:=hI.ext (M':=M) (w':=w.putObj l (.loop r')) (dJ.refl _ _) (fun b o v h=>by
  obtain ⟨h1,h2⟩:=hI.mem b o v h;refine ⟨?_,h2⟩;have hbl:b≠l:=by intro e; subst e;simp[World.cell?,hr] at h1
  unfold World.cell? at *;simp only at *;rw[World.putObj_heap_other hbl]; exact h1) (fun b hb=>by
  have hbl:b≠l:=by intro e; subst e; omega
  exact ⟨World.putObj_heap_other hbl,fun _=>rfl⟩) (by simp)
 exact ⟨hx.1,fun _ _ _ h=>h,fun _ _ _ h=>h,rfl,rfl,rfl,by simp,fun b _ hl _=>⟨World.putObj_heap_other hl,fun _=>rfl⟩,fun b _=>by rw[hx.2]; exact bW _⟩
theorem UZ (hI:Inv n M B out Z t w) (ho:1<=out l) {r:Loop} (hr:w.heap[l]? = some (.loop r)) (hG:bz n out m0 M B Z t w M1 B1 Z1 t1 w1):w1.heap[l]? = some (.loop r):=by have hl:l<w.heap.size:=(wu.1 hr).1;rw[(hG.fr.blk l hl (Ro hI ho)).1]; exact hr
end
def AX.jump:AX->Option Code
 | .normal=>none
 | .ret=>some .ret
 | .exit i=>some (.exit i)
theorem ZK {w:World} {l:Nat} {o o':Obj} (h:w.heap[l]? = some o):(w.putObj l o').heap[l]? = some o':=by have hl:l<w.heap.size:=(wu.1 h).1;simp[World.putObj,hl]
theorem bL3 {E:AE} (hm:E.P.follows .mixedOrders=true) {assign body:Code} (ha:oC assign=true) (hb:oC body=true) {n l m0:Nat} {out:Nat->Nat} {M:Mem} {B:aV} {Z:ASt} {t:Array Value} {w:World} {f:FuncId}
 (hI:Inv E.n M B out Z t w) (ho:1<=out l) {r:Loop} (hr:w.heap[l]? = some (.loop r)) (hst:r.state = .ready) {Q:AX->ASt->Prop}
 (h:dF E m0 assign (Dk (dF E m0 body Q) fun _ _=>False) Z) {R:Ending->World->Prop}
 (hR:∀ ax Z' M' B' t' w',Q ax Z'->qp l E.n out m0 M B Z t w M' B' Z' t' w'->w'.heap[l]? = some (.loop { r with state:=if ax.jump.isNone then .ready else .done,pending:=ax.jump })->R (.returned (.bool ax.jump.isNone)) w') :
 RoundIn Fence.wide n E.P l f t assign body w R:=by
 refine roundIn_of_wpIn trivial ?_;refine uS (Ey (n:=n) (l:=l) hm assign ha (a := { tmps:=t,defers := [] }) hI h) fun e a1 w1 hl => ?_
 obtain ⟨ax,Z1,M1,B1,rfl,hq,hd,hG⟩:=hl;cases ax with
 | ret=>exact hq.elim
 | exit i=>exact hq.elim
 | normal =>
  have hr1:=UZ hI ho hr hG;have hP1:=a7K (m0:=m0) hG.inv ho hr1 { r with state := .busy };refine ⟨_,run_beginRound hr1 hst,?_⟩;have hr2:=ZK (o' := .loop { r with state := .busy }) hr1;refine uS (Ey (n:=n) (l:=l) hm body hb (a:=a1) hP1.inv hq) fun e a2 w2 hl => ?_
  obtain ⟨ax,Z2,M2,B2,rfl,hq2,hd2,hG2⟩:=hl;have hr3:=UZ hP1.inv ho hr2 hG2;have hend:=fun j=>run_endRound (P:=E.P) j hr3
  have hfin:=fun j=>(((hG.gl.trans hP1).trans hG2.gl).trans (a7K (m0:=m0) hG2.inv ho hr3 { ({ r with state := .busy }:Loop) with state:=if Option.isNone j then .ready else .done,pending:=j }))
  cases ax with
  | normal=>exact ⟨_,_,hend none,hR .normal Z2 M2 B2 a2.tmps _ hq2 (hfin none) (ZK hr3)⟩
  | ret=>exact ⟨_,_,hend (some .ret),hR .ret Z2 M2 B2 a2.tmps _ hq2 (hfin (some .ret)) (ZK hr3)⟩
  | exit i=>exact ⟨_,_,hend (some (.exit i)),hR (.exit i) Z2 M2 B2 a2.tmps _ hq2 (hfin (some (.exit i))) (ZK hr3)⟩
theorem a6W {s:fH} (h:∀ kp,kp∈s->kp.2.own=false) (t:Array Value) (b:Nat):iD s t b=0:=by
 induction s with
 | nil=>rfl
 | cons a l ih =>obtain ⟨k,p⟩:=a;rw[iD,dO (h (k,p) (by simp)),ih fun kp hk=>h kp (by simp[hk])]
theorem aK3 {n n':Nat} {out:Nat->Nat} {M:Mem} {B:aV} {Z:ASt} {t tr:Array Value} {w:World} (hI:Inv n M B out Z t w) {sr:fH} (hsz:tr.size=n') (hs:jE sr)
 (hsl:∀ kp,kp∈sr->kp.1<n'/\Rep M B kp.2 (tr.getD kp.1 undef)/\kp.2.own=false):Inv n' M B (fun b=>out b+iD Z.s t b) ⟨sr,Z.h⟩ tr w:=by
 have h0:∀ b,iD sr tr b=0:=a6W (fun kp hk=>(hsl kp hk).2.2) tr;refine ⟨hsz,hI.mem,hs,fun k p hk => ?_,hI.heap,fun b => ?_,fun b hb => ?_⟩
 .obtain ⟨h1,h2,h3⟩:=hsl _ (Zg hk);exact ⟨h1,h2,fG h3⟩
 .have:=hI.cnt b; simp only[fp,h0] at *; omega
 .have:=hI.new b hb; simp only[fp,h0] at *; omega
theorem bMW {B B':aV} (h:∀ (i:Nat) (c:Nat×Nat×TypeId),i<B.length->B[i]? = some c->B'[i]? = some c):B'.take B.length=B:=by
 apply Ll;intro i;rw[iO];by_cases hi:i<B.length
 .rw[aJ hi,h i _ hi (iM hi),iM hi]
 .rw[aK hi,ww (by omega)]
theorem aR9 {l n n' m0:Nat} {out:Nat->Nat} {M M':Mem} {B B':aV} {Z Zr Z':ASt} {t tr t':Array Value} {w w':World} (hI:Inv n M B out Z t w) (ho:1<=out l)
 (hr:Zr.h=Z.h) (hrs:∀ kp,kp∈Zr.s->kp.2.own=false) (hm:m0=Z.h.length)
 (hG:qp l n' (fun b=>out b+iD Z.s t b) m0 M B Zr tr w M' B' Z' t' w') (hb:AP m0 (Z'.h.take m0)=true) :
 qp l n out m0 M B Z t w M' B { Z with h:=Z'.h.take m0 } t w':=by
 have hB:m0=B.length:=by rw[hm]; exact hI.heap.1
 have hgc:=FC (m0:=m0) (l := []) hG.inv (bW _) (by unfold Bf;simp only[au,iC];exact ⟨fun kp hk=>by simp[ASt.gc] at hk,hb⟩);have hT:B'.take m0=B:=by rw[hB] at hG ⊢;exact bMW hG.pre
 rw[hT] at hgc;have hle:dJ M M' B B:=⟨hG.mem,fun _ _ h=>h⟩;have hfr:∀ b,fp B Zr tr w b=aU w Z.h B b:=fun b=>by simp only[fp,hr,a6W hrs tr b]; omega
 have hfg:∀ b,fp B (Z'.gc [] m0) t' w' b=aU w' (Z'.h.take m0) B b:=fun b=>by simp only[fp,ASt.gc];rw[a6W (fun kp hk=>by simp at hk)]; omega
 have hkeep:∀ b,1<=iD Z.s t b->w'.heap[b]? = w.heap[b]? /\ ∀ o,M' b o=M b o:=fun b h1=>by have h2:=hI.cnt b;simp only[fp] at h2;refine hG.blk b (Ov hI (by simp only[fp]; omega)) (fun e=>by subst e; omega) ?_;rw[hfr]; omega
 refine ⟨⟨hI.size,hgc.inv.mem,hI.gu,fun k p hk => ?_,hgc.inv.heap,fun b => ?_,fun b hb => ?_⟩,hG.mem,fun _ _ _ h=>h,hG.os,hG.tape,hG.output,hG.size,fun b hb hl h0 => ?_,fun b hb => ?_⟩
 .obtain ⟨s1,s2,s3⟩:=hI.slots k p hk;refine ⟨s1,s2.mono hle,s3.kept fun b hb=>hkeep b ?_⟩;have e1:=EN (s:=Z.s) (t:=t) (k:=k) (b:=b);simp only[mM,hk] at e1;omega
 .have:=hgc.inv.cnt b;rw[hfg] at this;simp only[fp]; omega
 .have:=hgc.inv.new b hb;rw[hfg] at this;simp only[fp]; omega
 .simp only[fp] at h0;exact hG.blk b hb hl (by rw[hfr]; omega)
 .have h1:=hG.own b hb;have h2:=hgc.own b (QI hb hG.size);rw[hfg] at h2;rw[hfr] at h1;simp only[fp]; omega
theorem bP3 {E E':AE} (hP:E'.P=E.P) (hm:E.P.follows .mixedOrders=true) {o:Oper} {c:Call} (hop:o.op = .call c) {f:Operand} (hf:c.callee = .value f) {n l:Nat} {out:Nat->Nat} {M:Mem} {B:aV} {Z:ASt} {a:Act} {w:World}
 (hv:a.eval f = .func (.yield l) #[] #[])
 (hI:Inv E.n M B out Z a.tmps w) (ho:1<=out l) {r:Loop} (hr:w.heap[l]? = some (.loop r)) (hst:r.state = .ready) (ha:oC r.assign=true) (hb:oC r.body=true)
 (hsz:c.args.size=r.params.size) {sr:fH} (hs:jE sr)
 (hn:((r.params.zip (c.args.map a.eval)).foldl (fun tmps (t,a)=>tmps.setIfInBounds t a) r.tmps).size=E'.n)
 (hsl:∀ kp,kp∈sr->kp.1<E'.n/\Rep M B kp.2 (((r.params.zip (c.args.map a.eval)).foldl (fun tmps (t,a)=>tmps.setIfInBounds t a) r.tmps).getD kp.1 undef)/\kp.2.own=false)
 {Q:AX->ASt->Prop} (h:dF E' Z.h.length r.assign (Dk (dF E' Z.h.length r.body Q) fun _ _=>False) ⟨sr,Z.h⟩)
 (a4L:∀ ax Z',Q ax Z'->AP Z.h.length (Z'.h.take Z.h.length)=true)
 {K:Act->World->Prop} {QQ:Exit->Act->World->Prop}
 (hK:∀ ax Z' M' w',Q ax Z'->qp l E.n out Z.h.length M B Z a.tmps w M' B { Z with h:=Z'.h.take Z.h.length } a.tmps w' ->
  w'.heap[l]? = some (.loop { r with state:=if ax.jump.isNone then .ready else .done,pending:=ax.jump })->K (a.put o.dst (.bool ax.jump.isNone)) w') :
 o.wpIn Fence.wide n E.P a w K QQ:=by
 refine ⟨fun _ _=>trivial,?_⟩;rw[show Fence.wide.round=none from rfl,Oper.semAt_none];have hrun:(execOp a.eval o).run E.P w = .ok (.round l r.fn ((r.params.zip (c.args.map a.eval)).foldl (fun tmps (t,a)=>tmps.setIfInBounds t a) r.tmps) r.assign r.body) w:=by obtain ⟨callee,JJ,cts⟩:=c;simp only at hf;subst hf;unfold execOp;rw[hop];simp only[resolve,hv,Deferred.ofValue,kX,DN,qM,invoke];rw[run_yield hr (by simpa using hsz)];simp
 rw[hrun,Oper.uponIn_round];refine ⟨fun h=>by simp[Fence.wide] at h,?_⟩;rw[<- hP];refine bL3 (E:=E') (m0:=Z.h.length) (by rw[hP]; exact hm) ha hb (aK3 hI hn hs hsl) (by show 1<=out l+_; omega) hr hst h fun ax Z' M' B' t' w' hq hG hrec => ?_
 exact hK ax Z' M' w' hq (aR9 (Zr:=⟨sr,Z.h⟩) hI ho rfl (fun kp hk=>(hsl kp hk).2.2) rfl hG (a4L ax _ hq)) hrec
theorem bHR {P:Program} {n:Nat} {o:Oper} {a:Act} {w:World} {K:Act->World->Prop} {Q:Exit->Act->World->Prop} (h:o.wp P a w K Q):o.wpIn Fence.wide n P a w K Q:=by
 refine ⟨fun _ _=>trivial,?_⟩;rw[show Fence.wide.round=none from rfl,Oper.semAt_none];unfold Oper.wp at h;generalize (execOp a.eval o).run P w=r at *;cases r with
 | ok x w' =>
  cases x<;>simp only[Oper.upon,Oper.uponIn] at h ⊢ <;>
   first
    | exact h
    | exact h.elim
    | exact ⟨fun h=>by simp[Fence.wide] at h,callsIn_wide.2 h⟩
    | exact ⟨fun h=>by simp[Fence.wide] at h,fun c cs _=>let ⟨v,w',r,s⟩:=h c cs; ⟨v,w',r,stepsIn_wide.2 s⟩⟩
 | halt x w'=>cases x<;>simp only[Oper.upon,Oper.uponIn] at h ⊢ <;> exact h
section
variable {E:AE} {out:Nat->Nat}
theorem WH {n:Nat} {ops:Array Oper} {Q:Exit->Act->World->Prop} {rest:List Oper}:∀ (l:List Oper) {M:Mem} {B:aV} {Z:ASt} {a:Act} {w:World} {K:ASt->Prop},Inv E.n M B out Z a.tmps w->lG E ops l K Z ->
 (∀ Z' M' B' a' w',K Z'->Good E.n out M B Z a.tmps w M' B' Z' a'.tmps w'->a'.defers=a.defers->wpListIn Fence.wide n E.P ops Q rest a' w')->wpListIn Fence.wide n E.P ops Q (l ++ rest) a w
 | [],M,B,Z,a,w,K,hI,h,hQ=>hQ Z M B a w h (Good.refl hI) rfl
 | o::l,M,B,Z,a,w,K,hI,h,hQ=>by
  have run:xI E o (lG E ops l K) Z->o.wpIn Fence.wide n E.P a w (wpListIn Fence.wide n E.P ops Q (l ++ rest)) Q:=fun h =>bHR (WG hI h fun v Z' M' B' w' hK hG=>WH l hG.inv hK fun Z2 M2 B2 a2 w2 hk hG2 hd=>hQ Z2 M2 B2 a2 w2 hk (hG.trans hG2) (by rw[hd,Act.Fg]))
  have skip:ig E o.dst (.tuple []) Z (lG E ops l K)->wpListIn Fence.wide n E.P ops Q (l ++ rest) (a.put o.dst undef) w:=fun h=>by
   unfold ig at h;split at h
   .rename_i Z' hp;have hG:=Zi hI hp;exact WH l hG.inv h fun Z2 M2 B2 a2 w2 hk hG2 hd=>hQ Z2 M2 B2 a2 w2 hk (hG.trans hG2) (by rw[hd,Act.Fg])
   .exact h.elim
  rw[lG] at h;rw[lM];unfold wpListIn;split at h
  .rename_i hg;rw[aJ (by simp[Region.wanted,hg])];exact run h
  .rename_i j want hg;split at h
   .rename_i hv;rw[aK (by simp[Region.wanted,hg,E8 hI hv])];exact ⟨fun _ _=>trivial,skip h⟩
   .rename_i b hv;by_cases hb:b=want
    .rw[aJ (by simp[Region.wanted,hg,E8 hI hv,hb])];exact run (h.1 hb)
    .rw[aK (by simp[Region.wanted,hg,E8 hI hv,hb])];exact ⟨fun _ _=>trivial,skip (h.2 hb)⟩
   .exact h.elim
end
open Classical in
def Ot (ax:AX) (Zt:ASt):AX->ASt->R:=fun e Z=>if e=ax/\Z=Zt then some (.nilp,[]) else none
theorem IX {X:XE} (hV:yh X.V) (hW:uF X.W) (hC:o6 X.E.P X.C) (hL:IE X) {c:Code} {Z Zt:ASt} {ax:AX} (h:∀ K:AX->ASt->R,bH X c K Z=K ax Zt) :
 dF X.E X.m0 c (fun e Z'=>e=ax/\Z'=Zt) Z:=by
 have h1:bH X c (Ot ax Zt) Z=some (.nilp,[]):=by rw[h]; simp[Ot]
 refine xJ c (fun e Z' he => ?_) (wI hV hW hC hL c h1);unfold Ot at he;split at he
 .assumption
 .cases he
theorem Ve {S:SE} (hm:S.P.follows .mixedOrders=true) (hS:S.OK) (h0:o6 S.P S.C0) {E:AE} (hE:S.wp E=E) {m0:Nat}:IE (S.xe S.CC S.LL E m0):=fun l m x K Z v hv=>by obtain ⟨n,hn⟩:=(a5X (f:=fun n=>(S.aZ n).2 E m0 l m x K (Z.gc l m)) fun n v hv=>(G5 hS n).2 _ _ _ _ _ _ _ _ _ (fun _ _ _ h=>h) hv).1 hv;exact ⟨n,(a9S hm hS h0 n).2 E m0 l m x K Z v hE hn⟩
def zi (rc:Loop) (j:AX):Loop := { rc with state:=if j.jump.isNone then .ready else .done,pending:=j.jump }
def OX (n l:Nat) (rc:Loop) (out:Nat->Nat) (m0:Nat) (M:Mem) (B:aV) (Z:ASt) (t:Array Value) (w:World) (ds:List Deferred) (Q:AX->ASt->AX->Prop) (e:Exit) (a':Act) (w':World):Prop :=∃ ax Z' j M' B',e=ax.toExit/\Q ax Z' j/\a'.defers=ds/\qp l n out m0 M B Z t w M' B' Z' a'.tmps w'/\w'.heap[l]? = some (.loop (zi rc j))
def Qk (sO:fH) (n' m0:Nat) (tm:Array Value) (M:Mem) (B:aV):Prop:=∀ kp,kp∈sO->kp.1<n'/\Rep M B kp.2 (tm.getD kp.1 undef)/\kp.2.own=false/\kp.2.blw m0=true
theorem Qk.mono {sO:fH} {n' m0:Nat} {tm:Array Value} {M:Mem} {B:aV} (h:Qk sO n' m0 tm M B) {M':Mem} {B':aV} (hm:∀ (b o:Nat) (v:Value),M b o=some v->M' b o=some v)
 (hp:∀ (i:Nat) (c:Nat×Nat×TypeId),i<m0->B[i]? = some c->B'[i]? = some c):Qk sO n' m0 tm M' B':=fun kp hk=>by
 obtain ⟨h1,h2,h3,h4⟩:=h kp hk;refine ⟨h1,(h2.blw h4).mono ⟨hm,fun i c hc => ?_⟩,h3,h4⟩;rw[iO] at hc;split at hc
 .exact hp i c ‹_› hc
 .cases hc
structure YC where
 E:AE
 E':AE
 l:Nat
 m0:Nat
 rc:Loop
 out:Nat->Nat
 sO:fH
structure YC.OK (Y:YC):Prop where
 hm:Y.E.P.follows .mixedOrders=true
 hP:Y.E'.P=Y.E.P
 ho:1<=Y.out Y.l
def Tr (Y:YC) (c:Code) (Q:AX->ASt->AX->Prop) (j:AX) (Z:ASt):Prop :=
 ∀ (n:Nat) (M:Mem) (B:aV) (a:Act) (w:World),Inv Y.E.n M B Y.out Z a.tmps w->w.heap[Y.l]? = some (.loop (zi Y.rc j))->Qk Y.sO Y.E'.n Y.m0 Y.rc.tmps M B ->
  c.wpIn Fence.wide n Y.E.P (OX Y.E.n Y.l Y.rc Y.out Y.m0 M B Z a.tmps w a.defers Q) a w
def aQO (k:ASt->AX->Prop) (Q:AX->ASt->AX->Prop):AX->ASt->AX->Prop
 | .normal,Z,j=>k Z j
 | e,Z,j=>Q e Z j
def aCV (id:Nat) (Q:AX->ASt->AX->Prop):AX->ASt->AX->Prop
 | .exit i,Z,j=>if i=id then Q .normal Z j else Q (.exit i) Z j
 | e,Z,j=>Q e Z j
theorem aLY {n l:Nat} {rc:Loop} {out:Nat->Nat} {m0:Nat} {M M1:Mem} {B B1:aV} {Z Z1:ASt} {t t1:Array Value} {w w1:World} {ds:List Deferred} {Q:AX->ASt->AX->Prop} (h:qp l n out m0 M B Z t w M1 B1 Z1 t1 w1) {e:Exit} {a':Act} {w':World}
 (k:OX n l rc out m0 M1 B1 Z1 t1 w1 ds Q e a' w'):OX n l rc out m0 M B Z t w ds Q e a' w':=by
 obtain ⟨ax,Z',j,M',B',h1,h2,h3,h4,h5⟩:=k;exact ⟨ax,Z',j,M',B',h1,h2,h3,h.trans h4,h5⟩
section
variable {Y:YC} {c:Code} {Q:AX->ASt->AX->Prop} {j:AX} {Z:ASt}
theorem Tr.mono {Q':AX->ASt->AX->Prop} (h:Tr Y c Q j Z) (hq:∀ e Z j,Q e Z j->Q' e Z j):Tr Y c Q' j Z:=fun n M B a w hI hr hO=>by
 refine uS (h n M B a w hI hr hO) fun e a' w' hl => ?_
 obtain ⟨ax,Z',j',M',B',h1,h2,h3,h4,h5⟩:=hl;exact ⟨ax,Z',j',M',B',h1,hq _ _ _ h2,h3,h4,h5⟩
theorem Tr.a6N (hY:Y.OK) {Q':AX->ASt->Prop} (h:dF Y.E Y.m0 c Q' Z) (hq:∀ e Z',Q' e Z'->Q e Z' j):Tr Y c Q j Z:=fun n M B a w hI hr hO=>by refine wpIn_wide.2 (vW (xK (out:=Y.out) hY.hm c hI h) fun e a' w' hl => ?_);obtain ⟨ax,Z',M',B',rfl,hq',hd,hG⟩:=hl;exact ⟨ax,Z',j,M',B',rfl,hq _ _ hq',hd,hG.gl,UZ hI hY.ho hr hG⟩
theorem Tr.gc {l:List Nat} {m:Nat} (hm:Y.m0<=m) (hg:Bf l m Z=true) (h:Tr Y c Q j (Z.gc l m)):Tr Y c Q j Z:=fun n M B a w hI hr hO=>by have hG:=FC (m0:=Y.m0) hI hm hg;exact uS (h n M _ a w hG.inv hr (hO.mono hG.mem hG.pre)) fun e a' w' hl=>aLY hG.gl hl
theorem Tr.seq {x y:Code} (h:Tr Y x (aQO (fun Z' j'=>Tr Y y Q j' Z') Q) j Z):Tr Y (.seq x y) Q j Z:=fun n M B a w hI hr hO=>by
 refine Lu (uS (h n M B a w hI hr hO) fun e a' w' hl => ?_);obtain ⟨ax,Z',j',M',B',rfl,hq,hd,hG,hr'⟩:=hl;cases ax with
 | normal=>exact uS (hq n M' B' a' w' hG.inv hr' (hO.mono hG.mem hG.pre)) fun e a2 w2 hl2=>by rw[hd] at hl2; exact aLY hG hl2
 | ret=>exact ⟨.ret,Z',j',M',B',rfl,hq,hd,hG,hr'⟩
 | exit i=>exact ⟨.exit i,Z',j',M',B',rfl,hq,hd,hG,hr'⟩
theorem Tr.cond {o:Operand} {x y:Code} {b:Bool} (hb:Z.rd o=some (.bool b)) (h1:b=true->Tr Y x Q j Z) (h2:b=false->Tr Y y Q j Z):Tr Y (.cond o x y) Q j Z:=fun n M B a w hI hr hO =>wpIn_cond_split (jo.1 (hI.rd _ _ hb).1) (fun hb=>h1 hb n M B a w hI hr hO) (fun hb=>h2 hb n M B a w hI hr hO)
theorem Tr.block {id:Nat} {x:Code} (h:Tr Y x (aCV id Q) j Z):Tr Y (.block id x) Q j Z:=fun n M B a w hI hr hO=>by
 refine wpIn_block (uS (h n M B a w hI hr hO) fun e a' w' hl => ?_);obtain ⟨ax,Z',j',M',B',rfl,hq,hd,hG,hr'⟩:=hl;cases ax with
 | normal=>exact ⟨.normal,Z',j',M',B',rfl,hq,hd,hG,hr'⟩
 | ret=>exact ⟨.ret,Z',j',M',B',rfl,hq,hd,hG,hr'⟩
 | exit i =>
  simp only[AX.toExit,Exit.inBlock];simp only[aCV] at hq;split
  .rename_i e; rw[aJ e] at hq; exact ⟨.normal,Z',j',M',B',rfl,hq,hd,hG,hr'⟩
  .rename_i e; rw[aK e] at hq; exact ⟨.exit i,Z',j',M',B',rfl,hq,hd,hG,hr'⟩
theorem Tr.scope {x:Code} (h:Tr Y x Q j Z):Tr Y (.scope x) Q j Z:=fun n M B a w hI hr hO=>by refine wpIn_wide.2 (wp_scope_straight (vW (wpIn_wide.1 (h n M B a w hI hr hO)) fun e a' w' hl => ?_));obtain ⟨ax,Z',j',M',B',rfl,hq,hd,hG,hr'⟩:=hl;cases ax<;>exact ⟨_,Z',j',M',B',rfl,hq,hd,hG,hr'⟩
theorem Tr.ret (h:Q .ret Z j):Tr Y .ret Q j Z:=fun n M B a w hI hr hO=>wpIn_ret ⟨.ret,Z,j,M,B,rfl,h,rfl,(bz.refl hI).gl,hr⟩
theorem Tr.exit {i:Nat} (h:Q (.exit i) Z j):Tr Y (.exit i) Q j Z:=fun n M B a w hI hr hO=>wpIn_exit ⟨.exit i,Z,j,M,B,rfl,h,rfl,(bz.refl hI).gl,hr⟩
theorem Tr.skip (h:Q .normal Z j):Tr Y .skip Q j Z:=fun n M B a w hI hr hO=>wpIn_skip ⟨.normal,Z,j,M,B,rfl,h,rfl,(bz.refl hI).gl,hr⟩
theorem Tr.label {i:Nat} (h:Q .normal Z j):Tr Y (.label i) Q j Z:=fun n M B a w hI hr hO=>wpIn_label ⟨.normal,Z,j,M,B,rfl,h,rfl,(bz.refl hI).gl,hr⟩
def Qm (Y:YC) (x:Code) (Q:AX->ASt->AX->Prop):Nat->AX->ASt->Prop
 | 0,_,_=>False
 | k+1,j,Z=>Tr Y x (aQO (fun Z' j'=>Qm Y x Q k j' Z') Q) j Z
theorem Tr.loop {x:Code} {k:Nat} (h:Qm Y x Q k j Z):Tr Y (.loop x) Q j Z:=fun n M B a w hI hr hO=>by
 refine wpIn_loop_rounds k ?_;have key:∀ (k:Nat) (j1:AX) (M1:Mem) (B1:aV) (Z1:ASt) (a1:Act) (w1:World),qp Y.l Y.E.n Y.out Y.m0 M B Z a.tmps w M1 B1 Z1 a1.tmps w1->w1.heap[Y.l]? = some (.loop (zi Y.rc j1))->a1.defers=a.defers->Qm Y x Q k j1 Z1 ->
  Code.roundsIn Fence.wide n Y.E.P x (OX Y.E.n Y.l Y.rc Y.out Y.m0 M B Z a.tmps w a.defers Q) k a1 w1:=by
  intro k;induction k with
  | zero=>intro j1 M1 B1 Z1 a1 w1 _ _ _ h; exact h.elim
  | succ k ih =>
   intro j1 M1 B1 Z1 a1 w1 hG hr1 hd h;rw[roundsIn_succ];refine uS (h n M1 B1 a1 w1 hG.inv hr1 (hO.mono hG.mem hG.pre)) fun e a' w' hl => ?_
   obtain ⟨ax,Z',j',M',B',rfl,hq,hd',hG',hr'⟩:=hl;have hG2:=hG.trans hG';cases ax with
   | normal=>exact ih j' M' B' Z' a' w' hG2 hr' (by rw[hd',hd]) hq
   | ret=>exact ⟨.ret,Z',j',M',B',rfl,hq,by rw[hd',hd],hG2,hr'⟩
   | exit i=>exact ⟨.exit i,Z',j',M',B',rfl,hq,by rw[hd',hd],hG2,hr'⟩
 exact key k j M B Z a w (bz.refl hI).gl hr rfl h
theorem qp.weak {l n:Nat} {out:Nat->Nat} {m0 m1:Nat} {M M1:Mem} {B B1:aV} {Z Z1:ASt} {t t1:Array Value} {w w1:World} (h:qp l n out m1 M B Z t w M1 B1 Z1 t1 w1) (hm:m0<=m1):qp l n out m0 M B Z t w M1 B1 Z1 t1 w1 :=⟨h.inv,h.mem,fun i c hi e=>h.pre i c (by omega) e,h.os,h.tape,h.output,h.size,h.blk,h.own⟩
theorem Tr.yield (hY:Y.OK) {id:Nat} {ops:Array Oper} {pre post:List Oper} {o:Oper} (hops:ops.toList=pre ++ o::post)
 {cl:Call} (hop:o.op = .call cl) (hg:o.guard=none) {f x y:Operand} (hf:cl.callee = .value f) (hargs:cl.args = #[x,y]) {p q:Nat} (hp:Y.rc.params = #[p,q]) (hpq:p<q) (hqn:q<Y.E'.n)
 (hpO:∀ kp,kp∈Y.sO->kp.1<p) (hsO:jE Y.sO) (hn:Y.rc.tmps.size=Y.E'.n) (ha:oC Y.rc.assign=true) (hb:oC Y.rc.body=true)
 (h:lG Y.E ops pre (fun Z1=>∃ px py Q1,Z1.rd f=some (.func (.yield Y.l) [] [])/\Z1.rd x=some px/\Z1.rd y=some py/\Y.m0<=Z1.h.length /\
  dF Y.E' Z1.h.length Y.rc.assign (Dk (dF Y.E' Z1.h.length Y.rc.body Q1) fun _ _=>False) ⟨Y.sO ++ [(p,px),(q,py)],Z1.h⟩ /\
  ∀ ax Z',Q1 ax Z'->AP Z1.h.length (Z'.h.take Z1.h.length)=true/\ig Y.E o.dst (.bool ax.jump.isNone) { Z1 with h:=Z'.h.take Z1.h.length } fun Z2=>lG Y.E ops post (fun Z3=>Q .normal Z3 ax) Z2) (Z.head Y.E)) :
 Tr Y (.region id ops false) Q .normal Z:=fun n M B a w hI hr hO=>by
 have hk:=YS (E:=Y.E) hI;refine wpIn_region_list ?_;rw[hops];refine WH pre hk.inv h fun Z1 M1 B1 a1 w1 hh hG1 hd1 => ?_
 obtain ⟨px,py,Q1,hfv,hx,hy,hm0,hbody,hafter⟩:=hh;have YR:bz Y.E.n Y.out Y.m0 M B Z a.tmps w M1 B1 Z1 a1.tmps w1:=(hk.trans hG1).c;have hr1:=UZ hI hY.ho hr YR;have hO1:=hO.mono YR.mem YR.pre;unfold wpListIn;rw[aJ (by simp[Region.wanted,hg])];have hev:a1.eval f = .func (.yield Y.l) #[] #[]:=by obtain ⟨f',c',e,h1,h2⟩:=zk.1 (hG1.inv.rd _ _ hfv).1;rw[eu] at h1 h2;rw[e]; congr 1<;>(apply Q3; assumption)
 have hrx:=hG1.inv.rd _ _ hx;have hry:=hG1.inv.rd _ _ hy;have htm:((zi Y.rc .normal).params.zip (cl.args.map a1.eval)).foldl (fun tmps (t,a)=>tmps.setIfInBounds t a) (zi Y.rc .normal).tmps=(Y.rc.tmps.setIfInBounds p (a1.eval x)).setIfInBounds q (a1.eval y):=by show (Y.rc.params.zip (cl.args.map a1.eval)).foldl (fun tmps (t,a)=>tmps.setIfInBounds t a) Y.rc.tmps=_;rw[hp,hargs]; simp
 refine bP3 (E':=Y.E') hY.hP hY.hm hop hf hev hG1.inv hY.ho hr1 rfl ha hb (by show cl.args.size=Y.rc.params.size; rw[hargs,hp]; rfl) (sr:=Y.sO ++ [(p,px),(q,py)]) ?_ ?_ (fun kp hk => ?_) (Q:=Q1) hbody (fun ax Z' hq=>(hafter ax Z' hq).1) fun ax Z' M' w' hq1 hGL hrec => ?_
 .unfold jE;rw[List.pairwise_append];refine ⟨hsO,by simp[hpq],fun a ha b hb => ?_⟩;have:=hpO a ha;simp only[iQ,vP,vV] at hb;rcases hb with rfl | rfl
  .exact this
  .show a.1<q; omega
 .rw[htm]; simp[hn]
 .rw[htm];rcases yA.1 hk with hk | hk
  .obtain ⟨h1,h2,h3,h4⟩:=hO1 kp hk;have:=hpO kp hk;refine ⟨h1,?_,h3⟩;rw[Jh (by omega),Jh (by omega)];exact h2
  .simp only[iQ,vP,vV] at hk;rcases hk with rfl | rfl
   .refine ⟨by show p<_; omega,?_,hrx.2⟩;show Rep M1 B1 px (((Y.rc.tmps.setIfInBounds p (a1.eval x)).setIfInBounds q (a1.eval y)).getD p undef);rw[Jh (by omega),O5 (by omega)];exact hrx.1
   .refine ⟨hqn,?_,hry.2⟩;show Rep M1 B1 py (((Y.rc.tmps.setIfInBounds p (a1.eval x)).setIfInBounds q (a1.eval y)).getD q undef);rw[O5 (by rw[Array.size_setIfInBounds]; omega)];exact hry.1
 .obtain ⟨_,hput⟩:=hafter ax Z' hq1;unfold ig at hput;split at hput
  .rename_i Z2 hp2;have hPG:Good Y.E.n Y.out M' B1 { Z1 with h:=Z'.h.take Z1.h.length } a1.tmps w' M' B1 Z2 (a1.put o.dst (.bool ax.jump.isNone)).tmps w' :=(Pre.plain hGL.inv (jo.2 rfl) (fun b=>dO rfl _ _) (fG rfl)).put hp2;have bCT:w'.heap[Y.l]? = some (.loop (zi Y.rc ax)):=hrec;have:=WH (n:=n) (Q:=OX Y.E.n Y.l Y.rc Y.out Y.m0 M B Z a.tmps w a.defers Q) (rest := []) post hPG.inv hput fun Z3 M3 B3 a3 w3 hq3 hG3 hd3=>by have hGG:bz Y.E.n Y.out Y.m0 M' B1 { Z1 with h:=Z'.h.take Z1.h.length } a1.tmps w' M3 B3 Z3 a3.tmps w3:=(hPG.trans hG3).c;show OX Y.E.n Y.l Y.rc Y.out Y.m0 M B Z a.tmps w a.defers Q .normal a3 w3;exact ⟨.normal,Z3,ax,M3,B3,rfl,hq3,by rw[hd3,Act.Fg,hd1],(YR.gl.trans (hGL.weak hm0)).trans hGG.gl,UZ hGL.inv hY.ho bCT hGG⟩
   rwa [zy] at this
  .exact hput.elim
end
theorem bJZ {P:Program} {n:Nat} {out:Nat->Nat} {h:aI} {M:Mem} {B:aV} {w:World} {Z0:ASt} {t0:Array Value} (hheap:qO M B w h) (hfp:∀ b,fp B Z0 t0 w b=aU w h B b)
 {M':Mem} {B':aV} {Z':ASt} {a':Act} {w':World} (hG:bz n out h.length M B Z0 t0 w M' B' Z' a'.tmps w') {fn:Func} {r0:PV} {h':aI} (hret:Kw P fn.results.toList h.length r0 h' Z') (ro:List (List Nat×Bool)) :
 ∃ v,(results fn a'.tmps).run P w' = .ok v w'/\Post h B out M w (xP ro r0) h' v M' (B'.take h'.length) w':=by
 obtain ⟨v,hrun,hrep,htl,hown⟩:=aOV hG.inv hret;obtain ⟨hm0,hht,hb1,hb2,_⟩:=hret;generalize hm':h'.length=m at *;subst hht;have hBl:B.length=h.length:=hheap.1.symm;have htake:=fun b=>a6T (w:=w') m b Z'.h B'
 have hfin:∀ b,aU w' (Z'.h.take m) (B'.take m) b+bI (xP ro r0) v b<=fp B' Z' a'.tmps w' b:=fun b=>by have:=htake b; have:=hown b; have:=aEE (ro:=ro) (r:=r0) (v:=v) (b:=b); simp only[fp]; omega
 refine ⟨v,hrun,hG.inv.mem,⟨hG.mem,fun i c hc => ?_⟩,hG.fr.mono fun b hb h0=>by rw[hfp]; exact h0,⟨by simp[hG.inv.heap.1],fun i cs hi => ?_⟩,aEF (hrep.blw hb1),aEG (hrep.blw hb1) htl,fun b hb => ?_,fun b => ?_,fun b hb => ?_⟩
 .have hlt:=(eP.1 hc).1;rw[iO,aJ (by omega)];exact hG.pre i c (by omega) hc
 .have hi0:=hi;rw[iO] at hi;split at hi
  .rename_i hlt;obtain ⟨c,hc,vs,ty,o1,o2,o3,o4,o5⟩:=hG.inv.heap.2 i cs hi;refine ⟨c,by rw[iO,aJ hlt]; exact hc,vs,ty,o1,o2,o3,fun j p hj => ?_,o5⟩;obtain ⟨u,a1,a2,a3,a4⟩:=o4 j p hj;refine ⟨u,a1,a2.blw ?_,a3,a4⟩;have:=iC.1 hb2 _ (jq hi0);exact WN.1 this p (jq hj)
  .cases hi
 .have h1:=hG.own b hb; rw[hfp] at h1; exact oM (hfin b) h1
 .have h1:=hG.inv.cnt b; have:=hfin b; omega
 .have h1:=hG.inv.new b hb; have:=hfin b; omega
theorem aQ7 {n:Nat} {out:Nat->Nat} {M:Mem} {B:aV} {w:World} {h:aI} {args:bSH} {vals:Array Value} (hlen:args.length<=n) (hmem:zX M w) (hheap:qO M B w h) (hcnt:∀ b,aU w h B b+out b<=1) (hnew:∀ b,w.heap.size<=b->aU w h B b+out b=0)
 (hv:bC M B args vals.toList):Inv n M B out ⟨lY 0 args,h⟩ (vals ++ Array.replicate (n-vals.size) undef) w:=by
 have hvl:=qH hv;simp only[Array.length_toList] at hvl;have hfp:∀ t b,fp B ⟨lY 0 args,h⟩ t w b=aU w h B b:=fun t b=>by simp only[fp,Uk]; omega
 refine ⟨by simp; omega,hmem,a9X.1,fun k p hk => ?_,hheap,fun b=>by rw[hfp]; exact hcnt b,fun b hb=>by rw[hfp]; exact hnew b hb⟩;obtain ⟨i,q,rfl,hq,rfl⟩:=a9W hk;obtain ⟨v,hv1,hv2⟩:=wS hv hq;have hi:=(eP.1 hq).1;refine ⟨by omega,?_,fG (qI _)⟩;have hvi:vals[i]? = some v:=by simpa using hv1
 have:(vals ++ Array.replicate (n-vals.size) undef).getD (0+i) undef=v:=by rw[kW,aB2,Lc (by omega),hvi]; rfl
 rw[this]; exact nU.2 hv2
theorem aP' {B:aV} {args:bSH} {h:aI} (t:Array Value) (w:World) (b:Nat):fp B ⟨lY 0 args,h⟩ t w b=aU w h B b:=by simp only[fp,Uk]; omega
def zI (w:World) (rc:Loop):World:=(w.alloc (.deferred (some []))).alloc (.loop rc)
def Am (out:Nat->Nat) (s:Nat) (b:Nat):Nat:=out b+(if b=s\/b=s+1 then 1 else 0)
section
variable {n:Nat} {out:Nat->Nat} {M:Mem} {B:aV} {Z:ASt} {t:Array Value} {w:World}
theorem a1L (rc:Loop) {b:Nat} (hb:b<w.heap.size):(zI w rc).heap[b]? = w.heap[b]? := by unfold zI;exact (GY _ _ b (by simp; omega)).trans (GY _ _ b hb)
theorem Wq (rc:Loop):(zI w rc).heap.size=w.heap.size+2:=by simp[zI]
theorem aVA (rc:Loop):(zI w rc).heap[w.heap.size+1]? = some (.loop rc):=by have:=World.alloc_heap_new (w.alloc (.deferred (some []))) (.loop rc);rwa [World.size_alloc] at this
theorem aV9 (rc:Loop):(zI w rc).heap[w.heap.size]? = some (.deferred (some [])) :=(GY _ _ _ (by simp)).trans (World.alloc_heap_new w _)
theorem aDO (hI:Inv n M B out Z t w) (rc:Loop):Inv n M B (Am out w.heap.size) Z t (zI w rc)/\∀ b,fp B Z t (zI w rc) b=fp B Z t w b:=by
 have hx:=hI.ext (M':=M) (w':=zI w rc) (dJ.refl _ _) (fun b o v h=>by
  obtain ⟨h1,h2⟩:=hI.mem b o v h;have hb:=yB _ _ h1;refine ⟨?_,h2⟩;exact (Lt (a1L rc hb)).trans h1) (fun b hb=>by
  have hl:b<w.heap.size:=Ov hI (by omega);exact ⟨a1L rc hl,fun _=>rfl⟩) (by rw[Wq]; omega)
 refine ⟨⟨hx.1.size,hx.1.mem,hx.1.gu,hx.1.slots,hx.1.heap,fun b => ?_,fun b hb => ?_⟩,hx.2⟩
 .rw[hx.2];have h1:=hI.cnt b;unfold Am;split
  .rename_i h;have:=hI.new b (by omega);omega
  .omega
 .rw[hx.2];rw[Wq] at hb;have:=hI.new b (by omega);unfold Am;rw[aK (by omega)]; omega
theorem aOG {l m0:Nat} (hI:Inv n M B out Z t w) (ho:1<=out l) {ds:Option (List Deferred)} (hr:w.heap[l]? = some (.deferred ds)) (o':Obj):qp l n out m0 M B Z t w M B Z t (w.putObj l o'):=by
 have h0:=Ro hI ho;have hx:=hI.ext (M':=M) (w':=w.putObj l o') (dJ.refl _ _) (fun b o v h=>by
  obtain ⟨h1,h2⟩:=hI.mem b o v h;refine ⟨?_,h2⟩;have hbl:b≠l:=by intro e; subst e;simp[World.cell?,hr] at h1
  unfold World.cell? at *;simp only at *;rw[World.putObj_heap_other hbl]; exact h1) (fun b hb=>by
  have hbl:b≠l:=by intro e; subst e; omega
  exact ⟨World.putObj_heap_other hbl,fun _=>rfl⟩) (by simp)
 exact ⟨hx.1,fun _ _ _ h=>h,fun _ _ _ h=>h,rfl,rfl,rfl,by simp,fun b _ hl _=>⟨World.putObj_heap_other hl,fun _=>rfl⟩,fun b _=>by rw[hx.2]; exact bW _⟩
theorem aLT {m0:Nat} {rc:Loop} (hI:Inv n M B out Z t w) {M1:Mem} {B1:aV} {Z1:ASt} {t1:Array Value} {w1:World} (hG1:qp (w.heap.size+1) n (Am out w.heap.size) m0 M B Z t (zI w rc) M1 B1 Z1 t1 w1)
 {M':Mem} {B':aV} {Z':ASt} {t':Array Value} {w':World} (hG2:qp w.heap.size n (Am out w.heap.size) m0 M1 B1 Z1 t1 w1 M' B' Z' t' w'):bz n out m0 M B Z t w M' B' Z' t' w':=by
 have he:=(aDO hI rc).2;have hs:=Wq (w:=w) rc;have hle:∀ b,out b<=Am out w.heap.size b:=fun b=>by unfold Am; omega
 have hs1:=hG1.size;have hs2:=hG2.size;refine ⟨⟨hG2.inv.size,hG2.inv.mem,hG2.inv.gu,hG2.inv.slots,hG2.inv.heap,fun b => ?_,fun b hb => ?_⟩,fun b o v h=>hG2.mem b o v (hG1.mem b o v h),fun i c hi h=>hG2.pre i c hi (hG1.pre i c hi h),⟨hG2.os.trans hG1.os,hG2.tape.trans hG1.tape,hG2.output.trans hG1.output,by omega,fun b hb h0 => ?_⟩,fun b hb => ?_⟩
 .have:=hG2.inv.cnt b; have:=hle b; omega
 .have:=hG2.inv.new b hb; have:=hle b; omega
 .have h1:=hG1.blk b (by omega) (by omega) (by rw[he]; exact h0);have h2:=hG1.own b (by omega);rw[he,h0] at h2;have h3:=hG2.blk b (by omega) (by omega) (by omega);rw[a1L rc hb] at h1;exact ⟨h3.1.trans h1.1,fun o=>(h3.2 o).trans (h1.2 o)⟩
 .have h1:=hG1.own b (by omega);have h2:=hG2.own b (by omega);rw[he] at h1; omega
theorem aSO {a b:Value} {r:Array Value}:(#[a,b] ++ r).getD 0 undef=a:=by rw[aB2,Lc (by simp)]; rfl
theorem aSP {a b:Value} {r:Array Value}:(#[a,b] ++ r).getD 1 undef=b:=by rw[aB2,Lc (by simp)]; rfl
end
inductive Sh where
 | I (k:IntKind)
 | B
 | S
 | L (o:Bool) (z:Nat)
 | Y
 | P
 | H (i j z:Nat)
 | M
 | C
 | pt (i j:Nat)
 | bd (t i:Nat)
 | rf
 | ni
 | fn (n:Nat)
@[reducible] def Sh.V : List Sh -> Type
 | []=>Unit
 | .I _::l=>Int×Sh.V l
 | .B::l=>Bool×Sh.V l
 | .S::l=>ByteArray×Sh.V l
 | .L _ _::l=>bSH×Sh.V l
 | .Y::l=>bSI×Sh.V l
 | .P::l=>PV×Sh.V l
 | .H _ _ _::l=>Nat×Sh.V l
 | .M::l=>bSH×Sh.V l
 | .C::l=>bSH×Sh.V l
 | .pt _ _::l=>Sh.V l
 | .bd _ _::l=>Sh.V l
 | .rf::l=>Sh.V l
 | .ni::l=>Sh.V l
 | .fn _::l=>Sh.V l
def mkS:(sh:List Sh)->Sh.V sh->bSH
 | [],_ => []
 | .I κ::l,v => .int κ v.1::mkS l v.2
 | .B::l,v => .bool v.1::mkS l v.2
 | .S::l,v => .str v.1::mkS l v.2
 | .L o z::l,v => .sl o z v.1::mkS l v.2
 | .Y::l,v => .dB v.1::mkS l v.2
 | .P::l,v=>v.1::mkS l v.2
 | .H i j z::l,v => .slh i j v.1 z::mkS l v.2
 | .M::l,v => .mp v.1::mkS l v.2
 | .C::l,v => .func (.yield 4242) v.1 []::mkS l v.2
 | .pt i j::l,v => .ptr i j::mkS l v
 | .bd t i::l,v => .cZ t i::mkS l v
 | .rf::l,v => .raw .nilFunc::mkS l v
 | .ni::l,v => .raw .nilIface::mkS l v
 | .fn n::l,v => .func (.func n) [] []::mkS l v
def jb:(sh:List Sh)->bSH->Option (Sh.V sh)
 | [],ps=>(match ps with | []=>some () | _::_=>none)
 | .I κ::sh,ps=>(match ps with | .int κ' n::ps=>(match decide (κ'=κ) with | true=>(jb sh ps).map fun v=>(n,v) | false=>none) | _=>none)
 | .B::sh,ps=>(match ps with | .bool n::ps=>(jb sh ps).map fun v=>(n,v) | _=>none)
 | .S::sh,ps=>(match ps with | .str n::ps=>(jb sh ps).map fun v=>(n,v) | _=>none)
 | .L o z::sh,ps=>(match ps with | .sl o' z' n::ps=>(match o'==o&&Nat.beq z' z with | true=>(jb sh ps).map fun v=>(n,v) | false=>none) | _=>none)
 | .Y::sh,ps=>(match ps with | .dB n::ps=>(jb sh ps).map fun v=>(n,v) | _=>none)
 | .P::sh,ps=>(match ps with | n::ps=>(jb sh ps).map fun v=>(n,v) | _=>none)
 | .H i j z::sh,ps=>(match ps with | .slh i' j' n z'::ps=>(match Nat.beq i' i&&Nat.beq j' j&&Nat.beq z' z with | true=>(jb sh ps).map fun v=>(n,v) | false=>none) | _=>none)
 | .M::sh,ps=>(match ps with | .mp n::ps=>(jb sh ps).map fun v=>(n,v) | _=>none)
 | .C::sh,ps=>(match ps with | .func (.yield m) n []::ps=>(match Nat.beq m 4242 with | true=>(jb sh ps).map fun v=>(n,v) | false=>none) | _=>none)
 | .pt i j::sh,ps=>(match ps with | .ptr i' j'::ps=>(match Nat.beq i' i&&Nat.beq j' j with | true=>jb sh ps | false=>none) | _=>none)
 | .bd i j::sh,ps=>(match ps with | .cZ i' j'::ps=>(match Nat.beq i' i&&Nat.beq j' j with | true=>jb sh ps | false=>none) | _=>none)
 | .rf::sh,ps=>(match ps with | .raw .nilFunc::ps=>jb sh ps | _=>none)
 | .ni::sh,ps=>(match ps with | .raw .nilIface::ps=>jb sh ps | _=>none)
 | .fn m::sh,ps=>(match ps with | .func (.func n) [] []::ps=>(match Nat.beq n m with | true=>jb sh ps | false=>none) | _=>none)
theorem KI {α β:Type} {o:Option β} {n:α} {v:α×β} (h:(o.map fun v=>(n,v))=some v):n=v.1/\o=some v.2:=by
 cases o with
 | none=>cases h
 | some w=>injection h with h; subst h; exact ⟨rfl,rfl⟩
theorem xu:∀ (sh:List Sh) (ps:bSH) (v:Sh.V sh),jb sh ps=some v->mkS sh v=ps
 | [],ps,v,h=>by
  unfold jb at h; split at h
  .rfl
  .cases h
 | .I κ::sh,ps,v,h=>by
  unfold jb at h; split at h
  .split at h
   .rename_i hk; have hk:=qo hk; subst hk;obtain ⟨e1,e2⟩:=KI h; unfold mkS; rw[xu sh _ _ e2,e1]
   .cases h
  .cases h
 | .B::sh,ps,v,h | .S::sh,ps,v,h | .Y::sh,ps,v,h | .P::sh,ps,v,h | .M::sh,ps,v,h=>by
  unfold jb at h; split at h
  .obtain ⟨e1,e2⟩:=KI h; unfold mkS; rw[xu sh _ _ e2,e1]
  .cases h
 | .L o z::sh,ps,v,h=>by
  unfold jb at h; split at h
  .split at h
   .rename_i hk; simp only[au,oN,Iz] at hk; obtain ⟨rfl,rfl⟩:=hk;obtain ⟨e1,e2⟩:=KI h; unfold mkS; rw[xu sh _ _ e2,e1]
   .cases h
  .cases h
 | .H i j z::sh,ps,v,h=>by
  unfold jb at h; split at h
  .split at h
   .rename_i hk; simp only[au,Iz] at hk; obtain ⟨⟨rfl,rfl⟩,rfl⟩:=hk;obtain ⟨e1,e2⟩:=KI h; unfold mkS; rw[xu sh _ _ e2,e1]
   .cases h
  .cases h
 | .C::sh,ps,v,h=>by
  unfold jb at h; split at h
  .split at h
   .rename_i hk; simp only[Iz] at hk; subst hk;obtain ⟨e1,e2⟩:=KI h; unfold mkS; rw[xu sh _ _ e2,e1]
   .cases h
  .cases h
 | .pt i j::sh,ps,v,h | .bd i j::sh,ps,v,h=>by
  unfold jb at h; split at h
  .split at h
   .rename_i hk; simp only[au,Iz] at hk; obtain ⟨rfl,rfl⟩:=hk;unfold mkS; rw[xu sh _ _ h]
   .cases h
  .cases h
 | .rf::sh,ps,v,h | .ni::sh,ps,v,h=>by
  unfold jb at h; split at h
  .unfold mkS; rw[xu sh _ _ h]
  .cases h
 | .fn m::sh,ps,v,h=>by
  unfold jb at h; split at h
  .split at h
   .rename_i hk; simp only[Iz] at hk; subst hk;unfold mkS; rw[xu sh _ _ h]
   .cases h
  .cases h
def zS:List Sh->bSH
 | [] => []
 | .pt i j::l => .ptr i j::zS l
 | .bd t i::l => .cZ t i::zS l
 | .rf::l => .raw .nilFunc::zS l
 | .ni::l => .raw .nilIface::zS l
 | .fn n::l => .func (.func n) [] []::zS l
 | _::l => .nilp::zS l
def D9:List Sh->Bool
 | []=>true
 | .pt _ _::l | .bd _ _::l | .rf::l | .ni::l | .fn _::l=>D9 l
 | _::_=>false
theorem La:∀ (l:List Sh) (v:Sh.V l),D9 l=true->mkS l v=zS l
 | [],_,_=>rfl
 | .pt i j::l,v,h=>congrArg (_ :: ·) (La l v h)
 | .bd i j::l,v,h=>congrArg (_ :: ·) (La l v h)
 | .rf::l,v,h=>congrArg (_ :: ·) (La l v h)
 | .ni::l,v,h=>congrArg (_ :: ·) (La l v h)
 | .fn n::l,v,h=>congrArg (_ :: ·) (La l v h)
 | .I _::_,_,h | .B::_,_,h | .S::_,_,h | .L _ _::_,_,h | .Y::_,_,h | .P::_,_,h | .H _ _ _::_,_,h | .M::_,_,h | .C::_,_,h=>by cases h
@[reducible] def TV : List (Bool × List Sh) -> Type
 | []=>Unit
 | b::l=>Sh.V b.2×TV l
def IJ:(sh:List (Bool×List Sh))->TV sh->bSH
 | [],_ => []
 | b::l,v=>bif b.1 then .agg (mkS b.2 v.1)::IJ l v.2 else (mkS b.2 v.1).headD .nilp::IJ l v.2
def rdT:(sh:List (Bool×List Sh))->bSH->Option (TV sh)
 | [],ps=>(match ps with | []=>some () | _::_=>none)
 | (true,l)::sh,ps=>(match ps with | .agg cs::ps=>(match jb l cs with | some v=>(rdT sh ps).map fun w=>(v,w) | none=>none) | _=>none)
 | (false,l)::sh,ps=>(match ps with | p::ps=>(match jb l [p] with | some v=>(rdT sh ps).map fun w=>(v,w) | none=>none) | _=>none)
theorem a8V:∀ (sh:List (Bool×List Sh)) (ps:bSH) (v:TV sh),rdT sh ps=some v->IJ sh v=ps
 | [],ps,v,h=>by
  unfold rdT at h; split at h
  .rfl
  .cases h
 | (true,l)::sh,ps,v,h=>by
  unfold rdT at h; split at h
  .split at h
   .rename_i e;obtain ⟨e1,e2⟩:=KI h; unfold IJ; rw[a8V sh _ _ e2,<- e1,xu _ _ _ e]; rfl
   .cases h
  .cases h
 | (false,l)::sh,ps,v,h=>by
  unfold rdT at h; split at h
  .split at h
   .rename_i e;obtain ⟨e1,e2⟩:=KI h; unfold IJ; rw[a8V sh _ _ e2,<- e1,xu _ _ _ e]; rfl
   .cases h
  .cases h
inductive RS where
 | ti (k:IntKind)
 | tb
 | ts
 | tl (o:Bool) (z:Nat)
 | tp
 | z (c:Sh)
 | o (c:Sh)
 | g (l:List Sh)
 | t (l:List (Bool×List Sh))
@[reducible] def RS.F : RS -> Type -> Type
 | .ti _,T=>Int->T
 | .tb,T=>Bool->T
 | .ts,T=>ByteArray->T
 | .tl _ _,T=>bSH->T
 | .tp,T=>PV->T
 | .z _,T=>T
 | .o c,T=>Sh.V [c]->T
 | .g l,T=>Sh.V l->T
 | .t l,T=>TV l->T
def Ht (sh:List Sh) (p:PV) {T:Type} (K:Sh.V sh->Option T):Option T:=match p with | .agg cs=>(match jb sh cs with | some v=>K v | none=>none) | _=>none
def Zx (sh:List (Bool×List Sh)) (p:PV) {T:Type} (K:TV sh->Option T):Option T:=match p with | .tuple cs=>(match rdT sh cs with | some v=>K v | none=>none) | _=>none
def oV (s:Sh) (p:PV) {T:Type} (K:Sh.V [s]->Option T):Option T:=match jb [s] [p] with | some v=>K v | none=>none
def PI:(rs:RS)->PV->RS.F rs R->R
 | .ti k,p,K=>vI k p K
 | .tb,p,K=>vB p K
 | .ts,p,K=>vS p K
 | .tl o z,p,K=>vL o z p K
 | .tp,p,K=>K p
 | .z c,p,K=>aA (D9 [c]) (oV c p fun _=>K) none
 | .o c,p,K=>oV c p K
 | .g l,p,K=>Ht l p K
 | .t l,p,K=>Zx l p K
def P6:(rs:RS) -> {T:Type}->(PV->T)->RS.F rs T
 | .ti k,_,K=>fun n=>K (.int k n)
 | .tb,_,K=>fun n=>K (.bool n)
 | .ts,_,K=>fun n=>K (.str n)
 | .tl o z,_,K=>fun n=>K (.sl o z n)
 | .tp,_,K=>fun p=>K p
 | .z c,_,K=>K ((zS [c]).headD .nilp)
 | .o c,_,K=>fun v=>K ((mkS [c] v).headD .nilp)
 | .g l,_,K=>fun v=>K (.agg (mkS l v))
 | .t l,_,K=>fun v=>K (.tuple (IJ l v))
theorem bHG (s:Sh) (p:PV):(∀ K:PV->R,oV s p (fun v=>K ((mkS [s] v).headD .nilp))=K p)\/(∀ K:Sh.V [s]->R,oV s p K=none):=by
 unfold oV;cases e:jb [s] [p] with
 | none=>exact .inr fun _=>rfl
 | some v=>exact .inl fun K=>by show K _=K _; rw[xu _ _ _ e]; rfl
theorem bC5 (l:List Sh) (p:PV):(∀ K:PV->R,Ht l p (fun v=>K (.agg (mkS l v)))=K p)\/(∀ K:PV->R,Ht l p (fun v=>K (.agg (mkS l v)))=none):=by
 unfold Ht;cases p with
 | agg cs =>
  dsimp only;cases e:jb l cs with
  | none=>exact .inr fun _=>rfl
  | some v=>exact .inl fun K=>by show K _=K _; rw[xu _ _ _ e]
 | _=>exact .inr fun _=>rfl
theorem bNC (l:List (Bool×List Sh)) (p:PV):(∀ K:PV->R,Zx l p (fun v=>K (.tuple (IJ l v)))=K p)\/(∀ K:PV->R,Zx l p (fun v=>K (.tuple (IJ l v)))=none):=by
 unfold Zx;cases p with
 | tuple cs =>
  dsimp only;cases e:rdT l cs with
  | none=>exact .inr fun _=>rfl
  | some v=>exact .inl fun K=>by show K _=K _; rw[a8V _ _ _ e]
 | _=>exact .inr fun _=>rfl
theorem aP3 (rs:RS) (p:PV):(∀ K:PV->R,PI rs p (P6 rs K)=K p)\/(∀ K:PV->R,PI rs p (P6 rs K)=none):=by
 cases rs with
 | ti k=>exact rZ k p
 | tb=>exact Io p
 | ts=>exact V9 p
 | tl o z=>exact BC o z p
 | tp=>exact .inl fun _=>rfl
 | z s =>
  cases hz:D9 [s] with
  | false=>exact .inr fun K=>by show aA (D9 [s]) _ _=_; rw[hz,aC]
  | true =>
   cases h:jb [s] [p] with
   | none=>exact .inr fun K=>by show aA (D9 [s]) (oV s p _) _=_; rw[hz,aG]; unfold oV; rw[h]
   | some v =>have h1:=xu _ _ _ h;have h2:=La [s] v hz;exact .inl fun K=>by show aA (D9 [s]) (oV s p fun _=>K ((zS [s]).headD .nilp)) _=_;rw[hz,aG,<- h2,h1]; unfold oV; rw[h]; rfl
 | o s =>
  rcases bHG s p with e | e
  .exact .inl e
  .exact .inr fun K=>e _
 | g l=>exact bC5 l p
 | t l=>exact bNC l p
inductive OS where
 | c (l:List Sh)
 | z (l:List Sh)
 | a
@[reducible] def fD : List OS -> Type
 | []=>R
 | .c l::os=>Sh.V l->fD os
 | .z _::os=>fD os
 | .a::os=>bSH->fD os
def sZ:(os:List OS)->aI->fD os->R
 | [],h,f=>(match h with | []=>f | _::_=>none)
 | .c l::os,h,f=>(match h with | some cs::h=>(match jb l cs with | some v=>sZ os h (f v) | none=>none) | _=>none)
 | .z l::os,h,f=>(match h with | some cs::h=>(match jb l cs with | some _=>sZ os h f | none=>none) | _=>none)
 | .a::os,h,f=>(match h with | some cs::h=>sZ os h (f cs) | _=>none)
def IV:(os:List OS)->(aI->R)->fD os
 | [],K=>K []
 | .c l::os,K=>fun v=>IV os fun h=>K (some (mkS l v)::h)
 | .z l::os,K=>IV os fun h=>aA (D9 l) (K (some (zS l)::h)) none
 | .a::os,K=>fun cs=>IV os fun h=>K (some cs::h)
theorem ZC:∀ (os:List OS) (h:aI),(∀ K:aI->R,sZ os h (IV os K)=K h)\/(∀ K:aI->R,sZ os h (IV os K)=none)
 | [],[] => .inl fun _=>rfl
 | [],_::_ => .inr fun _=>rfl
 | .c l::os,h=>by
  unfold sZ;split
  .rename_i cs h;cases e:jb l cs with
   | none=>exact .inr fun _=>rfl
   | some v =>
    have:=xu _ _ _ e;subst this;rcases ZC os h with e2 | e2
    .exact .inl fun K=>e2 _
    .exact .inr fun K=>e2 _
  .exact .inr fun _=>rfl
 | .z l::os,h=>by
  unfold sZ;split
  .rename_i cs h;cases e:jb l cs with
   | none=>exact .inr fun _=>rfl
   | some v =>
    have:=xu _ _ _ e;subst this;rcases ZC os h with e2 | e2
    .cases hz:D9 l with
     | true =>
      refine .inl fun K=>(e2 _).trans ?_
      show aA (D9 l) _ _=_;rw[hz,aG,<- La l v hz]
     | false =>
      refine .inr fun K=>(e2 _).trans ?_
      show aA (D9 l) _ _=_;rw[hz,aC]
    .exact .inr fun K=>e2 _
  .exact .inr fun _=>rfl
 | .a::os,h=>by
  unfold sZ;split
  .rename_i cs h;rcases ZC os h with e2 | e2
   .exact .inl fun K=>e2 _
   .exact .inr fun K=>e2 _
  .exact .inr fun _=>rfl
def hvK:(rs:RS)->(os:List OS)->aI->RS.F rs (fD os)->RS.F rs R
 | .ti _,os,h,K=>fun n=>sZ os h (K n)
 | .tb,os,h,K=>fun n=>sZ os h (K n)
 | .ts,os,h,K=>fun n=>sZ os h (K n)
 | .tl _ _,os,h,K=>fun n=>sZ os h (K n)
 | .tp,os,h,K=>fun n=>sZ os h (K n)
 | .z _,os,h,K=>sZ os h K
 | .o _,os,h,K=>fun n=>sZ os h (K n)
 | .g _,os,h,K=>fun n=>sZ os h (K n)
 | .t _,os,h,K=>fun n=>sZ os h (K n)
def hv (rs:RS) (os:List OS) (p:PV) (h:aI) (K:RS.F rs (fD os)):R:=PI rs p (hvK rs os h K)
def pack (rs:RS) (os:List OS) (K:PV->aI->R):RS.F rs (fD os):=P6 rs fun p=>IV os (K p)
theorem bCX (rs:RS) (os:List OS) (h:aI) (K:PV->aI->R):hvK rs os h (pack rs os K)=P6 rs fun p=>sZ os h (IV os (K p)):=by cases rs<;>rfl
theorem bCY (rs:RS) (os:List OS) (p:PV) (h:aI):(∀ K:PV->aI->R,hv rs os p h (pack rs os K)=K p h)\/(∀ K:PV->aI->R,hv rs os p h (pack rs os K)=none):=by
 have hh:∀ K:PV->aI->R,hv rs os p h (pack rs os K)=PI rs p (P6 rs fun p=>sZ os h (IV os (K p))):=fun K=>by unfold hv; rw[bCX]
 rcases aP3 rs p with e | e
 .rcases ZC os h with e2 | e2
  .exact .inl fun K=>(hh K).trans ((e _).trans (e2 _))
  .exact .inr fun K=>(hh K).trans ((e _).trans (e2 _))
 .exact .inr fun K=>(hh K).trans (e _)
abbrev bD (sh:List Sh) (l:bSH) (n:Int) (K:Sh.V sh->R):R:=dQ l n fun e=>Ht sh e K
def shC:List Sh->bSH->Bool
 | [],ps=>ps.isEmpty
 | s::sh,ps=>(match ps with
  | []=>false
  | p::ps=>(match s,p with
   | .I κ,.int κ' _=>decide (κ'=κ)
   | .B,.bool _=>true
   | .S,.str _=>true
   | .L o z,.sl o' z' _=>o'==o&&Nat.beq z' z
   | .Y,.dB _=>true
   | .P,_=>true
   | .H i j z,.slh i' j' _ z'=>Nat.beq i' i&&Nat.beq j' j&&Nat.beq z' z
   | .M,.mp _=>true
   | .C,.func (.yield n) _ []=>Nat.beq n 4242
   | .pt i j,.ptr i' j'=>Nat.beq i' i&&Nat.beq j' j
   | .bd t i,.cZ t' i'=>Nat.beq t' t&&Nat.beq i' i
   | .rf,.raw .nilFunc=>true
   | .ni,.raw .nilIface=>true
   | .fn m,.func (.func n) [] []=>Nat.beq n m
   | _,_=>false)&&shC sh ps)
def Zh:List OS->aI->Bool
 | [],h=>h.isEmpty
 | .c l::os,h=>(match h with | some cs::h=>shC l cs&&Zh os h | _=>false)
 | .z l::os,h=>(match h with | some cs::h=>shC l cs&&Zh os h | _=>false)
 | .a::os,h=>(match h with | some _::h=>Zh os h | _=>false)
def tl {α:Type} (g k:Nat) (a b:α):α:=bif Nat.blt g k then a else b
def te {α:Type} (g k:Nat) (a b:α):α:=bif Nat.beq g k then a else b
def VVt (t:TypeId->Option RS) (i:TypeId) (p:PV) (K:PV->R):R:=match t i with | some rs=>PI rs p (P6 rs K) | none=>K p
theorem aS9 (t:TypeId->Option RS):yh (VVt t):=fun i p=>by
 unfold VVt;cases t i with
 | none=>exact .inl fun _=>rfl
 | some rs=>exact aP3 rs p
abbrev jg:=List OS×RS×List OS
def Vp:List jg->aI->PV->aI->(PV->aI->R)->R
 | [],_,r,h,K=>K r h
 | w::l,h0,r,h,K=>aA (Zh w.1 h0) (hv w.2.1 w.2.2 r h (pack w.2.1 w.2.2 K)) (Vp l h0 r h K)
theorem aC0:∀ (l:List jg) (h0:aI) (r:PV) (h:aI),(∀ K:PV->aI->R,Vp l h0 r h K=K r h)\/(∀ K:PV->aI->R,Vp l h0 r h K=none)
 | [],_,_,_ => .inl fun _=>rfl
 | w::l,h0,r,h=>su (bCY w.2.1 w.2.2 r h) (aC0 l h0 r h)
def WWt (t:FuncId->List jg) (g:FuncId):aI->PV->aI->(PV->aI->R)->R:=Vp (t g)
theorem aSE (t:FuncId->List jg):uF (WWt t):=fun g h r h'=>aC0 (t g) h r h'
theorem CCk {S:SE} (hS:S.OK) {g:FuncId} {args:bSH} {h:aI} {v:R} (h0:S.C0 g args h=none) (e:S.run S.CC S.LL g args h=v):S.CC g args h=v:=(tY hS h0).trans e
theorem LLk {S:SE} (hS:S.OK) {E:AE} {m0:Nat} {l:List Nat} {m:Nat} {x:Code} {K:AX->ASt->R} {Z:ASt} {v:R} (hm:m0<=m) (hg:Dz l m Z=true) (hP:S.wp E=E)
 (e:chk (Fa l m Z) (bH (S.xe S.CC S.LL E m0) x (wX (fun Z'=>S.LL E m0 l m x K (Z'.gc l m)) K) (Z.gc l m))=v):S.LL E m0 l m x K Z=v:=(DV hS hm hg hP).trans e
abbrev KT:=AX->ASt->R
def aOF:Nat->Nat->List Bool
 | 0,_ => []
 | k+1,n=>match Nat.ble n 1 with | true => [] | false=>Nat.beq (n % 2) 1::aOF k (n / 2)
def cS (f:Func) (p:Nat):Code:=Code.sub (aOF 99 p) (qU f)
def SE.xX (S:SE) (f n m:Nat):XE:=S.xe S.CC S.LL (S.ae f n) m
def SE.rK (S:SE) (f:Func) (g m:Nat) (fl:List Nat):KT:=Fq S.P f.results.toList (S.iI g).ro m fl
def SE.jK (S:SE) (f n m:Nat) (c:Code) (K:KT):KT:=wX (um (S.ae f n) m c (bH (S.xX f n m) c K)) K
def SE.lK (S:SE) (f n m:Nat) (l:List Nat) (k:Nat) (c:Code) (K:KT):KT:=wX (fun Z=>S.LL (S.ae f n) m l k c K (Z.gc l k)) K
def Qq:Nat->R->R
 | 0,a=>a
 | n+1,a=>bn a (Qq n a)
theorem aCB:∀ (n:Nat) (a:R),Qq n a=a
 | 0,_=>rfl
 | n+1,a=>by rw[Qq,aCB n,Gu]
def sK (F:(Nat->R->R)->R):R:=F fun _ a=>a
theorem Et {v:R} {F:(Nat->R->R)->R} (h:v=F Qq):v=sK F:=by rw[show Qq=fun _ a=>a from funext fun n=>funext fun a=>aCB n a] at h;exact h
section
variable {S:SE}
def SE.U3 (S:SE) (T:Cal):Nat->yD
 | 0=>fun _ _ _ _ _ _ _=>none
 | n+1=>S.turn T (S.U3 T n)
def SE.stepT (S:SE) (T:Cal) (n:Nat) (g:FuncId) (args:bSH) (h:aI):R:=FV (S.C0 g args h) (S.run T (S.U3 T n) g args h)
def WV (T C:Cal):Prop:=∀ g args h v,T g args h=some v->C g args h=some v
theorem aM6 (hS:S.OK) {T:Cal} (hT:WV T S.CC):∀ (n:Nat) (E:AE) (m0:Nat) (l:List Nat) (m:Nat) (x:Code) (K K':AX->ASt->R) (Z:ASt) (v:PV×aI),(∀ e Z v,K e Z=some v->K' e Z=some v)->S.U3 T n E m0 l m x K Z=some v->S.LL E m0 l m x K' Z=some v
 | 0,_,_,_,_,_,_,_,_,_,_,h=>by cases h
 | n+1,E,m0,l,m,x,K,K',Z,v,hK,hv=>by
  have hC:∀ g args h,DT fun i=>(bif i then S.CC else T) g args h:=fun g args h v hv=>hT g args h v hv
  have hL:∀ (E:AE) (m0:Nat) (l:List Nat) (m:Nat) (x:Code) (K:Bool->AX->ASt->R) (Z:ASt),(∀ e Z,DT fun i=>K i e Z)->DT fun i=>(bif i then S.LL else S.U3 T n) E m0 l m x (K i) Z :=fun E m0 l m x K Z hK v hv=>aM6 hS hT n E m0 l m x _ _ Z v (fun e Z v h=>hK e Z v h) hv
  rw[aBZ hS];exact YQ JU hS hC hL (K:=fun i=>bif i then K' else K) (fun e Z v h=>hK e Z v h) v hv
theorem aRG (hS:S.OK) {T:Cal} (hT:WV T S.CC) (n:Nat) {g:FuncId} {args:bSH} {h:aI} {v:PV×aI} (e:S.stepT T n g args h=some v):S.CC g args h=some v:=by
 have hC:∀ g args h,DT fun i=>(bif i then S.CC else T) g args h:=fun g args h v hv=>hT g args h v hv
 have hL:∀ (E:AE) (m0:Nat) (l:List Nat) (m:Nat) (x:Code) (K:Bool->AX->ASt->R) (Z:ASt),(∀ e Z,DT fun i=>K i e Z)->DT fun i=>(bif i then S.LL else S.U3 T n) E m0 l m x (K i) Z :=fun E m0 l m x K Z hK v hv=>aM6 hS hT n E m0 l m x _ _ Z v (fun e Z v h=>hK e Z v h) hv
 rw[J5 hS];exact a4D JU (a4E JU hS hC hL) v e
structure Ans where
 g:FuncId
 args:bSH
 h:aI
 v:PV×aI
def Zv:List Ans->Cal
 | [],_,_,_=>none
 | a::l,g,args,h=>(match Nat.beq a.g g&&(PV.zJ a.args args&&Dt a.h h) with | true=>some a.v | false=>Zv l g args h)
theorem aQN {C:Cal}:∀ {l:List Ans},(∀ a,a∈l->C a.g a.args a.h=some a.v)->WV (Zv l) C
 | [],_,_,_,_,_,h=>by cases h
 | a::l,hl,g,args,h,v,hv=>by
  unfold Zv at hv;split at hv
  .rename_i hc;simp only[au] at hc;injection hv with hv
   have h1:=lm hc.1;have h2:=PV.Dq hc.2.1;have h3:=Wy hc.2.2;rw[<- h1,<- h2,<- h3,<- hv];exact hl a (by simp)
  .exact aQN (fun b hb=>hl b (List.mem_cons_of_mem _ hb)) g args h v hv
theorem fU {C:Cal}:∀ a,a∈([]:List Ans)->C a.g a.args a.h=some a.v:=fun _ h=>by cases h
theorem aSN {C:Cal} {a:Ans} {l:List Ans} (h:C a.g a.args a.h=some a.v) (hl:∀ a,a∈l->C a.g a.args a.h=some a.v):∀ b,b∈a::l->C b.g b.args b.h=some b.v:=fun b hb=>by
 rcases iQ.1 hb with rfl | hb
 .exact h
 .exact hl b hb
def SE.memo (S:SE) (l:List Ans) (n:Nat):Cal:=fun g args h=>match Zv l g args h with
 | some v=>some v
 | none=>(S.aZ n).1 g args h
theorem bGX (hS:S.OK) {l:List Ans} (hl:∀ a,a∈l->S.CC a.g a.args a.h=some a.v) (n:Nat):WV (S.memo l n) S.CC:=fun g args h v hv=>by
 unfold SE.memo at hv;split at hv
 .rename_i w hw;injection hv with hv; subst hv
  exact aQN hl g args h _ hw
 .exact aBE hS n hv
theorem aRH (hS:S.OK) (m:Nat) {l:List Ans} (hl:∀ a,a∈l->S.CC a.g a.args a.h=some a.v) (n:Nat) {a:Ans} (e:S.stepT (S.memo l m) n a.g a.args a.h=some a.v):S.CC a.g a.args a.h=some a.v:=aRG hS (bGX hS hl m) n e
end
end Go.Proofs.YtcdceiloganlnaaGreatDoor
end

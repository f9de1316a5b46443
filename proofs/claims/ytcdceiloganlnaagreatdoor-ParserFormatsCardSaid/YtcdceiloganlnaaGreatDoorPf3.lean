/- A part of the proof. -/
import Derived.Test.YtcdceiloganlnaaGreatDoorPf2
import Derived.Test.YtcdceiloganlnaaGreatDoorChecked
import Derived.ProofKit
import Derived.SizedLaws
import Derived.Deep.Slices
import Derived.Deep.Fields
import Derived.ChangeArms
import Derived.OpenShut
import Derived.ChangeOld
import Derived.RangeFuncIn
import Derived.OrdersIn
import Derived.TacticsIn
import Derived.LoopNIn
import Derived.RangeFuncRecord
import Derived.RangeFuncLeaves
set_option linter.unusedVariables false
set_option linter.unusedSimpArgs false
set_option linter.unnecessarySimpa false
set_option linter.unusedSectionVars false
noncomputable section
namespace Go.Proofs.YtcdceiloganlnaaGreatDoor
open Go.RowKit
abbrev R:=Option (PV×aG)
abbrev Cal:=FuncId->bTA->aG->R
def aA (b:Bool) (A B:R):R:=match b with | true=>A | false=>B
def chk (b:Bool) (A:R):R:=match b with | true=>A | false=>none
def eH (es:bTA) (n:Int) (K:PV->R):R:=if 0<=n then (match es[n.toNat]? with | some e=>K e | none=>none) else none
def vJ (s:ByteArray) (n:Int) (K:Int->R):R:=if 0<=n then (match s[n.toNat]? with | some b=>K b.toNat | none=>none) else none
mutual
def PV.oW:PV->PV->Bool
 | .int k n,q=>(match q with | .int k' n'=>decide (k=k')&&decide (n=n') | _=>false)
 | .bool b,q=>(match q with | .bool b'=>b==b' | _=>false)
 | .str s,q=>(match q with | .str s'=>s.data.toList==s'.data.toList | _=>false)
 | .nilp,q=>(match q with | .nilp=>true | _=>false)
 | .raw v,q=>(match v,q with | .nilFunc,.raw .nilFunc=>true | .nilIface,.raw .nilIface=>true | _,_=>false)
 | .ptr i o,q=>(match q with | .ptr i' o'=>Nat.beq i i'&&Nat.beq o o' | _=>false)
 | .cO i o,q=>(match q with | .cO i' o'=>Nat.beq i i'&&Nat.beq o o' | _=>false)
 | .cst e,q=>(match q with | .cst e'=>PV.oW e e' | _=>false)
 | .sl o z l,q=>(match q with | .sl o' z' l'=>(o==o'&&Nat.beq z z')&&PV.yz l l' | _=>false)
 | .slh i o n z,q=>(match q with | .slh i' o' n' z'=>(Nat.beq i i'&&Nat.beq o o')&&(Nat.beq n n'&&Nat.beq z z') | _=>false)
 | .cZ l,q=>(match q with | .cZ l'=>l==l' | _=>false)
 | .gB o n z l,q=>(match q with | .gB o' n' z' l'=>((o==o'&&Nat.beq n n')&&Nat.beq z z')&&PV.yz l l' | _=>false)
 | .mp l,q=>(match q with | .mp l'=>PV.yz l l' | _=>false)
 | .func f a c,q=>(match q with | .func f' a' c'=>(match f,f' with | .func g,.func g'=>Nat.beq g g' | .yield g,.yield g'=>Nat.beq g g' | _,_=>false)&&(PV.yz a a'&&PV.yz c c') | _=>false)
 | .agg l,q=>(match q with | .agg l'=>PV.yz l l' | _=>false)
 | .tuple l,q=>(match q with | .tuple l'=>PV.yz l l' | _=>false)
def PV.yz:bTA->bTA->Bool
 | [],l=>(match l with | []=>true | _::_=>false)
 | p::ps,l=>(match l with | []=>false | q::qs=>PV.oW p q&&PV.yz ps qs)
end
mutual
theorem PV.Xm:∀ {p q:PV},PV.oW p q=true->p=q
 | .int k n,q,h=>by cases q<;>simp[PV.oW] at h; rw[h.1,h.2]
 | .bool b,q,h=>by cases q<;>simp[PV.oW] at h; rw[h]
 | .str s,q,h=>by
  cases q<;>simp[PV.oW] at h
  rename_i s';cases s; cases s'; simp only at h; rw[h]
 | .nilp,q,h=>by cases q<;>simp[PV.oW] at h; rfl
 | .raw v,q,h=>by
  unfold PV.oW at h;split at h
  .rfl
  .rfl
  .cases h
 | .ptr i o,q,h=>by cases q<;>simp[PV.oW] at h; rw[h.1,h.2]
 | .cO i o,q,h=>by cases q<;>simp[PV.oW] at h; rw[h.1,h.2]
 | .cst e,q,h=>by cases q<;>simp[PV.oW] at h; rw[PV.Xm h]
 | .sl o z l,q,h=>by cases q<;>simp[PV.oW] at h; rw[h.1.1,h.1.2,PV.DD h.2]
 | .slh i o n z,q,h=>by cases q<;>simp[PV.oW] at h; rw[h.1.1,h.1.2,h.2.1,h.2.2]
 | .cZ l,q,h=>by cases q<;>simp[PV.oW] at h; rw[h]
 | .gB o n z l,q,h=>by cases q<;>simp[PV.oW] at h; rw[h.1.1.1,h.1.1.2,h.1.2,PV.DD h.2]
 | .mp l,q,h=>by cases q<;>simp[PV.oW] at h; rw[PV.DD h]
 | .func f a c,q,h=>by
  cases q<;>simp[PV.oW] at h
  obtain ⟨h1,h2,h3⟩:=h;rw[PV.DD h2,PV.DD h3];split at h1
  .simp at h1; rw[h1]
  .simp at h1; rw[h1]
  .cases h1
 | .agg l,q,h=>by cases q<;>simp[PV.oW] at h; rw[PV.DD h]
 | .tuple l,q,h=>by cases q<;>simp[PV.oW] at h; rw[PV.DD h]
theorem PV.DD:∀ {l l':bTA},PV.yz l l'=true->l=l'
 | [],l',h=>by cases l'<;>simp[PV.yz] at h; rfl
 | p::ps,l',h=>by
  cases l'<;>simp[PV.yz] at h
  rw[PV.Xm h.1,PV.DD h.2]
end
def DF:aG->aG->Bool
 | [],l=>(match l with | []=>true | _::_=>false)
 | o::os,l=>(match l with
  | []=>false
  | o'::os'=>(match o,o' with | none,none=>true | some a,some b=>PV.yz a b | _,_=>false)&&DF os os')
theorem Xl:∀ {l l':aG},DF l l'=true->l=l'
 | [],l',h=>by cases l'<;>simp[DF] at h; rfl
 | o::os,l',h=>by
  cases l' with
  | nil=>simp[DF] at h
  | cons o' os' =>
   simp only[DF,bF] at h;rw[Xl h.2];congr 1
   have h1:=h.1;split at h1
   .rfl
   .rw[PV.DD h1]
   .cases h1
def JZ (a b:PV×aG):R:=open Classical in match PV.oW a.1 b.1&&DF a.2 b.2 with | true=>some a | false=>if a=b then some a else none
theorem aYF (a:PV×aG):JZ a a=some a:=by grind [JZ]
theorem aYG {a b v:PV×aG} (h:JZ a b=some v):a=v/\a=b:=by grind [JZ,PV.Xm,Xl]
def IE (es:bTA) (K:Bool->R):R:=match K false with
 | some (r,h)=>(match es.isEmpty with | false=>some (r,h) | true=>match K true with | some (r',h')=>JZ (r,h) (r',h') | none=>none)
 | none=>none
def FD (es:bTA) (n:Nat) (K:PV->R):R:=match es[n]? with | some e=>K e | none=>none
def jJ (C:Cal) (g:FuncId) (args:bTA) (K:PV->R):R:=match C g args [] with | some (r,[])=>K r | _=>none
def zq (C:Cal) (g:FuncId) (args:bTA) (h:aG) (K:PV->aG->R):R:=match C g args h with | some (r,h')=>K r h' | none=>none
def Rx (p:PV) (K:Bool->R):R:=match p with | .func _ _ _=>K false | .raw .nilFunc=>K true | _=>none
def Nw (p:PV) (K:FuncId->bTA->bTA->R):R:=match p with | .func (.func g) first caps=>K g first caps | _=>none
def RF:bTA->Nat->Int->(PV->R)->R
 | [],_,_,_=>none
 | p::r,k,n,K=>aA (n==(k:Int)) (K p) (RF r (k+1) n K)
def IA (s:Option IntKind) (L:bTA) (q:PV) (A:PV->R) (B:R):R:=match xE s L q with
 | some (some p)=>A p
 | some none=>B
 | none=>none
def KJ (s:Option IntKind):bTA->PV->(PV->R)->R->R
 | k::v::L,q,A,B=>(match eqK s q k with | some b=>aA b (A v) (KJ s L q A B) | none=>none)
 | [],_,_,B=>B
 | [_],_,_,_=>none
structure XE where
 E:AE
 C:Cal
 V:TypeId->PV->(PV->R)->R
 W:FuncId->aG->PV->aG->(PV->aG->R)->R
 L:List Nat->Nat->Code->(AX->ASt->R)->ASt->R
 m0:Nat
def a0T (d:Nat) (v:Bool):fD->fD
 | [] => []
 | (j,q)::l=>bif Nat.beq j d then (j,.bool v)::l else (j,q)::a0T d v l
def ASt.lit (d:Nat) (v:Bool) (Z:ASt):ASt := { Z with s:=a0T d v Z.s }
theorem aA' {d:Nat} {v:Bool}:∀ {s:fD},bT d s=some (.bool v)->a0T d v s=s
 | [],h=>by rfl
 | (j,q)::l,h=>by
  rw[bT] at h;rw[a0T];by_cases e:j=d;simp_all
  .rw[aQ e] at h;have hb:Nat.beq j d=false:=by
    cases h:Nat.beq j d
    .rfl
    .exact absurd (nZ h) e
   rw[hb,aA' h]; rfl
def dF (E:AE) (dst:Option Nat) (p:PV) (K:ASt->R) (Z:ASt):R:=match ASt.put E dst p Z with | some Z'=>K Z' | none=>none
def Um (E:AE) (dst:Option Nat) (p:Option PV) (K:ASt->R) (Z:ASt):R:=match p with | some p=>dF E dst p K Z | none=>none
def o8 (X:XE) (o:Oper) (K:ASt->R) (Z:ASt):R:=match bQ X.E o Z with | some (p,Z1)=>dF X.E o.dst p K Z1 | none=>none
def Jd (X:XE) (dst:Option Nat) (sz:Nat) (es:bTA) (lo hi:Option Operand) (K:ASt->R) (Z:ASt):R :=
 match lo,hi with
 | none,none=>dF X.E dst (.sl false sz es) K Z
 | some l,none=>(match Z.rd l with | some (.int _ a)=>chk (decide (0<=a)&&decide (a<=es.length)) (dF X.E dst (.sl false sz (es.drop a.toNat)) K Z) | _=>none)
 | none,some h=>(match Z.rd h with | some (.int _ b)=>chk (decide (0<=b)&&decide (b<=es.length)) (dF X.E dst (.sl false sz (es.take b.toNat)) K Z) | _=>none)
 | some l,some h=>(match Z.rd l,Z.rd h with | some (.int _ a),some (.int _ b)=>chk (decide (0<=a)&&decide (a<=b)&&decide (b<=es.length)) (dF X.E dst (.sl false sz ((es.take b.toNat).drop a.toNat)) K Z) | _,_=>none)
def Je (X:XE) (dst:Option Nat) (s:ByteArray) (lo hi:Option Operand) (K:ASt->R) (Z:ASt):R :=
 match lo,hi with
 | none,none=>dF X.E dst (.str (s.extract 0 s.size)) K Z
 | some l,none=>(match Z.rd l with | some (.int _ a)=>chk (decide (0<=a)&&decide (a<=s.size)) (dF X.E dst (.str (s.extract a.toNat s.size)) K Z) | _=>none)
 | none,some h=>(match Z.rd h with | some (.int _ b)=>chk (decide (0<=b)&&decide (b<=s.size)) (dF X.E dst (.str (s.extract 0 b.toNat)) K Z) | _=>none)
 | some l,some h=>(match Z.rd l,Z.rd h with | some (.int _ a),some (.int _ b)=>chk (decide (0<=a)&&decide (a<=b)&&decide (b<=s.size)) (dF X.E dst (.str (s.extract a.toNat b.toNat)) K Z) | _,_=>none)
def a3V (X:XE) (dst:Option Nat) (t:TypeId) (sz:Nat) (es:bTA) (n:Int) (K:ASt->R) (Z:ASt):R :=
 match wW X.E.P t,je X.E.P t with
 | some e,some I=>if I.size=sz then eH es n fun p=>X.V e p fun q=>dF X.E dst (.cst q) K Z else none
 | _,_=>none
def Nl (X:XE) (dst:Option Nat) (k k':IntKind) (b:Int) (r:Int) (K:ASt->R) (Z:ASt):R:=if k=k' then chk (!(b==0)) (dF X.E dst (.int k r) K Z) else none
def aFR (X:XE) (dst:Option Nat) (k:IntKind) (b:Int) (r:Int) (K:ASt->R) (Z:ASt):R:=chk (decide (0<=b)) (dF X.E dst (.int k r) K Z)
def X5 (P:Program) (t:TypeId):Option (Nat×TypeId):=match P.underlying t with
 | some (.array m e)=>(match ti P e with | some I=>(match Nat.beq I.size 1 && !I.agg with | true=>some (m,e) | false=>none) | none=>none)
 | _=>none
def aLE (E:AE):Operand->Bool
 | .tmp t=>mg E.sy t
 | _=>false
def Rq (X:XE) (dst:Option Nat) (t:TypeId) (i off n sz:Nat) (lo hi:Option Operand) (K:ASt->R) (Z:ASt):R :=
 match je X.E.P t with
 | some I=>(match Nat.beq I.size sz&&Nat.blt 0 sz with
  | true=>(match lo,hi with
   | none,some h=>(match Z.rd h with | some (.int _ b)=>chk (decide (0<=b)&&decide (b<=(n:Int))&&decide (0<n)) (dF X.E dst (.slh i off b.toNat sz) K Z) | _=>none)
   | some l,none=>(match Z.rd l with | some (.int _ a)=>chk (decide (0<=a)&&decide (a<=(n:Int))) (aA (decide (a<(n:Int))) (dF X.E dst (.slh i (off+a.toNat*sz) (n-a.toNat) sz) K Z) (dF X.E dst (.sl false sz []) K Z)) | _=>none)
   | _,_=>none)
  | false=>none)
 | none=>none
def Xt (X:XE) (dst:Option Nat) (t:TypeId) (l c:Operand) (K:ASt->R) (Z:ASt):R :=
 match je X.E.P t,Z.rd l,Z.rd c with
 | some I,some (.int _ n),some (.int _ n')=>(match Nat.blt 0 I.size&&Nat.ble I.bytes 1024 with
  | true=>chk (decide (n=n')&&decide (0<=n)&&decide (n<=1073741824)) (match dB X.E.mu dst with
   | true=>dF X.E dst (.slh Z.h.length 0 n.toNat I.size) K ⟨Z.s,Z.h ++ [some (wG n.toNat I)]⟩
   | false=>(match Nat.beq (uo I).size I.size&&(uo I).okE with | true=>dF X.E dst (.sl true I.size (List.replicate n.toNat (uo I))) K Z | false=>none))
  | false=>none)
 | _,_,_=>none
def a3U (X:XE) (dst:Option Nat) (t:TypeId) (x y:Operand) (K:ASt->R) (Z:ASt):R :=
 match je X.E.P t,Z.rd x,Z.rd y with
 | some I,some (.slh i off n sz),some (.sl _ sz' es)=>(match Z.h[i]? with
  | some (some cs)=>(match Nat.beq I.size sz&&(Nat.blt 0 sz&&(Nat.beq sz' sz||Nat.beq sz' 0)) with
   | true=>chk (decide (off+n*sz<=cs.length)) (dF X.E dst (.int .i64 ((Nat.min es.length n:Nat):Int)) K { Z with h:=Z.h.set i (some (cs.take off ++ (dm es).take (Nat.min es.length n*sz) ++ cs.drop (off+Nat.min es.length n*sz))) })
   | false=>none)
  | _=>none)
 | some I,some (.slh i off n sz),some (.slh j a04 m sz')=>(match Z.h[i]?,Z.h[j]? with
  | some (some cs),some (some cs2)=>(match Nat.beq I.size sz&&(Nat.blt 0 sz&&Nat.beq sz' sz) with
   | true=>chk (decide (off+n*sz<=cs.length)&&decide (a04+m*sz<=cs2.length)) (dF X.E dst (.int .i64 ((Nat.min m n:Nat):Int)) K { Z with h:=Z.h.set i (some (cs.take off ++ (((cs2.drop a04).take (m*sz)).map PV.un).take (Nat.min m n*sz) ++ cs.drop (off+Nat.min m n*sz))) })
   | false=>none)
  | _,_=>none)
 | _,_,_=>none
def Xq (X:XE) (dst:Option Nat) (t:TypeId) (x:Operand) (K:ASt->R) (Z:ASt):R :=
 match je X.E.P t,Z.rd x,dst with
 | some I,some (.slh i off n sz),none=>(match Z.h[i]? with
  | some (some cs)=>(match Nat.beq I.size sz with
   | true=>chk (decide (off+n*sz<=cs.length)) (K { Z with h:=Z.h.set i (some (cs.take off ++ (wG n I).map PV.un ++ cs.drop (off+n*sz))) })
   | false=>none)
  | _=>none)
 | some _,some (.sl _ _ []),none=>K Z
 | _,_,_=>none
def Np (X:XE) (dst:Option Nat) (t:TypeId) (p:PV) (pos:Bool) (K:ASt->R) (Z:ASt):R:=match OZ X.E.P t with
 | true=>Rx p fun b=>dF X.E dst (.bool (b==pos)) K Z
 | false=>none
def a3T (X:XE) (dst:Option Nat) (ts:List TypeId) (s:Operand) (n sz:Nat) (cs:bTA) (sz':Nat) (es':bTA) (K:ASt->R) (Z:ASt):R:=match ts with
 | [t,u]=>(match je X.E.P t with
  | some I=>(match Nat.beq t u&&(Nat.blt 0 I.size&&(Nat.ble I.bytes 1024&&(Nat.beq sz I.size&&(Nat.beq sz' I.size||Nat.beq sz' 0)))) with
   | true=>chk (decide (n+es'.length<=bC)&&(dm es').all PV.lit) (dF X.E dst (.gB true (n+es'.length) sz (cs ++ dm es')) K (Z.clr s))
   | false=>none)
  | none=>none)
 | _=>none
def a8L (b:Bool) (off:Nat) (n:Int) (sz:Nat):Nat:=match b with
 | true=>off+n.toNat*sz
 | false=>(match off,sz with | 0,1=>n.toNat | _,_=>off+n.toNat*sz)
theorem bHH (b:Bool) (off:Nat) (n:Int) (sz:Nat):a8L b off n sz=off+n.toNat*sz:=by unfold a8L;grind
def bGE (P:Program) (t:TypeId):TypeId:=match P.underlying t with | some (.map _ e)=>e | _=>0
def Xr (X:XE) (dst:Option Nat) (t:TypeId) (ok:Bool) (m q:PV) (K:ASt->R) (Z:ASt):R :=
 match BM X.E.P t,m with
 | some (s,z),.cO 0 i=>(match Z.h[i]? with
  | some (some cs)=>(match zx cs with
   | some (_,L)=>(match y8 s q with
    | true=>(match dB X.E.sy dst with
     | true=>KJ s L q (fun p=>dF X.E dst (BK ok z (some p)) K Z) (dF X.E dst (BK ok z none) K Z)
     | false=>IA s L q (fun p=>X.V (bGE X.E.P t) p fun p'=>dF X.E dst (BK ok z (some p')) K Z) (dF X.E dst (BK ok z none) K Z))
    | false=>none)
   | none=>none)
  | _=>none)
 | _,_=>none
def Nr (X:XE) (dst:Option Nat) (t:TypeId) (m q x:PV) (K:ASt->R) (Z:ASt):R :=
 match BM X.E.P t,m,dst with
 | some (s,_),.cO 0 i,none=>(match Z.h[i]? with
  | some (some cs)=>(match zx cs with
   | some (b,L)=>(match y8 s q with
    | true=>chk (qo s L q&&(!b||x.flat)) (K { Z with h:=Z.h.set i (some [nU b (jW s L q x)]) })
    | false=>none)
   | none=>none)
  | _=>none)
 | _,_,_=>none
def Xu (X:XE) (dst:Option Nat) (b:Bool) (q:Option PV) (K:ASt->R) (Z:ASt):R:=match b,q with
 | true,some (.cO T i)=>(match Z.h[i]? with
  | some (some cs)=>(match Oc cs with
   | some (s,p)=>(match Nat.beq T CW with
    | true=>chk (decide (0<=p)) (aA (decide (p<(s.size:Int))) (dF X.E dst (.tuple [.bool true,.int .i64 p,.int .i32 (ZK s p)]) K { Z with h:=Z.h.set i (some [zF s (Oe s p)]) }) (dF X.E dst (.tuple [.bool false]) K Z))
    | false=>none)
   | none=>none)
  | _=>none)
 | _,_=>none
def Nq (X:XE) (o:Oper) (K:ASt->R) (Z:ASt):R :=
 match o.op with
 | .convert s d x=>(match Z.rd x with
  | some (.sl _ _ es)=>(match OY X.E.P s&&tJ X.E.P d with | true=>chk (rX es) (dF X.E o.dst (.str (strOf es)) K Z) | false=>none)
  | _=>o8 X o K Z)
 | .indexAddr t x i=>(match Z.rd x,Z.rd i with
  | some (.sl _ sz es),some (.int _ n)=>a3V X o.dst t sz es n K Z
  | some (.slh i off m sz),some (.int _ n)=>(match dB X.E.sy o.dst with
   | true=>(match je X.E.P t with
    | some I=>(match Nat.beq I.size sz with | true=>chk (decide (0<=n)&&decide (n<(m:Int))) (dF X.E o.dst (.ptr i (a8L (dB X.E.sy (o.dst.map (8000000 + ·))) off n sz)) K Z) | false=>none)
    | none=>none)
   | false=>o8 X o K Z)
  | some (.ptr i off),some (.int _ n)=>(match dB X.E.sy o.dst with
   | true=>(match Ec X.E.P t with
    | some (m,I)=>chk (decide (0<=n)&&decide (n<(m:Int))) (dF X.E o.dst (.ptr i (off+n.toNat*I.size)) K Z)
    | none=>none)
   | false=>o8 X o K Z)
  | some (.cst (.agg cs)),some (.int _ n)=>(match X5 X.E.P t with
   | some (m,e)=>chk (decide (n<(m:Int))) (eH cs n fun p=>X.V e p fun q=>(match q.one with | true=>dF X.E o.dst (.cst q.un) K Z | false=>none))
   | none=>o8 X o K Z)
  | _,_=>o8 X o K Z)
 | .load t a=>(match aLE X.E a && !dB X.E.ln o.dst with
  | true=>(match ti X.E.P t,Z.rd a with
   | some I,some (.ptr i off)=>(match Z.h[i]? with
    | some (some cs)=>(match I.agg with
     | true=>chk (decide (off+I.size<=cs.length)) (X.V t (.agg (((cs.drop off).take I.size).map PV.un)) fun q=>dF X.E o.dst q K Z)
     | false=>(match !dB X.E.mv o.dst with | true=>FD cs off fun p=>X.V t p fun q=>dF X.E o.dst q.un K Z | false=>none))
    | _=>none)
   | _,_=>none)
  | false=>(match Z.rd a,ti X.E.P t with
   | some (.cst e),some I=>chk (decide (e.isAgg=I.agg)&&decide (e.size=I.size)) (dF X.E o.dst e.un K Z)
   | _,_=>o8 X o K Z))
 | .store t a x=>(match aLE X.E a && !dB X.E.mu (kD a) with
  | true=>(match ti X.E.P t,Z.rd a,Z.ev x,o.dst with
   | some I,some (.ptr i off),some p,none=>(match Z.h[i]? with
    | some (some cs)=>(match p with
     | .agg ds=>(match Nat.beq ds.length I.size&&ds.all PV.one with | true=>chk (decide (off+I.size<=cs.length)) (K { Z.clr x with h:=(Z.clr x).h.set i (some (cs.take off ++ ds.map PV.un ++ cs.drop (off+I.size))) }) | false=>none)
     | p=>(match p.one&&Nat.beq I.size 1 with | true=>chk (decide (off<cs.length)) (K { Z.clr x with h:=(Z.clr x).h.set i (some (cs.set off p)) }) | false=>none))
    | _=>none)
   | _,_,_,_=>none)
  | false=>(match Z.ev x with
   | some (.agg ds)=>(match ti X.E.P t,Z.rd a,o.dst with
    | some I,some (.ptr i off),none=>(match Z.h[i]? with
     | some (some cs)=>(match Py X.E.mu X.E.ln (kD a) (Z.rd a)&&(Nat.beq ds.length I.size&&Nat.ble (off+I.size) cs.length) with
      | true=>chk (ds.all PV.one) (K { Z.clr x with h:=(Z.clr x).h.set i (some (cs.take off ++ ds.map PV.un ++ cs.drop (off+I.size))) })
      | false=>none)
     | _=>none)
    | _,_,_=>none)
   | _=>o8 X o K Z))
 | .index t x i=>(match Z.rd x,Z.rd i with
  | some (.str s),some (.int _ n)=>(match tJ X.E.P t with | true=>vJ s n fun b=>dF X.E o.dst (.int .u8 b) K Z | false=>none)
  | some (.agg cs),some (.int _ n)=>(match dB X.E.sy o.dst with
   | true=>(match X5 X.E.P t with
    | some (m,_)=>chk (decide (0<=n)&&decide (n<(m:Int))) (RF cs 0 n fun p=>(match p.one with | true=>dF X.E o.dst p.un K Z | false=>none))
    | none=>none)
   | false=>o8 X o K Z)
  | _,_=>o8 X o K Z)
 | .pick c a b=>(match Z.rd c with
  | some (.bool v)=>aA v (Um X.E o.dst (Z.rd a) K Z) (Um X.E o.dst (Z.rd b) K Z)
  | _=>none)
 | .slice t x lo hi none=>(match Z.rd x with
  | some (.sl _ sz es)=>(match je X.E.P t with | some I=>if I.size=sz then Jd X o.dst sz es lo hi K Z else none | none=>none)
  | some (.str s)=>(match tJ X.E.P t with | true=>Je X o.dst s lo hi K Z | false=>none)
  | some (.slh i off n sz)=>Rq X o.dst t i off n sz lo hi K Z
  | _=>o8 X o K Z)
 | .slice t x (some l) (some u) (some m)=>(match Z.rd x,Z.rd l,Z.rd u,Z.rd m with
  | some (.sl _ sz es),some (.int _ a),some (.int _ b),some (.int _ c)=>(match je X.E.P t with
   | some I=>(match Nat.beq I.size sz with | true=>chk (decide (0<=a)&&decide (a<=b)&&decide (b<=c)&&decide (c<=(es.length:Int))) (dF X.E o.dst (.sl false sz ((es.take b.toNat).drop a.toNat)) K Z) | false=>none)
   | none=>none)
  | _,_,_,_=>none)
 | .makeSlice t l c=>Xt X o.dst t l c K Z
 | .lookup t m k ok=>(match Z.rd m,Z.rd k with
  | some pm,some q=>Xr X o.dst t ok pm q K Z
  | _,_=>none)
 | .mapUpdate t m k x=>(match Z.rd m,Z.rd k,Z.rd x with
  | some pm,some q,some y=>Nr X o.dst t pm q y K Z
  | _,_,_=>none)
 | .insert t m k x=>(match VB X.E.mu X.E.ln (kD m) (Z.rd m) with
  | false=>none
  | true=>(match Z.rd m,Z.rd k,Z.rd x with
   | some pm,some q,some y=>Nr X o.dst t pm q y K Z
   | _,_,_=>none))
 | .next x b=>Xu X o.dst b (Z.rd x) K Z
 | .fieldAddr s x f=>(match Z.rd x,fieldsOf X.E.P s with
  | some (.cst (.agg cs)),some fs=>(match fs[f]? with
   | some (off,z,false)=>(match Nat.beq z 0,cs[off]? with
    | false,some p=>chk p.one (dF X.E o.dst (.cst p.un) K Z)
    | _,_=>none)
   | _=>o8 X o K Z)
  | _,_=>o8 X o K Z)
 | .box t x=>(match dB X.E.fz o.dst,Z.rd x with
  | true,some (.agg ds)=>chk (ds.all PV.one&&PV.flats ds) (dF X.E o.dst (.cst (.agg (ds.map PV.un))) K Z)
  | _,_=>o8 X o K Z)
 | .binOp op t x y _=>(match op,Z.rd x,Z.rd y with
  | .quo,some (.int k a),some (.int k' b)=>Nl X o.dst k k' b (k.wrap (a.tdiv b)) K Z
  | .rem,some (.int k a),some (.int k' b)=>Nl X o.dst k k' b (a.tmod b) K Z
  | .shl,some (.int k a),some (.int _ b)=>aFR X o.dst k b (k.wrap (a*2 ^ min b.toNat k.bits)) K Z
  | .shr,some (.int k a),some (.int _ b)=>aFR X o.dst k b (a.fdiv (2 ^ min b.toNat k.bits)) K Z
  | .add,some (.str a),some (.str b)=>chk (decide (a.size+b.size<=bC)) (dF X.E o.dst (.str (a ++ b)) K Z)
  | .eql,some p,some (.raw .nilFunc)=>Np X o.dst t p true K Z
  | .neq,some p,some (.raw .nilFunc)=>Np X o.dst t p false K Z
  | _,_,_=>o8 X o K Z)
 | .call c=>(match c.callee with
  | .builtin .clear=>(match c.args.toList,c.argTypes.toList with
   | [x],[t]=>Xq X o.dst t x K Z
   | _,_=>none)
  | .builtin .copy=>(match c.args.toList,c.argTypes.toList with
   | [x,y],[t,_]=>a3U X o.dst t x y K Z
   | _,_=>none)
  | .builtin .append=>(match c.args.toList with
   | [s,x]=>(match Z.ev s,Z.rd x with
    | some (.sl _ _ es),some (.sl _ _ es')=>chk (decide (es.length+es'.length<=bC)) (o8 X o K Z)
    | some (.sl _ _ es),some (.str b)=>chk (decide (es.length+b.size<=bC)) (o8 X o K Z)
    | some (.gB true n sz cs),some (.sl _ sz' es')=>a3T X o.dst c.argTypes.toList s n sz cs sz' es' K Z
    | some (.cZ l),some (.str b)=>chk (decide (l.length+b.size<=bC)) (o8 X o K Z)
    | some (.cZ l),some (.sl _ _ es')=>(match Uc es' with
     | some c=>chk (decide (l.length+1<=bC)&&decide (0<=c)&&decide (c<256)) (o8 X o K Z)
     | none=>none)
    | _,_=>none)
   | _=>none)
  | .builtin _=>o8 X o K Z
  | _=>none)
 | _=>o8 X o K Z
def a0J (zs:List Nat) (p:PV):PV:=match zs.all (Nat.beq · 0) with | true=>p | false=>p.zX zs
def oQ (P:Program):List TypeId->bTA->bTA
 | t::ts,p::ps=>a0J (NW P 8 t) p::oQ P ts ps
 | _,ps=>ps
def rY (E:AE) (o:Oper):List TypeId:=match dB E.sy (o.dst.map (9000000 + ·)) with | true => [] | false=>(match o.op with | .call c=>c.argTypes.toList | _ => [])
mutual
def PV.ids:PV->List Nat
 | .ptr i _ => [i]
 | .cO _ i => [i]
 | .slh i _ _ _ => [i]
 | .func _ a c=>PV.xA a ++ PV.xA c
 | .agg cs=>PV.xA cs
 | .tuple cs=>PV.xA cs
 | _ => []
def PV.xA:bTA->List Nat
 | [] => []
 | p::ps=>p.ids ++ PV.xA ps
end
def wQ (l:List Nat):List Nat->List Nat
 | []=>l
 | i::is=>wQ (match mg l i with | true=>l | false=>l ++ [i]) is
def aEL (H:aG):List Nat->List Nat
 | [] => []
 | i::l=>(match qA H i with | some cs=>PV.xA cs | none => []) ++ aEL H l
def H8 (H:aG):Nat->List Nat->List Nat
 | 0,l=>l
 | n+1,l=>H8 H n (wQ l (aEL H l))
def aSB (ids:List Nat) (H:aG) (full:bTA):Bool :=nodupB ids&&(ids.all (fun i=>Nat.blt i H.length)&&(PV.nO (mg ids) full&&ids.all fun i=>match qA H i with | some cs=>PV.nO (mg ids) cs | none=>true))
def zA (X:XE) (dst:Option Nat) (g:FuncId) (full:bTA) (ids:List Nat) (K:ASt->R) (Z:ASt):R :=
 match aSB ids Z.h full with
 | true=>zq X.C g (kF (tq ids) full) ((ids.map (qA Z.h)).map (lg (tq ids))) fun r h'=>X.W g ((ids.map (qA Z.h)).map (lg (tq ids))) r h' fun r' h''=>dF X.E dst (jh (qf ids Z.h.length) r') K ⟨Z.s,xx ids Z.h h''⟩
 | false=>none
def oZ (p:PV):Bool:=p.one&&p.flat
def Kw:Option (bTA)->Bool
 | some cs=>cs.all oZ
 | none=>true
def aAZ (ids:List Nat) (H h':aG):aG:=sS ids (h'.take ids.length) H ++ h'.drop ids.length
def Jc (X:XE) (dst:Option Nat) (g:FuncId) (full:bTA) (ids:List Nat) (K:ASt->R) (Z:ASt):R :=
 match nodupB ids&&(ids.all (fun i=>Nat.blt i Z.h.length)&&PV.nO (mg ids) full) with
 | true=>chk ((ids.map (qA Z.h)).all Kw) (zq X.C g (kF (tq ids) full) (ids.map (qA Z.h)) fun r h'=>X.W g (ids.map (qA Z.h)) r h' fun r' h''=>chk (h''.all Kw) (dF X.E dst (jh (qf ids Z.h.length) r') K ⟨Z.s,aAZ ids Z.h h''⟩))
 | false=>none
def a3Y (X:XE) (dst:Option Nat) (r:PV) (K:ASt->R) (Z:ASt):R:=match r with
 | .sl true 1 es=>chk (decide (0<es.length)&&es.all tZ) (dF X.E dst (.slh Z.h.length 0 es.length 1) K ⟨Z.s,Z.h ++ [some es]⟩)
 | .sl true sz es=>aA (decide (0<es.length)) (chk (es.all (yJ sz)) (dF X.E dst (.slh Z.h.length 0 es.length sz) K ⟨Z.s,Z.h ++ [some (dm es)]⟩)) (dF X.E dst (.sl true sz []) K Z)
 | _=>none
def a3W (X:XE) (dst:Option Nat) (g:FuncId) (full:bTA) (K:ASt->R) (Z:ASt):R :=chk (UC Z.h full) (jJ X.C g (Zh Z.h full) fun r=>X.W g [] r [] fun r' _=>(match r'.uX with | true=>dF X.E dst r' K Z | false=>none))
def aQF (l ids:List Nat) (n:Nat):Bool:=l.all fun k=>match Nat.ble 1000000 k with
 | true=>Nat.blt (k-1000000) n && !mg ids (k-1000000)
 | false=>true
def Jb (X:XE) (draw:Bool) (o:Oper) (f:Operand) (args:List Operand) (K:ASt->R) (Z:ASt):R :=
 match Z.rd f,jc (args.map Z.rd) with
 | some (.func (.func g) first caps),some az=>(match !draw&&(dB X.E.ln o.dst&&dB X.E.sy o.dst) with
  | true=>(match dB X.E.sy (o.dst.map (6000000 + ·)) with
   | true=>Jc X o.dst g (first ++ oQ X.E.P (rY X.E o) az ++ caps) (wQ [] (PV.xA (first ++ oQ X.E.P (rY X.E o) az ++ caps))) K Z
   | false=>zA X o.dst g (first ++ oQ X.E.P (rY X.E o) az ++ caps) (H8 Z.h 3 (wQ [] (PV.xA (first ++ oQ X.E.P (rY X.E o) az ++ caps)))) K Z)
  | false=>match PV.flats (first ++ oQ X.E.P (rY X.E o) az ++ caps) with
   | true=>jJ X.C g (first ++ oQ X.E.P (rY X.E o) az ++ caps) fun r=>X.W g [] r [] fun r' _=>(match !draw&&dB X.E.mu o.dst with
    | true=>a3Y X o.dst r' K Z
    | false=>(match PV.flat r' with | true=>dF X.E o.dst r' K Z | false=>none))
   | false=>(match draw with
    | true=>match dB X.E.sy o.dst&&aQF X.E.ln (H8 Z.h 3 (wQ [] (PV.xA (first ++ oQ X.E.P (rY X.E o) az ++ caps)))) Z.h.length with
     | true=>zA X o.dst g (first ++ oQ X.E.P (rY X.E o) az ++ caps) (H8 Z.h 3 (wQ [] (PV.xA (first ++ oQ X.E.P (rY X.E o) az ++ caps)))) K Z
     | false=>none
    | false=>match dB X.E.ln o.dst with
     | true=>a3W X o.dst g (first ++ oQ X.E.P (rY X.E o) az ++ caps) K Z
     | false=>match dB X.E.sy o.dst with
     | true=>Jc X o.dst g (first ++ oQ X.E.P (rY X.E o) az ++ caps) (wQ [] (PV.xA (first ++ oQ X.E.P (rY X.E o) az ++ caps))) K Z
     | false=>zA X o.dst g (first ++ oQ X.E.P (rY X.E o) az ++ caps) (H8 Z.h 3 (wQ [] (PV.xA (first ++ oQ X.E.P (rY X.E o) az ++ caps)))) K Z))
 | _,_=>none
def Xp (X:XE) (o:Oper) (f:Operand) (args:List Operand) (K:ASt->R) (Z:ASt):R :=
 match Z.rd f,jc (args.map Z.rd) with
 | some p,some az=>Nw p fun g first caps=>chk (PV.flats (first ++ oQ X.E.P (rY X.E o) az ++ caps)) (jJ X.C g (first ++ oQ X.E.P (rY X.E o) az ++ caps) fun r=>X.V o.type r fun r'=>(match PV.flat r' with | true=>dF X.E o.dst r' K Z | false=>none))
 | _,_=>none
def HY (X:XE) (draw:Bool) (o:Oper) (K:ASt->R) (Z:ASt):R :=
 match zD o with
 | some (f,args)=>(match dB X.E.sy (o.dst.map (2000000 + ·)) with | true=>Xp X o f args K Z | false=>Jb X draw o f args K Z)
 | none=>match draw with
  | true=>Nq X o K Z
  | false=>match a8G X.E o Z with
   | some (es,pos)=>IE es fun b=>dF X.E o.dst (.bool (b==pos)) K Z
   | none=>Nq X o K Z
def Ha (X:XE) (draw:Bool) (o:Oper) (d:Nat) (want v:Bool) (K:ASt->R) (Z:ASt):R :=
 match v==want with
 | true=>HY X draw o K (Z.lit d v)
 | false=>dF X.E o.dst (.tuple []) K (Z.lit d v)
def jf (X:XE) (draw:Bool) (ops:Array Oper):List Oper->(ASt->R)->ASt->R
 | [],K,Z=>K Z
 | o::l,K,Z=>match o.guard with
  | none=>HY X draw o (jf X draw ops l K) Z
  | some (j,want)=>match (ops[j]?).bind (·.dst) with
   | none=>dF X.E o.dst (.tuple []) (jf X draw ops l K) Z
   | some d=>match bT d Z.s with
    | some (.bool b)=>aA b (Ha X draw o d want true (jf X draw ops l K) Z) (Ha X draw o d want false (jf X draw ops l K) Z)
    | some (.tuple [])=>dF X.E o.dst (.tuple []) (jf X draw ops l K) Z
    | _=>none
def vz (k:ASt->R) (K:AX->ASt->R):AX->ASt->R
 | .normal,Z=>k Z
 | .ret,Z=>K .ret Z
 | .exit i,Z=>K (.exit i) Z
def bI (id:Nat) (K:AX->ASt->R):AX->ASt->R
 | .exit i,Z=>if i=id then K .normal Z else K (.exit i) Z
 | .normal,Z=>K .normal Z
 | .ret,Z=>K .ret Z
def ASt.keys (E:AE) (Z:ASt):List Nat:=(Z.keep E.vars).s.map (·.1)
def Be:Code->Nat
 | .region id _ _=>id+1
 | .seq .skip y=>Be y
 | .seq (.label _) y=>Be y
 | .seq x _=>Be x
 | .block _ x=>Be x
 | .scope x=>Be x
 | .loop x=>Be x
 | _=>0
mutual
def PV.aSQ:PV->Nat
 | .ptr i _=>i+1
 | .cO _ i=>i+1
 | .slh i _ _ _=>i+1
 | .func _ f c=>Nat.max (PV.Fq f) (PV.Fq c)
 | .agg cs=>PV.Fq cs
 | .tuple cs=>PV.Fq cs
 | _=>0
def PV.Fq:bTA->Nat
 | []=>0
 | p::ps=>Nat.max p.aSQ (PV.Fq ps)
end
def aSR:fD->Nat
 | []=>0
 | (_,p)::l=>Nat.max p.aSQ (aSR l)
def aBF:Nat->aG->Nat
 | 0,_=>0
 | _,[]=>0
 | n+1,o::h=>Nat.max (match o with | some cs=>PV.Fq cs | none=>0) (aBF n h)
def aRH:PV->List Nat
 | .slh i _ _ _ => [i]
 | _ => []
def DI:bTA->List Nat
 | [] => []
 | p::ps=>wQ (aRH p) (DI ps)
def a8J:List Nat->List Nat
 | [] => []
 | k::l=>(match Nat.ble 8500000 k with | true=>(k-8500000)::a8J l | false=>a8J l)
def Rt (l:List Nat):fD->List Nat
 | []=>a8J l
 | (k,p)::s=>(match mg l k with | true=>wQ (match mg l (7000000+k) with | true=>p.ids | false=>aRH p) (Rt l s) | false=>Rt l s)
def Io (fl:List Nat):Nat->aG->aG
 | _,[] => []
 | j,o::h=>(match mg fl j with | true=>none | false=>o)::Io fl (j+1) h
def plainO (h:aG):List Nat->Bool
 | []=>true
 | i::is=>(match h[i]? with | some (some cs)=>cs.all oZ | _=>true)&&plainO h is
def UT (m0:Nat) (l:List Nat) (Z:ASt):Nat :=
 let h:=Io (Rt l Z.s) 0 Z.h
 let a:=Nat.max m0 (aSR (Z.keep l).s)
 let b:=Nat.max a (aBF a h)
 Nat.max b (aBF b h)
def FP (l:List Nat) (m:Nat) (Z:ASt):Bool:=plainO (Z.gc l m).h (Rt l (Z.gc l m).s)
def DT (l:List Nat) (m:Nat) (Z:ASt):Bool:=(Z.gc l m).s.all (fun kp=>kp.2.blw m)&&zl m (Io (Rt l (Z.gc l m).s) 0 (Z.gc l m).h)
theorem aRE (fl:List Nat):∀ (h:aG) (j k:Nat) (o:Option (bTA)),h[k]? = some o->(Io fl j h)[k]? = some (match mg fl (j+k) with | true=>none | false=>o)
 | [],_,_,_,h=>by simp at h
 | a::h,j,0,o,e=>by grind [Io]
 | a::h,j,k+1,o,e=>by rw[Io,aC8,aRE fl h (j+1) k o (by grind),show j+1+k=j+(k+1) by omega]
theorem aPN {h:aG}:∀ {fl:List Nat} {i:Nat} {cs:bTA},plainO h fl=true->i∈fl->h[i]? = some (some cs)->cs.all oZ=true
 | a::fl,i,cs,hp,hi,e=>by
  simp only[plainO,bF] at hp;rcases jV.1 hi with rfl | hi
  .have:=hp.1; rw[e] at this; exact this
  .exact aPN hp.2 hi e
theorem aPO (m:Nat):∀ {cs:bTA},cs.all oZ=true->PV.blws m cs=true
 | [],_=>rfl
 | p::cs,h=>by simp only[Ac,bF,oZ] at h;simp only[PV.blws,aG8 m p h.1.2,aPO m h.2,J6]
theorem aE9 {m:Nat} {h:aG} {fl:List Nat} (hp:plainO h fl=true) (hb:zl m (Io fl 0 h)=true):zl m h=true:=by
 unfold zl at hb ⊢;rw[iY] at hb ⊢;intro o ho;obtain ⟨k,hk⟩:=yR.1 ho;have h1:=aRE fl h 0 k o hk;rw[qU] at h1;cases hi:mg fl k with
 | true =>
  cases o with
  | none=>rfl
  | some cs=>exact aPO m (aPN hp (ZF.1 hi) hk)
 | false =>rw[hi] at h1;grind
theorem a5I {l:List Nat} {m:Nat} {Z:ASt} (hp:FP l m Z=true) (hg:DT l m Z=true):DR l m Z=true:=by unfold DT at hg;unfold DR;rw[bF] at hg ⊢;exact ⟨hg.1,aE9 hp hg.2⟩
def Df (E:AE) (m0:Nat) (y:Code) (k:ASt->R) (Z:ASt):R:=match E.jt.lookup (Be y) with
 | some l=>chk (FP l (UT m0 l Z) Z) (match decide (m0<=UT m0 l Z)&&DT l (UT m0 l Z) Z with | true=>k (Z.gc l (UT m0 l Z)) | false=>none)
 | none=>k Z
def mf (k:ASt->R):List Nat->ASt->R
 | [],Z=>k Z
 | d::ds,Z=>match Nat.ble 9000000 d with
  | true=>(match bT (d-9000000) Z.s with
   | some (.ptr i 0)=>(match Z.h[i]? with
    | some (some cs)=>chk (decide (0<cs.length)&&cs.all fun p=>p.one&&p.flat) (mf k ds ⟨iI (d-9000000) (.cst ((lF cs.length cs 1).headD .nilp)) Z.s,Z.h.set i none⟩)
    | _=>mf k ds Z)
   | _=>mf k ds Z)
  | false=>match Nat.ble 5000000 d with
  | true=>(match bT ((d-5000000) / 100) Z.s with
   | some (.ptr i2 0)=>(match Z.h[i2]? with
    | some (some cs0)=>(match cs0[(d-5000000) % 100]? with
     | some (.slh i 0 n sz)=>(match Z.h[i]? with
      | some (some cs)=>chk (decide (n*sz<=cs.length)&&decide (0<sz)&&cs.all (fun p=>p.one&&p.flat) && !Nat.beq i i2) (mf k ds ⟨Z.s,(Z.h.set i none).set i2 (some (cs0.set ((d-5000000) % 100) (.sl false sz (lF sz cs n))))⟩)
      | _=>mf k ds Z)
     | _=>mf k ds Z)
    | _=>mf k ds Z)
   | _=>mf k ds Z)
  | false=>match Nat.ble 4000000 d with
  | true=>(match bT ((d-4000000) / 100) Z.s with
   | some (.ptr i 0)=>(match Z.h[i]? with
    | some (some cs0)=>(match cs0[(d-4000000) % 100]? with
     | some (.gB true n sz cs)=>aA (Nat.ble 1 n) (mf k ds ⟨Z.s,Z.h.set i (some (cs0.set ((d-4000000) % 100) (.slh Z.h.length 0 n sz))) ++ [some cs]⟩) (mf k ds ⟨Z.s,Z.h.set i (some (cs0.set ((d-4000000) % 100) (.sl false sz [])))⟩)
     | _=>mf k ds Z)
    | _=>mf k ds Z)
   | _=>mf k ds Z)
  | false=>match Nat.ble 3000000 d with
  | true=>(match bT ((d-3000000) % 500000) Z.s with
   | some (.gB true n sz cs)=>(match Nat.ble 3500000 d with
    | true=>chk (Nat.ble 1 n) (mf k ds ⟨iI ((d-3000000) % 500000) (.slh Z.h.length 0 n sz) Z.s,Z.h ++ [some cs]⟩)
    | false=>aA (Nat.ble 1 n) (mf k ds ⟨iI ((d-3000000) % 500000) (.slh Z.h.length 0 n sz) Z.s,Z.h ++ [some cs]⟩) (mf k ds ⟨iI ((d-3000000) % 500000) (.sl false sz []) Z.s,Z.h⟩))
   | _=>mf k ds Z)
  | false=>match Nat.ble 1000000 d with
   | true=>(match bT (d-1000000) Z.s with
    | some (.slh i 0 n sz)=>(match Z.h[i]? with
     | some (some cs)=>chk (decide (n*sz<=cs.length)&&decide (0<sz)&&cs.all fun p=>p.one&&p.flat) (mf k ds ⟨iI (d-1000000) (.sl false sz (lF sz cs n)) Z.s,Z.h.set i none⟩)
     | _=>mf k ds Z)
    | _=>mf k ds Z)
   | false=>mf k ds (ww d Z)
def uT (E:AE) (m0:Nat) (y:Code) (k:ASt->R) (Z:ASt):R:=match E.ft.lookup (Be y) with
 | some ks=>mf (Df E m0 y k) ks Z
 | none=>Df E m0 y k Z
def oC (E:AE) (m0:Nat) (x:Code) (Z:ASt):List Nat×Nat:=match E.lt.lookup (Be x) with
 | some l=>(l,UT m0 l Z)
 | none=>(Z.keys E,Z.h.length)
open Classical in
def dA (a b:R):R:=match a with
 | some (r,h)=>(match b with | some (r',h')=>(match PV.oW r r'&&DF h h' with | true=>some (r,h) | false=>if r=r'/\h=h' then some (r,h) else none) | none=>none)
 | none=>none
theorem Cf (a:R):dA a a=a:=by unfold dA;grind
theorem aUU {a b:R} {v:PV×aG} (h:dA a b=some v):a=some v/\b=some v:=by unfold dA at h;grind [PV.Xm,Xl]
def Qw:List R->R
 | []=>none
 | x::l=>match l with | []=>x | _::_=>dA x (Qw l)
def Eo (X:XE) (ops:Array Oper) (K:ASt->R):Nat->Array Bool->ASt->R
 | 0,L,Z=>(match Region.ready .any ops L with | []=>K Z | _::_=>none)
 | fuel+1,L,Z=>(match Region.ready .any ops L with
  | []=>K Z
  | i::is=>Qw ((match Hf X.E ops L (i::is) with | some j => [j] | none=>i::is).map fun i=>match ops[i]? with
   | none=>none
   | some o=>jf X true ops [o] (Eo X ops K fuel (L.setIfInBounds i true)) Z))
def aFJ (X:XE) (ops:Array Oper) (K:ASt->R) (Z:ASt):R:=Eo X ops K ops.size (Array.replicate ops.size false) Z
theorem aDN {v:PV×aG}:∀ {l:List R},Qw l=some v->∀ x,x∈l->x=some v
 | [],_,x,hx=>by cases hx
 | y::l,h,x,hx=>by
  unfold Qw at h;cases l with
  | nil=>rw[uI] at hx; subst hx; exact h
  | cons z l' =>
   obtain ⟨h1,h2⟩:=aUU h;rcases jV.1 hx with hx | hx
   .subst hx; exact h1
   .exact aDN h2 x hx
def bG (X:XE):Code->(AX->ASt->R)->ASt->R
 | .skip,K,Z=>K .normal Z
 | .label _,K,Z=>K .normal Z
 | .exit id,K,Z=>K (.exit id) Z
 | .ret,K,Z=>K .ret Z
 | .region _ ops draw,K,Z=>(match draw with
  | true=>(match okD X.E ops with | true=>jf X true ops ops.toList (K .normal) (Z.head X.E) | false=>aFJ X ops (K .normal) (Z.head X.E))
  | false=>jf X false ops ops.toList (K .normal) (Z.head X.E))
 | .seq x y,K,Z=>bG X x (vz (uT X.E X.m0 y (bG X y K)) K) Z
 | .cond c x y,K,Z=>(match Z.rd c with
  | some (.bool b)=>(match c with
   | .tmp d=>aA b (bG X x K (Z.lit d true)) (bG X y K (Z.lit d false))
   | _=>aA b (bG X x K Z) (bG X y K Z))
  | _=>none)
 | .block id x,K,Z=>bG X x (bI id K) Z
 | .scope x,K,Z=>bG X x K Z
 | .loop x,K,Z=>X.L (oC X.E X.m0 x Z).1 (oC X.E X.m0 x Z).2 x K (Z.gc (oC X.E X.m0 x Z).1 (oC X.E X.m0 x Z).2)
 | _,_,_=>none
section
variable {ι:Type} (Good:(ι->R)->Prop)
structure JI:Prop where
 const:∀ c:R,Good fun _=>c
 bind:∀ (c:ι->R) (k:ι->PV->aG->R),Good c->(∀ r h,Good fun i=>k i r h)->Good fun i=>match c i with | some (r,h)=>k i r h | none=>none
variable {Good} (F:JI Good)
theorem JI.no (F:JI Good):Good fun _=>none:=F.const none
include F
theorem gm {b:Bool} {A:ι->R} (h:Good A):Good fun i=>chk b (A i):=by
 cases b
 .exact F.no
 .exact h
theorem zt {b:Bool} {A B:ι->R} (h:Good A) (h':Good B):Good fun i=>aA b (A i) (B i):=by
 cases b
 .exact h'
 .exact h
open Classical in
theorem bC4 {A B:ι->R} (h:Good A) (h':Good B):Good fun i=>dA (A i) (B i) :=
 F.bind A (fun i r h1=>match B i with | some (r',h')=>(match PV.oW r r'&&DF h1 h' with | true=>some (r,h1) | false=>if r=r'/\h1=h' then some (r,h1) else none) | none=>none) h
  (fun r h1=>F.bind B (fun _ r' h'=>(match PV.oW r r'&&DF h1 h' with | true=>some (r,h1) | false=>if r=r'/\h1=h' then some (r,h1) else none)) h' fun r' h'=>F.const _)
theorem aJZ {α:Type} {f:ι->α->R} (h:∀ a,Good fun i=>f i a):∀ l:List α,Good fun i=>Qw (l.map (f i))
 | []=>F.no
 | x::l=>by
  cases l with
  | nil=>exact h x
  | cons y l=>exact bC4 F (h x) (aJZ h (y::l))
theorem gJ {E:AE} {dst:Option Nat} {p:PV} {K:ι->ASt->R} {Z:ASt} (h:∀ Z,Good fun i=>K i Z):Good fun i=>dF E dst p (K i) Z:=by
 unfold dF; split
 .exact h _
 .exact F.no
theorem aK9 {E:AE} {dst:Option Nat} {p:Option PV} {K:ι->ASt->R} {Z:ASt} (h:∀ Z,Good fun i=>K i Z):Good fun i=>Um E dst p (K i) Z:=by
 cases p
 .exact F.no
 .exact gJ F h
theorem aK6 {es:bTA} {n:Int} {K:ι->PV->R} (h:∀ p,Good fun i=>K i p):Good fun i=>eH es n (K i):=by
 unfold eH; split
 .split
  .exact h _
  .exact F.no
 .exact F.no
theorem bCF {es:bTA} {n:Nat} {K:ι->PV->R} (h:∀ p,Good fun i=>K i p):Good fun i=>FD es n (K i):=by
 unfold FD; split
 .exact h _
 .exact F.no
theorem bCD {s:Option IntKind} {l:bTA} {q:PV} {A:ι->PV->R} {B:ι->R} (h:∀ p,Good fun i=>A i p) (h':Good B):Good fun i=>IA s l q (A i) (B i):=by
 unfold IA; split
 .exact h _
 .exact h'
 .exact F.no
theorem aK7 {s:Option IntKind} {q:PV} {A:ι->PV->R} {B:ι->R} (h:∀ p,Good fun i=>A i p) (h':Good B):∀ (l:bTA),Good fun i=>KJ s l q (A i) (B i)
 | k::v::L=>by
  simp only[KJ];split
  .exact zt F (h _) (aK7 h h' L)
  .exact F.no
 | []=>h'
 | [_]=>F.no
theorem bCG {es:bTA} {K:ι->Bool->R} (h:∀ b,Good fun i=>K i b):Good fun i=>IE es (K i):=by
 have:=F.bind (fun i=>K i false) (fun i r hh=>match es.isEmpty with | false=>some (r,hh) | true=>match K i true with | some (r',h')=>JZ (r,hh) (r',h') | none=>none) (h false) (fun r hh=>by
  cases es.isEmpty
  .exact F.const _
  .exact F.bind (fun i=>K i true) (fun _ r' h'=>JZ (r,hh) (r',h')) (h true) fun r' h'=>F.const _)
 exact this
theorem bC5 {s:ByteArray} {n:Int} {K:ι->Int->R} (h:∀ p,Good fun i=>K i p):Good fun i=>vJ s n (K i):=by
 unfold vJ; split
 .split
  .exact h _
  .exact F.no
 .exact F.no
theorem a5N {C:ι->Cal} {g:FuncId} {args:bTA} {K:ι->PV->R} (hC:∀ g args h,Good fun i=>C i g args h) (h:∀ p,Good fun i=>K i p):Good fun i=>jJ (C i) g args (K i):=by
 have:=F.bind (fun i=>C i g args []) (fun i r h=>match h with | []=>K i r | _=>none) (hC _ _ _) (fun r hh=>by
  cases hh
  .exact h r
  .exact F.no)
 grind [jJ]
theorem Z8 {C:ι->Cal} {g:FuncId} {args:bTA} {hh:aG} {K:ι->PV->aG->R} (hC:∀ g args h,Good fun i=>C i g args h) (h:∀ p q,Good fun i=>K i p q):Good fun i=>zq (C i) g args hh (K i) :=F.bind (fun i=>C i g args hh) K (hC _ _ _) h
def XE.up (X:XE) (C:Cal) (L:List Nat->Nat->Code->(AX->ASt->R)->ASt->R):XE := { X with C:=C,L:=L }
def yN (V:TypeId->PV->(PV->R)->R):Prop:=∀ t p,(∀ K,V t p K=K p)\/(∀ K,V t p K=none)
def tX (W:FuncId->aG->PV->aG->(PV->aG->R)->R):Prop:=∀ g h r h',(∀ K,W g h r h' K=K r h')\/(∀ K,W g h r h' K=none)
variable {X:XE} {C:ι->Cal} {L:ι->List Nat->Nat->Code->(AX->ASt->R)->ASt->R} (hV:yN X.V) (hW:tX X.W) (hC:∀ g args h,Good fun i=>C i g args h)
 (hL:∀ (l:List Nat) (m:Nat) (x:Code) (K:ι->AX->ASt->R) (Z:ASt),(∀ e Z,Good fun i=>K i e Z)->Good fun i=>L i l m x (K i) Z)
theorem aK4 {p:PV} {K:ι->Bool->R} (h:∀ b,Good fun i=>K i b):Good fun i=>Rx p (K i):=by
 unfold Rx;split
 .exact h _
 .exact h _
 .exact F.no
theorem bCA {p:PV} {K:ι->FuncId->bTA->bTA->R} (h:∀ g a b,Good fun i=>K i g a b):Good fun i=>Nw p (K i):=by
 unfold Nw;split;simp_all
 .exact F.no
theorem aJ' {n:Int} {K:ι->PV->R} (h:∀ p,Good fun i=>K i p):∀ (cs:bTA) (k:Nat),Good fun i=>RF cs k n (K i)
 | [],_=>F.no
 | p::r,k=>zt F (h p) (aJ' h r (k+1))
theorem bC9 {o:Oper} {K:ι->ASt->R} {Z:ASt} (h:∀ Z,Good fun i=>K i Z):Good fun i=>o8 (X.up (C i) (L i)) o (K i) Z:=by
 unfold o8;show Good fun i=>match bQ X.E o Z with | some (p,Z1)=>dF X.E o.dst p (K i) Z1 | none=>none
 split
 .exact gJ F h
 .exact F.no
include hV in
theorem OL {t:TypeId} {p:PV} {K:ι->PV->R} (h:∀ p,Good fun i=>K i p):Good fun i=>X.V t p (K i):=by
 rcases hV t p with e | e
 .simp only[e]; exact h p
 .simp only[e]; exact F.no
include hW in
theorem OM {g:FuncId} {hh h':aG} {r:PV} {K:ι->PV->aG->R} (h:∀ p q,Good fun i=>K i p q):Good fun i=>X.W g hh r h' (K i):=by
 rcases hW g hh r h' with e | e
 .simp only[e]; exact h _ _
 .simp only[e]; exact F.no
theorem bCJ {dst:Option Nat} {sz:Nat} {es:bTA} {lo hi:Option Operand} {K:ι->ASt->R} {Z:ASt} (h:∀ Z,Good fun i=>K i Z):Good fun i=>Jd (X.up (C i) (L i)) dst sz es lo hi (K i) Z:=by
 cases lo<;>cases hi<;>simp only[Jd,XE.up]
 .exact gJ F h
 all_goals
  split
  .exact gm F (gJ F h)
  .exact F.no
theorem bCK {dst:Option Nat} {s:ByteArray} {lo hi:Option Operand} {K:ι->ASt->R} {Z:ASt} (h:∀ Z,Good fun i=>K i Z):Good fun i=>Je (X.up (C i) (L i)) dst s lo hi (K i) Z:=by
 cases lo<;>cases hi<;>simp only[Je,XE.up]
 .exact gJ F h
 all_goals
  split
  .exact gm F (gJ F h)
  .exact F.no
theorem bCI {dst:Option Nat} {t:TypeId} {i off n sz:Nat} {lo hi:Option Operand} {K:ι->ASt->R} {Z:ASt} (h:∀ Z,Good fun i=>K i Z):Good fun j=>Rq (X.up (C j) (L j)) dst t i off n sz lo hi (K j) Z:=by
 simp only[Rq,XE.up];split
 .split
  .split
   .split
    .exact gm F (gJ F h)
    .exact F.no
   .split
    .exact gm F (zt F (gJ F h) (gJ F h))
    .exact F.no
   .exact F.no
  .exact F.no
 .exact F.no
theorem bCC {dst:Option Nat} {t:TypeId} {l c:Operand} {K:ι->ASt->R} {Z:ASt} (h:∀ Z,Good fun i=>K i Z):Good fun j=>Xt (X.up (C j) (L j)) dst t l c (K j) Z:=by
 simp only[Xt,XE.up];split
 .split
  .refine gm F ?_;split
   .exact gJ F h
   .split
    .exact gJ F h
    .exact F.no
  .exact F.no
 .exact F.no
theorem bC6 {dst:Option Nat} {t:TypeId} {x:Operand} {K:ι->ASt->R} {Z:ASt} (h:∀ Z,Good fun i=>K i Z):Good fun j=>Xq (X.up (C j) (L j)) dst t x (K j) Z:=by
 simp only[Xq,XE.up];split
 .split
  .split
   .exact gm F (h _)
   .exact F.no
  .exact F.no
 .exact h _
 .exact F.no
theorem aKA {dst:Option Nat} {t:TypeId} {m q x:PV} {K:ι->ASt->R} {Z:ASt} (h:∀ Z,Good fun i=>K i Z):Good fun j=>Nr (X.up (C j) (L j)) dst t m q x (K j) Z:=by
 simp only[Nr,XE.up];split
 .split
  .split
   .split
    .exact gm F (h _)
    .exact F.no
   .exact F.no
  .exact F.no
 .exact F.no
theorem bCE {dst:Option Nat} {b:Bool} {q:Option PV} {K:ι->ASt->R} {Z:ASt} (h:∀ Z,Good fun i=>K i Z):Good fun j=>Xu (X.up (C j) (L j)) dst b q (K j) Z:=by
 simp only[Xu,XE.up];split
 .split
  .split
   .split
    .exact gm F (zt F (gJ F h) (gJ F h))
    .exact F.no
   .exact F.no
  .exact F.no
 .exact F.no
include hV in
theorem bCB {dst:Option Nat} {t:TypeId} {ok:Bool} {m q:PV} {K:ι->ASt->R} {Z:ASt} (h:∀ Z,Good fun i=>K i Z):Good fun j=>Xr (X.up (C j) (L j)) dst t ok m q (K j) Z:=by
 simp only[Xr,XE.up];split
 .split
  .split
   .split
    .split
     .exact aK7 F (fun p=>gJ F h) (gJ F h) _
     .exact bCD F (fun p=>OL F hV fun q=>gJ F h) (gJ F h)
    .exact F.no
   .exact F.no
  .exact F.no
 .exact F.no
include hV in
theorem aK2 {o:Oper} {K:ι->ASt->R} {Z:ASt} (h:∀ Z,Good fun i=>K i Z):Good fun i=>Nq (X.up (C i) (L i)) o (K i) Z:=by
 have hg:=fun {Z:ASt}=>bC9 F (X:=X) (C:=C) (L:=L) (o:=o) (Z:=Z) h
 unfold Nq;simp only[XE.up];split
 .split
  .split
   .exact gm F (gJ F h)
   .exact F.no
  .exact hg
 .split
  .simp only[a3V];split
   .split
    .exact aK6 F fun p=>OL F hV fun q=>gJ F h
    .exact F.no
   .exact F.no
  .split
   .split
    .split
     .exact gm F (gJ F h)
     .exact F.no
    .exact F.no
   .exact hg
  .split
   .split
    .exact gm F (gJ F h)
    .exact F.no
   .exact hg
  .split
   .refine gm F (aK6 F fun p=>OL F hV fun q => ?_);split
    .exact gJ F h
    .exact F.no
   .exact hg
  .exact hg
 .split
  .split
   .split
    .split
     .exact gm F (OL F hV fun q=>gJ F h)
     .split
      .exact bCF F fun p=>OL F hV fun q=>gJ F h
      .exact F.no
    .exact F.no
   .exact F.no
  .split
   .exact gm F (gJ F h)
   .exact hg
 .split
  .split
   .split
    .split
     .split
      .exact gm F (h _)
      .exact F.no
     .split
      .exact gm F (h _)
      .exact F.no
    .exact F.no
   .exact F.no
  .split
   .split
    .split
     .split
      .exact gm F (h _)
      .exact F.no
     .exact F.no
    .exact F.no
   .exact hg
 .split
  .split
   .exact bC5 F fun p=>gJ F h
   .exact F.no
  .split
   .split
    .refine gm F (aJ' F (fun p => ?_) _ _);split
     .exact gJ F h
     .exact F.no
    .exact F.no
   .exact hg
  .exact hg
 .split
  .exact zt F (aK9 F h) (aK9 F h)
  .exact F.no
 .split
  .split
   .split
    .exact bCJ F h
    .exact F.no
   .exact F.no
  .split
   .exact bCK F h
   .exact F.no
  .exact bCI F h
  .exact hg
 .split
  .split
   .split
    .exact gm F (gJ F h)
    .exact F.no
   .exact F.no
  .exact F.no
 .exact bCC F h
 .split
  .exact bCB F hV h
  .exact F.no
 .split
  .exact aKA F h
  .exact F.no
 .split
  .exact F.no
  .split
   .exact aKA F h
   .exact F.no
 .exact bCE F h
 .split
  .split
   .split
    .exact gm F (gJ F h)
    .exact F.no
   .exact hg
  .exact hg
 .split
  .exact gm F (gJ F h)
  .exact hg
 .split
  .simp only[Nl]; split
   .exact gm F (gJ F h)
   .exact F.no
  .simp only[Nl]; split
   .exact gm F (gJ F h)
   .exact F.no
  .exact gm F (gJ F h)
  .exact gm F (gJ F h)
  .exact gm F (gJ F h)
  .simp only[Np]; split
   .exact aK4 F fun b=>gJ F h
   .exact F.no
  .simp only[Np]; split
   .exact aK4 F fun b=>gJ F h
   .exact F.no
  .exact hg
 .split
  .split
   .exact bC6 F h
   .exact F.no
  .split
   .simp only[a3U];split
    .split
     .split
      .exact gm F (gJ F h)
      .exact F.no
     .exact F.no
    .split
     .split
      .exact gm F (gJ F h)
      .exact F.no
     .exact F.no
    .exact F.no
   .exact F.no
  .split
   .split
    .exact gm F hg
    .exact gm F hg
    .simp only[a3T];split
     .split
      .split
       .exact gm F (gJ F h)
       .exact F.no
      .exact F.no
     .exact F.no
    .exact gm F hg
    .split
     .exact gm F hg
     .exact F.no
    .exact F.no
   .exact F.no
  .exact hg
  .exact F.no
 .exact hg
include hW hC in
theorem bC8 {draw:Bool} {o:Oper} {f:Operand} {args:List Operand} {K:ι->ASt->R} {Z:ASt} (h:∀ Z,Good fun i=>K i Z):Good fun i=>Jb (X.up (C i) (L i)) draw o f args (K i) Z:=by
 have hH:∀ {dst:Option Nat} {g:FuncId} {full:bTA} {ids:List Nat},Good fun i=>zA (X.up (C i) (L i)) dst g full ids (K i) Z:=fun {dst g full ids}=>by
  simp only[zA];split
  .exact Z8 F hC fun r h'=>OM F hW fun p q=>gJ F h
  .exact F.no
 unfold Jb;simp only[XE.up] at hH ⊢;have hP:∀ {dst:Option Nat} {g:FuncId} {full:bTA} {ids:List Nat},Good fun i=>Jc (X.up (C i) (L i)) dst g full ids (K i) Z:=fun {dst g full ids}=>by
  simp only[Jc];split
  .exact gm F (Z8 F hC fun r h'=>OM F hW fun p q=>gm F (gJ F h))
  .exact F.no
 simp only[XE.up] at hP;split
 .split
  .split
   .exact hP
   .exact hH
  split
  .refine a5N F hC fun r=>OM F hW fun p q => ?_
   cases (!draw&&dB X.E.mu o.dst)
   .cases PV.flat p
    .exact F.no
    .exact gJ F h
   .simp only[a3Y];split
    .exact gm F (gJ F h)
    .exact zt F (gm F (gJ F h)) (gJ F h)
    .exact F.no
  .cases draw
   .cases dB X.E.ln o.dst
    .cases dB X.E.sy o.dst
     .exact hH
     .simp only[Jc];split
      .exact gm F (Z8 F hC fun r h'=>OM F hW fun p q=>gm F (gJ F h))
      .exact F.no
    .simp only[a3W];refine gm F (a5N F hC fun r=>OM F hW fun p q => ?_);cases PV.uX p
     .exact F.no
     .exact gJ F h
   .dsimp only;split
    .exact hH
    .exact F.no
 .exact F.no
include hV hW hC in
theorem aK1 {draw:Bool} {o:Oper} {K:ι->ASt->R} {Z:ASt} (h:∀ Z,Good fun i=>K i Z):Good fun i=>HY (X.up (C i) (L i)) draw o (K i) Z:=by
 unfold HY;split
 .simp only[XE.up];split
  .simp only[Xp];split
   .refine bCA F fun g a b=>gm F (a5N F hC fun r=>OL F hV fun r' => ?_)
    split
    .exact gJ F h
    .exact F.no
   .exact F.no
  .exact bC8 F hW hC h
 .cases draw
  .simp only[XE.up];split
   .exact bCG F fun b=>gJ F h
   .exact aK2 F hV h
  .exact aK2 F hV h
include hV hW hC in
theorem TN {draw:Bool} {ops:Array Oper}:∀ (l:List Oper) {K:ι->ASt->R} {Z:ASt},(∀ Z,Good fun i=>K i Z)->Good fun i=>jf (X.up (C i) (L i)) draw ops l (K i) Z
 | [],K,Z,h=>h Z
 | o::l,K,Z,h=>by
  have ih:∀ Z,Good fun i=>jf (X.up (C i) (L i)) draw ops l (K i) Z:=fun Z=>TN l h
  have hp:∀ {p:PV} {Z:ASt},Good fun i=>dF X.E o.dst p (jf (X.up (C i) (L i)) draw ops l (K i)) Z:=gJ F ih
  have hgd:∀ (d:Nat) (want v:Bool),Good fun i=>Ha (X.up (C i) (L i)) draw o d want v (jf (X.up (C i) (L i)) draw ops l (K i)) Z:=fun d want v=>by
   unfold Ha;split
   .exact aK1 F hV hW hC ih
   .exact hp
  simp only[jf];split
  .exact aK1 F hV hW hC ih
  .split
   .exact hp
   .split
    .exact zt F (hgd _ _ _) (hgd _ _ _)
    .exact hp
    .exact F.no
omit F in
theorem TP {k:ι->ASt->R} {K:ι->AX->ASt->R} (h:∀ Z,Good fun i=>k i Z) (h':∀ e Z,Good fun i=>K i e Z) (e:AX) (Z:ASt):Good fun i=>vz (k i) (K i) e Z:=by
 cases e
 .exact h Z
 .exact h' _ _
 .exact h' _ _
omit F in
theorem a5M {id:Nat} {K:ι->AX->ASt->R} (h':∀ e Z,Good fun i=>K i e Z) (e:AX) (Z:ASt):Good fun i=>bI id (K i) e Z:=by
 cases e with
 | normal=>exact h' _ _
 | ret=>exact h' _ _
 | exit j =>
  simp only[bI]; split
  .exact h' _ _
  .exact h' _ _
theorem oh {k:ι->ASt->R} (h:∀ Z,Good fun i=>k i Z):∀ (ks:List Nat) {Z:ASt},Good fun i=>mf (k i) ks Z
 | [],Z=>h Z
 | d::ds,Z=>by
  simp only[mf];split
  .split
   .split
    .exact gm F (oh h ds)
    .exact oh h ds
   .exact oh h ds
  split
  .split
   .split
    .split
     .split
      .exact gm F (oh h ds)
      .exact oh h ds
     .exact oh h ds
    .exact oh h ds
   .exact oh h ds
  split
  .split
   .split
    .split
     .exact zt F (oh h ds) (oh h ds)
     .exact oh h ds
    .exact oh h ds
   .exact oh h ds
  split
  .split
   .split
    .exact gm F (oh h ds)
    .exact zt F (oh h ds) (oh h ds)
   .exact oh h ds
  split
  .split
   .split
    .exact gm F (oh h ds)
    .exact oh h ds
   .exact oh h ds
  .exact oh h ds
include hV hW hC in
theorem aK3 {ops:Array Oper} {K:ι->ASt->R} (h:∀ Z,Good fun i=>K i Z):∀ (fuel:Nat) (B:Array Bool) (Z:ASt),Good fun i=>Eo (X.up (C i) (L i)) ops (K i) fuel B Z
 | 0,B,Z=>by
  unfold Eo;cases Region.ready .any ops B with
  | nil=>exact h Z
  | cons _ _=>exact F.no
 | fuel+1,B,Z=>by
  unfold Eo;cases Region.ready .any ops B with
  | nil=>exact h Z
  | cons j js =>
   refine aJZ F (f:=fun i k=>match ops[k]? with
    | none=>none
    | some o=>jf (X.up (C i) (L i)) true ops [o] (Eo (X.up (C i) (L i)) ops (K i) fuel (B.setIfInBounds k true)) Z) (fun k => ?_) (match Hf X.E ops B (j::js) with | some j => [j] | none=>j::js)
   cases ops[k]? with
   | none=>exact F.no
   | some o=>exact TN F hV hW hC [o] fun Z=>aK3 h fuel _ Z
include hV hW hC hL in
theorem DU:∀ (c:Code) {K:ι->AX->ASt->R} {Z:ASt},(∀ e Z,Good fun i=>K i e Z)->Good fun i=>bG (X.up (C i) (L i)) c (K i) Z
 | .skip,K,Z,h=>h _ _
 | .label _,K,Z,h=>h _ _
 | .exit _,K,Z,h=>h _ _
 | .ret,K,Z,h=>h _ _
 | .region _ ops draw,K,Z,h=>by
  simp only[bG];cases draw
  .exact TN F hV hW hC ops.toList (Z:=Z.head X.E) fun Z=>h .normal Z
  .show Good fun i=>match okD X.E ops with | true=>jf (X.up (C i) (L i)) true ops ops.toList (K i .normal) (Z.head X.E) | false=>aFJ (X.up (C i) (L i)) ops (K i .normal) (Z.head X.E)
   split
   .exact TN F hV hW hC ops.toList (Z:=Z.head X.E) fun Z=>h .normal Z
   .exact aK3 F hV hW hC (fun Z=>h .normal Z) _ _ _
 | .seq x y,K,Z,h=>by
  simp only[bG];refine DU x fun e Z=>TP (fun Z => ?_) h e Z
  show Good fun i=>uT X.E X.m0 y (bG (X.up (C i) (L i)) y (K i)) Z
  have hj:∀ Z,Good fun i=>Df X.E X.m0 y (bG (X.up (C i) (L i)) y (K i)) Z:=fun Z=>by
   unfold Df;split
   .refine gm F ?_;split
    .exact DU y h
    .exact F.no
   .exact DU y h
  unfold uT;split
  .exact oh F hj _
  .exact hj _
 | .cond c x y,K,Z,h=>by
  simp only[bG];split
  .split
   .exact zt F (DU x h) (DU y h)
   .exact zt F (DU x h) (DU y h)
  .exact F.no
 | .block id x,K,Z,h=>by simp only[bG]; exact DU x fun e Z=>a5M h e Z
 | .scope x,K,Z,h=>by simp only[bG]; exact DU x h
 | .loop x,K,Z,h=>hL (oC X.E X.m0 x Z).1 (oC X.E X.m0 x Z).2 x K (Z.gc (oC X.E X.m0 x Z).1 (oC X.E X.m0 x Z).2) h
 | .rangeFunc _ _ _ _,K,Z,h=>F.no
 | .goto _,K,Z,h=>F.no
 | .refuse _,K,Z,h=>F.no
end
section
variable {X:XE} {K:ASt->R} {Z:ASt} {v:PV×aG} {o:Oper} {ops:Array Oper}
theorem uA {E:AE} {dst:Option Nat} {p:PV} (h:dF E dst p K Z=some v):jB E dst p Z fun Z'=>K Z'=some v:=by grind [dF,jB]
theorem gI {b:Bool} {A:R} (h:chk b A=some v):b=true/\A=some v:=by
 cases b
 .cases h
 .exact ⟨rfl,h⟩
theorem iM {E:AE} {p:PV} {Z1:ASt} (h:bQ E o Z=some (p,Z1)) (hs:ja E o Z) (hp:dF E o.dst p K Z1=some v):yK E o (fun Z'=>K Z'=some v) Z:=by grind [yK,uA]
theorem qh (hs:ja X.E o Z) (h:o8 X o K Z=some v):yK X.E o (fun Z'=>K Z'=some v) Z:=by grind [o8,iM]
theorem a0D {d:Nat} {b:Bool} (h:Z.rd (.tmp d)=some (.bool b)):Z.lit d b=Z:=by
 have:bT d Z.s=some (.bool b):=by
  simp only[ASt.rd,ASt.ev] at h;cases hp:bT d Z.s with
  | none=>rw[hp] at h; cases h
  | some p =>
   rw[hp] at h;cases p<;>simp[PV.un] at h
   rw[h]
 unfold ASt.lit; rw[aA' this]
theorem QB {V:TypeId->PV->(PV->R)->R} (hV:yN V) {t:TypeId} {p:PV} {K:PV->R} (h:V t p K=some v):K p=some v:=by
 rcases hV t p with e | e
 simp_all;simp_all
theorem Ud {W:FuncId->aG->PV->aG->(PV->aG->R)->R} (hW:tX W) {g:FuncId} {hh h':aG} {r:PV} {K:PV->aG->R} (h:W g hh r h' K=some v):K r h'=some v:=by
 rcases hW g hh r h' with e | e
 simp_all;simp_all
theorem aN7 {es:bTA} {n:Int} {K:PV->R} (h:eH es n K=some v):0<=n/\∃ e,es[n.toNat]? = some e/\K e=some v:=by grind [eH]
theorem bG' {es:bTA} {n:Nat} {K:PV->R} (h:FD es n K=some v):∃ e,es[n]? = some e/\K e=some v:=by grind [FD]
theorem bH2 {es:bTA} {K:Bool->R} (h:IE es K=some v):K false=some v/\(es = []->K true=some v):=by grind [IE,aYG]
theorem aGB {p:PV} {K:Bool->R} (h:Rx p K=some v):∃ b,K b=some v/\((b=false/\∃ f a c,p = .func f a c)\/(b=true/\p = .raw .nilFunc)):=by unfold Rx at h;grind
theorem a'4 {p:PV} {K:FuncId->bTA->bTA->R} (h:Nw p K=some v):∃ g a c,p = .func (.func g) a c/\K g a c=some v:=by unfold Nw at h;grind
theorem aE1 {n:Int} {K:PV->R}:∀ {cs:bTA} {k:Nat},RF cs k n K=some v->∃ j p,n=((k+j:Nat):Int)/\cs[j]? = some p/\K p=some v
 | [],_,h=>by cases h
 | p::r,k,h=>by
  rw[RF] at h;cases hb:n==(k:Int) with
  | true=>rw[hb] at h; exact ⟨0,p,by grind,rfl,h⟩
  | false =>rw[hb] at h;obtain ⟨j,q,e1,e2,e3⟩:=aE1 (cs:=r) (k:=k+1) h;exact ⟨j+1,q,by rw[e1]; omega,by grind,e3⟩
theorem aGC {t:TypeId} {p:PV} {P:Program} (ht:OZ P t=true) {b:Bool} (hp:(b=false/\∃ f a c,p = .func f a c)\/(b=true/\p = .raw .nilFunc)) (pos:Bool):BC P (match pos with | true => .eql | false => .neq) t p (.raw .nilFunc)=some (.bool (b==pos)):=by rcases hp with ⟨rfl,f,a,c,rfl⟩ | ⟨rfl,rfl⟩<;>cases pos<;>simp[BC,ht,BP]
theorem aW3 {s:ByteArray} {n:Int} {K:Int->R} (h:vJ s n K=some v):0<=n/\∃ b,s[n.toNat]? = some b/\K b.toNat=some v:=by grind [vJ]
theorem aNT {s:Option IntKind} {q:PV} {A:PV->R} {B:R} {v:PV×aG}:∀ {L:bTA},KJ s L q A B=some v->(∃ p,xE s L q=some (some p)/\A p=some v)\/(xE s L q=some none/\B=some v)
 | k::x::L,h=>by
  simp only[KJ] at h;split at h
  .rename_i b hb;cases b with
   | true=>exact .inl ⟨x,by simp only[xE,hb],h⟩
   | false =>
    have h:KJ s L q A B=some v:=h;rcases aNT h with ⟨p,h1,h2⟩ | ⟨h1,h2⟩
    .exact .inl ⟨p,by simp only[xE,hb]; exact h1,h2⟩
    .exact .inr ⟨by simp only[xE,hb]; exact h1,h2⟩
  .cases h
 | [],h => .inr ⟨rfl,h⟩
 | [_],h=>by cases h
theorem bMG (hc:∀ c,o.op ≠ .call c) (E:AE):ja E o Z:=by simp
theorem bML {t:TypeId} {dst:Option Nat} {sz:Nat} {es:bTA} {ow:Bool} {lo hi:Option Operand} {x:Operand} {I:TI} (ht:je X.E.P t=some I) (hI:I.size=sz) (hx:Z.rd x=some (.sl ow sz es)) (h:Jd X dst sz es lo hi K Z=some v) :
 ∃ p,pop X.E.P Z.rd (.slice t x lo hi none)=some p/\dF X.E dst p K Z=some v:=by
 have hsz:(je X.E.P t).map TI.size=some sz:=by rw[ht]; simp[hI]
 cases lo with
 | none =>
  cases hi with
  | none=>exact ⟨_,by simp only[pop,hx,vw]; rw[aS ⟨hsz,by omega,by omega,by omega⟩]; simp,h⟩
  | some b =>grind [Jd,gI,pop,vw]
 | some a =>
  cases hi with
  | none =>
   simp only[Jd] at h;split at h
   .rename_i k n hb;obtain ⟨h1,h2⟩:=gI h;simp only[bF,lw] at h1;exact ⟨_,by simp only[pop,hx,hb,MJ,vw]; rw[aS ⟨hsz,by omega,by omega,by omega⟩]; simp,h2⟩
   .cases h
  | some b =>grind [Jd,gI,pop,vw]
theorem bMM {t:TypeId} {dst:Option Nat} {s:ByteArray} {lo hi:Option Operand} {x:Operand} (ht:tJ X.E.P t=true) (hx:Z.rd x=some (.str s)) (h:Je X dst s lo hi K Z=some v) :
 ∃ p,pop X.E.P Z.rd (.slice t x lo hi none)=some p/\dF X.E dst p K Z=some v:=by
 cases lo with
 | none =>grind [pop,vw,Je,gI]
 | some a =>
  cases hi with
  | none =>grind [Je,gI,pop,vw]
  | some b =>grind [Je,gI,pop,vw]
theorem bMK {t:TypeId} {dst:Option Nat} {i off n sz:Nat} {lo hi:Option Operand} {x:Operand} (hx:Z.rd x=some (.slh i off n sz)) (h:Rq X dst t i off n sz lo hi K Z=some v) :
 ∃ p,pop X.E.P Z.rd (.slice t x lo hi none)=some p/\dF X.E dst p K Z=some v:=by
 unfold Rq at h;split at h
 .rename_i I hT;split at h
  .rename_i hz;simp only[bF,CO] at hz;have hsz:=nZ hz.1;have hm:(je X.E.P t).map TI.size=some sz:=by rw[hT]; simp[hsz]
   split at h
   grind [gI,pop,vw]
   .rename_i l;split at h
    .rename_i k a ha;obtain ⟨h1,h2⟩:=gI h;simp only[bF,lw] at h1;simp only[pop,hx,ha,MJ,vw,BU];rw[aS ⟨hm,h1.1,h1.2,J7 _,hz.2⟩];by_cases hl:a<(n:Int)
     .rw[decide_eq_true hl] at h2;exact ⟨_,by rw[aS hl]; simp,h2⟩
     .rw[decide_eq_false hl] at h2;exact ⟨_,by rw[aQ hl],h2⟩
    .cases h
   .cases h
  .cases h
 .cases h
theorem aE2 {P:Program} {t:TypeId} {m:Nat} {e:TypeId} (h:X5 P t=some (m,e)):∃ I,Ec P t=some (m,I)/\I.size=1/\I.agg=false:=by unfold X5 at h;grind [Ec,Nat.eq_of_beq_eq_true]
theorem aFP (hV:yN X.V) (hc:zD o=none) (h:Nq X o K Z=some v):yK X.E o (fun Z'=>K Z'=some v) Z:=by
 obtain ⟨dst,op,ty,pos,af,g⟩:=o;unfold Nq at h;simp only at h;split at h
 .rename_i s d x;have hs:ja X.E ⟨dst,.convert s d x,ty,pos,af,g⟩ Z:=trivial;split at h
  .rename_i ow sz es hx;split at h
   .rename_i ht;simp only[bF] at ht;obtain ⟨h1,h2⟩:=gI h;exact iM (by grind [bQ,pop,Rf]) hs h2
   .cases h
  .exact qh hs h
 .rename_i t x i;have hs:ja X.E ⟨dst,.indexAddr t x i,ty,pos,af,g⟩ Z:=trivial;split at h
  .rename_i ow sz es k n hx hi;unfold a3V at h;split at h
   .rename_i e I h1 h2;split at h
    .rename_i hI;obtain ⟨hn,p,hp,h⟩:=aN7 h;have h:=QB hV h;exact iM (by grind [bQ,pop]) hs h
    .cases h
   .cases h
  .rename_i i0 off m sz k n hx hi;split at h
   .split at h
    .rename_i I hI;split at h
     .rename_i hz;rw[bHH] at h;obtain ⟨h1,h2⟩:=gI h;simp only[bF,lw] at h1;exact iM (p := .ptr i0 (off+n.toNat*sz)) (by grind [bQ,pop,Nat.eq_of_beq_eq_true]) hs h2
     .cases h
    .cases h
   .exact qh hs h
  .rename_i i0 off k n hx hi;split at h
   .split at h
    .rename_i m I hI;obtain ⟨h1,h2⟩:=gI h;simp only[bF,lw] at h1;exact iM (p := .ptr i0 (off+n.toNat*I.size)) (by grind [bQ,pop]) hs h2
    .cases h
   .exact qh hs h
  .rename_i cs k n hx hi;split at h
   .rename_i m e ht;obtain ⟨h1,h2⟩:=gI h;obtain ⟨hn,p,hp,h⟩:=aN7 h2;have h:=QB hV h;obtain ⟨I,hI,hsz,hag⟩:=aE2 ht;split at h
    .rename_i ho;refine iM (p := .cst p.un) (by simp only[bQ,pop,hx,hi,hI];rw[aS ⟨hn,by grind⟩];simp_all) hs h
    .cases h
   .exact qh hs h
  .exact qh hs h
 .rename_i t a;have hs:ja X.E ⟨dst,.load t a,ty,pos,af,g⟩ Z:=trivial;split at h
  .rename_i hsy;have hln:dB X.E.ln dst=false:=by simp_all
   split at h
   .rename_i I i0 off hI ha;split at h
    .rename_i cs hcs;split at h
     .rename_i hag;obtain ⟨h1,h2⟩:=gI h;have h:=QB hV h2;exact iM (Z1:=Z) (by grind [bQ,o9]) hs h
     .rename_i hag;split at h
      .rename_i hc;simp only[xW] at hc;obtain ⟨q,hq,h⟩:=bG' h;have h:=QB hV h;exact iM (p:=q.un) (Z1:=Z) (by grind [bQ,o9]) hs h
      .cases h
    .cases h
   .cases h
  .split at h
   .rename_i e I ha hI;obtain ⟨h1,h2⟩:=gI h;simp only[bF,lw] at h1;refine iM (p:=e.un) (Z1:=Z) ?_ hs h2;grind [bQ,aOX,o9]
   .exact qh hs h
 .rename_i t a x;have hs:ja X.E ⟨dst,.store t a x,ty,pos,af,g⟩ Z:=trivial;split at h
  .rename_i hsy;have hso:∀ r,Py X.E.mu X.E.ln (kD a) r=true:=fun r=>by simp only[bF,xW] at hsy;unfold Py;rw[hsy.2]
   split at h
   .rename_i I i0 off q hI ha hx;split at h
    .rename_i cs hcs;have hcl:(Z.clr x).h=Z.h:=by cases x<;>simp only[ASt.clr]<;>split<;>rfl
     split at h
     .rename_i ds;split at h
      .rename_i hc;simp only[bF] at hc;obtain ⟨h1,h2⟩:=gI h;have hsv:yL I (.ptr i0 off) (.agg ds) (Z.clr x)=some { Z.clr x with h:=(Z.clr x).h.set i0 (some (cs.take off ++ ds.map PV.un ++ cs.drop (off+I.size))) }:=by simp_all
       exact iM (p := .tuple []) (Z1 := { Z.clr x with h:=(Z.clr x).h.set i0 (some (cs.take off ++ ds.map PV.un ++ cs.drop (off+I.size))) }) (by grind [bQ]) hs (by grind [dF,ASt.put])
      .cases h
     .rename_i q' hna;split at h
      .rename_i hc;simp only[bF] at hc;obtain ⟨h1,h2⟩:=gI h;have hsv:yL I (.ptr i0 off) q (Z.clr x)=some { Z.clr x with h:=(Z.clr x).h.set i0 (some (cs.set off q)) }:=by simp_all
       exact iM (p := .tuple []) (Z1 := { Z.clr x with h:=(Z.clr x).h.set i0 (some (cs.set off q)) }) (by grind [bQ]) hs (by grind [dF,ASt.put])
      .cases h
    .cases h
   .cases h
  .split at h
   .rename_i ds hx;split at h
    .rename_i I i0 off hI ha;split at h
     .rename_i cs hcs;split at h
      .rename_i hc;simp only[bF,Nat.ble_eq] at hc;obtain ⟨hso,hc1,hc2⟩:=hc;obtain ⟨h1,h2⟩:=gI h;have hcl:(Z.clr x).h=Z.h:=by cases x<;>simp only[ASt.clr]<;>split<;>rfl
       have hsv:yL I (.ptr i0 off) (.agg ds) (Z.clr x)=some { Z.clr x with h:=(Z.clr x).h.set i0 (some (cs.take off ++ ds.map PV.un ++ cs.drop (off+I.size))) }:=by simp_all
       exact iM (p := .tuple []) (Z1 := { Z.clr x with h:=(Z.clr x).h.set i0 (some (cs.take off ++ ds.map PV.un ++ cs.drop (off+I.size))) }) (by grind [bQ]) hs (by grind [dF,ASt.put])
      .cases h
     .cases h
    .cases h
   .exact qh hs h
 .rename_i t x i;have hs:ja X.E ⟨dst,.index t x i,ty,pos,af,g⟩ Z:=trivial;split at h
  .rename_i s k n hx hi;split at h
   .rename_i ht;obtain ⟨hn,b,hb,h⟩:=aW3 h;exact iM (by grind [bQ,pop]) hs h
   .cases h
  .rename_i cs k n hx hi;split at h
   .split at h
    .rename_i m e hm;obtain ⟨c1,h⟩:=gI h;simp only[bF,lw] at c1;obtain ⟨I,h1,h2,h3⟩:=aE2 hm;obtain ⟨j,p,e1,e2,h⟩:=aE1 h;split at h
     .rename_i ho;have ej:n.toNat=j:=by omega
      exact iM (p:=p.un) (Z1:=Z) (by grind [bQ,pop,xN]) hs h
     .cases h
    .cases h
   .exact qh hs h
  .exact qh hs h
 .rename_i c a b;have hs:ja X.E ⟨dst,.pick c a b,ty,pos,af,g⟩ Z:=trivial;split at h
  .rename_i w hw;cases w with
   | true =>
    have h:Um X.E dst (Z.rd a) K Z=some v:=h;cases ha:Z.rd a with
    | none=>rw[ha] at h; cases h
    | some p =>rw[ha] at h;exact iM (by grind [bQ,pop]) hs h
   | false =>
    have h:Um X.E dst (Z.rd b) K Z=some v:=h;cases ha:Z.rd b with
    | none=>rw[ha] at h; cases h
    | some p =>rw[ha] at h;exact iM (by grind [bQ,pop]) hs h
  .cases h
 .rename_i t x lo hi;have hs:ja X.E ⟨dst,.slice t x lo hi none,ty,pos,af,g⟩ Z:=trivial;split at h
  .rename_i ow sz es hx;split at h
   .rename_i I hI;split at h
    .rename_i hz;obtain ⟨p,h1,h2⟩:=bML hI hz hx h;exact iM (by grind [bQ]) hs h2
    .cases h
   .cases h
  .rename_i s hx;split at h
   .rename_i ht;obtain ⟨p,h1,h2⟩:=bMM ht hx h;exact iM (by grind [bQ]) hs h2
   .cases h
  .rename_i i0 off m sz hx;obtain ⟨p,h1,h2⟩:=bMK hx h;exact iM (by grind [bQ]) hs h2
  .exact qh hs h
 .rename_i t x l u m;have hs:ja X.E ⟨dst,.slice t x (some l) (some u) (some m),ty,pos,af,g⟩ Z:=trivial;split at h
  .rename_i ow sz es k1 a k2 b k3 c hx hl hu hm;split at h
   .rename_i I hI;split at h
    .rename_i hz;obtain ⟨h1,h2⟩:=gI h;simp only[bF,lw] at h1;obtain ⟨⟨⟨b1,b2⟩,b3⟩,b4⟩:=h1;exact iM (Z1:=Z) (by grind [bQ,pop,a0R,Nat.eq_of_beq_eq_true]) hs h2
    .cases h
   .cases h
  .cases h
 .rename_i t l c;have hs:ja X.E ⟨dst,.makeSlice t l c,ty,pos,af,g⟩ Z:=trivial;unfold Xt at h;split at h
  .rename_i I k n k' n' hT hl hc;split at h
   .rename_i hz;simp only[bF,CO,Nat.ble_eq] at hz;obtain ⟨h1,h2⟩:=gI h;simp only[bF,lw] at h1;have hcond:n=n'/\0<=n/\n<=1073741824/\0<I.size/\I.bytes<=1024:=⟨h1.1.1,h1.1.2,h1.2,hz.1,hz.2⟩;split at h2
    .rename_i hm;exact iM (Z1:=⟨Z.s,Z.h ++ [some (wG n.toNat I)]⟩) (by grind [bQ]) hs h2
    .rename_i hm;split at h2
     .rename_i hze;simp only[bF] at hze;exact iM (Z1:=Z) (by grind [bQ,Nat.eq_of_beq_eq_true]) hs h2
     .cases h2
   .cases h
  .cases h
 .rename_i t m k ok;have hs:ja X.E ⟨dst,.lookup t m k ok,ty,pos,af,g⟩ Z:=trivial;split at h
  .rename_i pm q hm hq;unfold Xr at h;split at h
   .rename_i s z i ht;split at h
    .rename_i cs hcs;split at h
     .rename_i b L hin;split at h
      .rename_i hik;split at h
       .rcases aNT h with ⟨p,hg,h⟩ | ⟨hg,h⟩
        .exact iM (Z1:=Z) (p:=BK ok z (some p)) (by grind [bQ]) hs h
        .exact iM (Z1:=Z) (p:=BK ok z none) (by grind [bQ]) hs h
       .unfold IA at h;split at h
        .rename_i p hg;have h:=QB hV h;exact iM (Z1:=Z) (p:=BK ok z (some p)) (by grind [bQ]) hs h
        .rename_i hg;exact iM (Z1:=Z) (p:=BK ok z none) (by grind [bQ]) hs h
        .cases h
      .cases h
     .cases h
    .cases h
   .cases h
  .cases h
 .rename_i t m k x;have hs:ja X.E ⟨dst,.mapUpdate t m k x,ty,pos,af,g⟩ Z:=trivial;split at h
  .rename_i pm q y hm hq hy;unfold Nr at h;split at h
   .rename_i s z i ht;split at h
    .rename_i cs hcs;split at h
     .rename_i b L hin;split at h
      .rename_i hik;obtain ⟨h1,h2⟩:=gI h;exact iM (p := .tuple []) (Z1 := { Z with h:=Z.h.set i (some [nU b (jW s L q y)]) }) (by grind [bQ]) hs (by grind [dF,ASt.put])
      .cases h
     .cases h
    .cases h
   .cases h
  .cases h
 .rename_i t m k x;have hs:ja X.E ⟨dst,.insert t m k x,ty,pos,af,g⟩ Z:=trivial;split at h
  .cases h
  rename_i hso;split at h
  .rename_i pm q y hm hq hy;unfold Nr at h;split at h
   .rename_i s z i ht;split at h
    .rename_i cs hcs;split at h
     .rename_i b L hin;split at h
      .rename_i hik;obtain ⟨h1,h2⟩:=gI h;exact iM (p := .tuple []) (Z1 := { Z with h:=Z.h.set i (some [nU b (jW s L q y)]) }) (by rw[hm] at hso; grind [bQ]) hs (by grind [dF,ASt.put])
      .cases h
     .cases h
    .cases h
   .cases h
  .cases h
 .rename_i x b;have hs:ja X.E ⟨dst,.next x b,ty,pos,af,g⟩ Z:=trivial;unfold Xu at h;split at h
  .rename_i T i hx;split at h
   .rename_i cs hcs;split at h
    .rename_i s p hin;split at h
     .rename_i hT;obtain ⟨h1,h2⟩:=gI h;cases hp:decide (p<(s.size:Int)) with
      | true =>rw[hp] at h2;exact iM (p := .tuple [.bool true,.int .i64 p,.int .i32 (ZK s p)]) (Z1 := { Z with h:=Z.h.set i (some [zF s (Oe s p)]) }) (by grind [bQ]) hs h2
      | false =>rw[hp] at h2;exact iM (p := .tuple [.bool false]) (Z1:=Z) (by grind [bQ]) hs h2
     .cases h
    .cases h
   .cases h
  .cases h
 .rename_i s x f;have hs:ja X.E ⟨dst,.fieldAddr s x f,ty,pos,af,g⟩ Z:=trivial;split at h
  .rename_i cs fs hx hfs;split at h
   .rename_i off z hf;split at h
    .rename_i p hz hp;obtain ⟨h1,h2⟩:=gI h;have hz:z≠0:=fun e=>by simp_all
     exact iM (p := .cst p.un) (Z1:=Z) (by simp only[bQ,pop,hfs,hx,hf,MJ,aQ hz,VF,xN,hp,h1,yY,GM,GY,JE]) hs h2
    .cases h
   .exact qh hs h
  .exact qh hs h
 .rename_i t x;have hs:ja X.E ⟨dst,.box t x,ty,pos,af,g⟩ Z:=trivial;split at h
  .rename_i ds hf hx;obtain ⟨h1,h2⟩:=gI h;rw[bF] at h1;exact iM (p := .cst (.agg (ds.map PV.un))) (Z1:=Z) (by simp only[bQ,hf,hx,MJ,yY]; rw[show Nv (.agg ds)=some (.agg (ds.map PV.un)) by grind [Nv,PV.newCells,PV.flat]]; rfl) hs h2
  .exact qh hs h
 .rename_i XK t x y t';have hs:ja X.E ⟨dst,.binOp XK t x y t',ty,pos,af,g⟩ Z:=trivial;split at h
  .rename_i k a k' b hx hy;unfold Nl at h;split at h
   .rename_i e;obtain ⟨h1,h2⟩:=gI h;have h1:b≠0:=by grind
    exact iM (by grind [bQ,pop,BC,OX]) hs h2
   .cases h
  .rename_i k a k' b hx hy;unfold Nl at h;split at h
   .rename_i e;obtain ⟨h1,h2⟩:=gI h;have h1:b≠0:=by grind
    exact iM (by grind [bQ,pop,BC,OX]) hs h2
   .cases h
  .rename_i k a k' b hx hy;obtain ⟨h1,h2⟩:=gI h;have h1:¬ b<0:=by grind
   exact iM (by grind [bQ,pop,BC,Pm]) hs h2
  .rename_i k a k' b hx hy;obtain ⟨h1,h2⟩:=gI h;have h1:¬ b<0:=by grind
   exact iM (by grind [bQ,pop,BC,Pm]) hs h2
  .rename_i a b hx hy;obtain ⟨h1,h2⟩:=gI h;have h1:=ML h1;exact iM (by grind [bQ,pop,BC,VE]) hs h2
  .rename_i p hx hy;unfold Np at h;split at h
   .rename_i ht;obtain ⟨b,h1,h2⟩:=aGB h;exact iM (Z1:=Z) (by simp only[bQ,pop,hx,hy]; rw[aGC ht h2 true]; rfl) hs h1
   .cases h
  .rename_i p hx hy;unfold Np at h;split at h
   .rename_i ht;obtain ⟨b,h1,h2⟩:=aGB h;exact iM (Z1:=Z) (by simp only[bQ,pop,hx,hy]; rw[aGC ht h2 false]; rfl) hs h1
   .cases h
  .exact qh hs h
 .rename_i c;split at h
  .rename_i hca;split at h
   .rename_i x t h1 h2;have hs:ja X.E ⟨dst,.call c,ty,pos,af,g⟩ Z:=by simp_all
    unfold Xq at h;split at h
    .rename_i I i0 off m sz hT hx;split at h
     .rename_i cs hcs;split at h
      .rename_i hz;obtain ⟨c1,c2⟩:=gI h;exact iM (p := .tuple []) (Z1 := { Z with h:=Z.h.set i0 (some (cs.take off ++ (wG m I).map PV.un ++ cs.drop (off+m*sz))) }) (by grind [bQ,Nat.eq_of_beq_eq_true]) hs (by grind [dF,ASt.put])
      .cases h
     .cases h
    .rename_i I o' z' hT hx;exact iM (p := .tuple []) (Z1:=Z) (by grind [bQ]) hs (by grind [dF,ASt.put])
    .cases h
   .cases h
  .rename_i hca;split at h
   .rename_i x y t u h1 h2;have hs:ja X.E ⟨dst,.call c,ty,pos,af,g⟩ Z:=by simp_all
    unfold a3U at h;split at h
    .rename_i I i0 off n sz o' sz' es hT hx hy;split at h
     .rename_i cs hcs;split at h
      .rename_i hz;simp only[bF,CO] at hz;obtain ⟨z1,z2,z3⟩:=hz;obtain ⟨c1,c2⟩:=gI h;exact iM (p := .int .i64 ((Nat.min es.length n:Nat):Int)) (Z1 := { Z with h:=Z.h.set i0 (some (cs.take off ++ (dm es).take (Nat.min es.length n*sz) ++ cs.drop (off+Nat.min es.length n*sz))) }) (by grind [bQ,En,Nat.eq_of_beq_eq_true]) hs c2
      .cases h
     .cases h
    .rename_i I i0 off n sz j0 a04 m sz' hT hx hy;split at h
     .rename_i cs cs2 hcs hcs2;split at h
      .rename_i hz;simp only[bF,CO] at hz;obtain ⟨z1,z2,z3⟩:=hz;have z3:=nZ z3;subst z3;obtain ⟨c1,c2⟩:=gI h;simp only[bF,lw] at c1;exact iM (p := .int .i64 ((Nat.min m n:Nat):Int)) (Z1 := { Z with h:=Z.h.set i0 (some (cs.take off ++ (((cs2.drop a04).take (m*sz')).map PV.un).take (Nat.min m n*sz') ++ cs.drop (off+Nat.min m n*sz'))) }) (by grind [En,bQ,Nat.eq_of_beq_eq_true]) hs c2
      .cases h
     .cases h
    .cases h
   .cases h
  .rename_i hca;split at h
   .rename_i s x hxs;split at h
    grind [gI,qh,ja]
    grind [gI,qh,ja]
    .rename_i n1 z1 cs o2 z2 es' he hx;unfold a3T at h;split at h
     .rename_i t u hts;split at h
      .rename_i I hT;split at h
       .rename_i hc;simp only[bF,EP,CO,Nat.ble_eq] at hc;obtain ⟨c1,c2,c3,c4,c5⟩:=hc;obtain ⟨h1,h2⟩:=gI h;simp only[bF] at h1;have c1:=nZ c1;have c4:=nZ c4;have c5:z2=I.size\/z2=0:=c5.imp (fun e=>nZ e) fun e=>nZ e
        subst c1; subst c4;exact iM (Z1:=Z.clr s) (by grind [bQ]) (by grind [ja]) h2
       .cases h
      .cases h
     .cases h
    grind [gI,qh,ja]
    grind [gI,qh,ja]
    .cases h
   .cases h
  grind [qh,ja]
  .cases h
 grind [qh,bMG]
def o7 (P:Program) (C:Cal):Prop:=∀ g args h r h',C g args h=some (r,h')->Ev P g args h r h'
theorem X4 {M:Mem} {B:aN} {P:Program}:∀ {ts:List TypeId} {ps:bTA} {vs:List Value},aj M B ps vs->aj M B (oQ P ts ps) vs
 | [],ps,vs,h=>by cases ps<;>exact h
 | t::ts,[],vs,h=>h
 | t::ts,p::ps,vs,h=>by obtain ⟨u,us,rfl,h1,h2⟩:=bg.1 h;exact bg.2 ⟨u,us,rfl,by unfold a0J; split<;>first | exact h1 | exact Uy _ h1,X4 h2⟩
theorem a0H {M:Mem} {B:aN}:∀ {ps qs:bTA} {vs:List Value},aj M B (ps ++ qs) vs->∃ us ws,vs=us ++ ws/\aj M B ps us/\aj M B qs ws
 | [],qs,vs,h=>⟨[],vs,rfl,dJ.2 rfl,h⟩
 | p::ps,qs,vs,h=>by obtain ⟨u,us,rfl,h1,h2⟩:=bg.1 h;obtain ⟨a,b,rfl,h3,h4⟩:=a0H h2;exact ⟨u::a,b,rfl,bg.2 ⟨u,a,rfl,h1,h3⟩,h4⟩
theorem rO.args {P:Program} {cp:CP} {g:FuncId} {az as':bTA} {h:aG} {r:PV} {h':aG} (k:rO P cp g as' h r h') (hr:∀ (M:Mem) (B:aN) (vs:List Value),aj M B az vs->aj M B as' vs):rO P cp g az h r h' :=⟨k.1,fun out M B w vals h1 h2 h3 h4 h5=>k.2 out M B w vals h1 h2 h3 h4 (hr _ _ _ h5)⟩
theorem Ev.args {P:Program} {g:FuncId} {az as':bTA} {h:aG} {r:PV} {h':aG} (k:Ev P g as' h r h') (hr:∀ (M:Mem) (B:aN) (vs:List Value),aj M B az vs->aj M B as' vs):Ev P g az h r h':=rO.args k hr
theorem RD {P:Program}:∀ {ts:List TypeId} {ps:bTA},PV.flats (oQ P ts ps)=PV.flats ps
 | [],ps=>by cases ps<;>rfl
 | t::ts,[]=>rfl
 | t::ts,p::ps=>by
  have h1:∀ z (p:PV),(p.EC z).flat=p.flat:=fun z p=>by
   cases p with
   | sl o s es =>
    rw[PV.EC];split
    .unfold FH; split<;>rfl
    .rfl
   | _=>rfl
  have h2:∀ zs (cs:bTA),PV.flats (V3 zs cs)=PV.flats cs:=by
   intro zs;induction zs with
   | nil=>intro cs; cases cs<;>rfl
   | cons z zs ih =>
    intro cs;cases cs with
    | nil=>rfl
    | cons c cs=>rw[V3,PV.flats,PV.flats,h1,ih]
  have h3:(p.zX (NW P 8 t)).flat=p.flat:=by
   cases p with
   | agg cs=>simp only[PV.zX,PV.flat,h2]
   | _=>simp only[PV.zX,h1]
  have h4:(a0J (NW P 8 t) p).flat=p.flat:=by unfold a0J; split<;>first | rfl | exact h3
  rw[oQ,PV.flats,PV.flats,h4,RD]
theorem uP:∀ {a b:bTA},PV.flats (a ++ b)=(PV.flats a&&PV.flats b)
 | [],b=>by rfl
 | p::a,b=>by simp[PV.flats,uP (a:=a),Bool.and_assoc]
theorem aFM {cp:CP} (hcm:QX cp) (hW:tX X.W) (hC:∀ g args h r h',X.C g args h=some (r,h')->rO X.E.P cp g args h r h') {dst:Option Nat} {g:FuncId} {full full':bTA} {ids:List Nat} (hconv:∀ (M:Mem) (B:aN) (vs:List Value),aj M B full' vs->aj M B full vs) (h:zA X dst g full ids K Z=some v) :
 ∃ r h',rO X.E.P cp g full' Z.h r (xx ids Z.h h')/\jB X.E dst r { Z with h:=xx ids Z.h h' } (fun Z'=>K Z'=some v):=by
 simp only[zA] at h;split at h
 .rename_i hok;unfold zq at h;split at h
  .rename_i r h' hr;have h:=Ud hW h;simp only[aSB,bF] at hok;obtain ⟨k1,k2,k3,k4⟩:=hok;have he:=(rO.sub hcm (hC _ _ _ _ _ hr) k1 (fun i hi=>by
    have:=iY.1 k2 i hi;simp_all) k3 (fun i cs hi hcs=>by
    have:=iY.1 k4 i hi;rw[a5L.2 hcs] at this; exact this)).args (az:=full') hconv
   grind [uA]
  .cases h
 .cases h
theorem aFL (hW:tX X.W) (hC:o7 X.E.P X.C) {dst:Option Nat} {g:FuncId} {full full':bTA} {ids:List Nat} (hconv:∀ (M:Mem) (B:aN) (vs:List Value),aj M B full' vs->aj M B full vs) (h:zA X dst g full ids K Z=some v) :
 ∃ r h',Ev X.E.P g full' Z.h r (xx ids Z.h h')/\jB X.E dst r { Z with h:=xx ids Z.h h' } (fun Z'=>K Z'=some v):=aFM (a3E _) hW hC hconv h
theorem aFN (hW:tX X.W) (hC:o7 X.E.P X.C) {dst:Option Nat} {g:FuncId} {full full':bTA} {ids:List Nat} (hconv:∀ (M:Mem) (B:aN) (vs:List Value),aj M B full' vs->aj M B full vs) (h:zA X dst g full ids K Z=some v) :
 RQ X.E g full' dst (fun Z'=>K Z'=some v) Z:=by
 obtain ⟨r,h',h1,h2⟩:=aFL hW hC hconv h;exact ⟨r,_,h1,h2⟩
theorem bL6 {E:AE} {ids:List Nat} {H:aG} (h:aQF E.ln ids H.length=true) (h':aG):ED E (xx ids H h') H:=by
 intro i hi;have hm:1000000+i∈E.ln:=by simp_all
 have:=iY.1 h _ hm;rw[show Nat.ble 1000000 (1000000+i)=true by rw[Nat.ble_eq]; omega,a1R] at this;simp only[bF,xW] at this;obtain ⟨h1,h2⟩:=this;have hlt:i<H.length:=by simp_all
 have hni:i∉ids:=fun hc=>by rw[ZF.2 hc] at h2; cases h2
 grind [xx,LQ,V5]
theorem aZ0 (hW:tX X.W) (hC:o7 X.E.P X.C) {f:Operand} {args:List Operand} (h:Jb X true o f args K Z=some v) :
 ∃ g first caps az,Z.rd f=some (.func (.func g) first caps)/\jc (args.map Z.rd)=some az/\a3C X.E g (first ++ az ++ caps) o.dst (fun Z'=>K Z'=some v) Z:=by
 unfold Jb at h;split at h
 .rename_i g first caps az hf ha
  try simp only[uH,Bool.false_and] at h
  have hconv:∀ (M:Mem) (B:aN) (vs:List Value),aj M B (first ++ az ++ caps) vs->aj M B (first ++ oQ X.E.P (rY X.E o) az ++ caps) vs:=fun M B vs hv=>by grind [a0H,E8,X4]
  split at h
  .rename_i hfl;unfold jJ at h;split at h
   .rename_i r hr;have h:=Ud hW h;try simp only[uH,Bool.false_and] at h
    split at h
    .rename_i hrf;exact ⟨g,first,caps,az,hf,ha,aED ((hC _ _ _ _ _ hr).args hconv) hrf (by rw[uP,uP,RD] at hfl; rw[uP,uP]; exact hfl) (uA h)⟩
    .cases h
   .cases h
  .split at h
   .rename_i hsy;rw[bF] at hsy;obtain ⟨r,h',h1,h2⟩:=aFL hW hC hconv h;exact ⟨g,first,caps,az,hf,ha,.inr ⟨hsy.1,r,_,h1,bL6 hsy.2 h',h2⟩⟩
   .cases h
 .cases h
theorem aPY (f:Nat->Nat):∀ {cs:bTA},cs.all oZ=true->kF f cs=cs
 | [],_=>by simp[kF]
 | p::cs,h=>by rw[Ac,bF] at h;have h1:=h.1;unfold oZ at h1;rw[bF] at h1;rw[kF,aPX f p h1.2,aPY f h.2]
theorem bKL (f:Nat->Nat) {o:Option (bTA)} (h:Kw o=true):lg f o=o:=by
 cases o with
 | none=>rfl
 | some cs=>simp only[lg]; rw[aPY f h]
theorem a0E (f:Nat->Nat):∀ {h:aG},h.all Kw=true->h.map (lg f)=h
 | [],_=>rfl
 | o::h,e=>by rw[Ac,bF] at e;rw[oN,bKL f e.1,a0E f e.2]
theorem aDP (D:Nat->Bool):∀ {cs:bTA},cs.all oZ=true->PV.nO D cs=true
 | [],_=>by rfl
 | p::cs,h=>by rw[Ac,bF] at h;have h1:=h.1;unfold oZ at h1;rw[bF] at h1;rw[PV.nO,aDQ p h1.2,aDP D h.2]; rfl
theorem aVU (ids:List Nat) (H:aG) {h':aG} (e:h'.all Kw=true):xx ids H h'=aAZ ids H h':=by
 unfold xx aAZ;have e1:(h'.take ids.length).all Kw=true:=iY.2 fun x hx=>iY.1 e x (QP hx)
 have e2:(h'.drop ids.length).all Kw=true:=iY.2 fun x hx=>iY.1 e x (List.mem_of_mem_drop hx)
 rw[a0E _ e1,a0E _ e2]
theorem aFO (hW:tX X.W) (hC:o7 X.E.P X.C) {dst:Option Nat} {g:FuncId} {full full':bTA} {ids:List Nat} (hconv:∀ (M:Mem) (B:aN) (vs:List Value),aj M B full' vs->aj M B full vs) (h:Jc X dst g full ids K Z=some v):RQ X.E g full' dst (fun Z'=>K Z'=some v) Z:=by
 simp only[Jc] at h;split at h
 .rename_i hok;obtain ⟨c1,h⟩:=gI h;unfold zq at h;split at h
  .rename_i r h' hr;have h:=Ud hW h;obtain ⟨c2,h⟩:=gI h;simp only[bF] at hok;obtain ⟨k1,k2,k3⟩:=hok;rw[<- a0E (tq _) c1] at hr;have he:=(Ev.sub (hC _ _ _ _ _ hr) k1 (fun i hi=>by
    have:=iY.1 k2 i hi;simp_all) k3 (fun i cs hi hcs=>by
    have:=iY.1 c1 (qA Z.h i) (List.mem_map_of_mem hi);rw[a5L.2 hcs] at this;exact aDP _ this)).args (az:=full') hconv
   rw[aVU _ _ c2] at he;exact ⟨_,_,he,uA h⟩
  .cases h
 .cases h
theorem aY' (hW:tX X.W) (hC:o7 X.E.P X.C) {f:Operand} {args:List Operand} (h:Jb X false o f args K Z=some v) :
 ∃ g first caps az,Z.rd f=some (.func (.func g) first caps)/\jc (args.map Z.rd)=some az/\RQ X.E g (first ++ az ++ caps) o.dst (fun Z'=>K Z'=some v) Z:=by
 unfold Jb at h;split at h
 .rename_i g first caps az hf ha
  have hconv:∀ (M:Mem) (B:aN) (vs:List Value),aj M B (first ++ az ++ caps) vs->aj M B (first ++ oQ X.E.P (rY X.E o) az ++ caps) vs:=fun M B vs hv=>by grind [a0H,E8,X4]
  split at h
  grind [aFO,aFN]
  split at h
  .rename_i hfl;unfold jJ at h;split at h
   .rename_i r hr;have h:=Ud hW h;split at h
    .unfold a3Y at h;split at h
     .rename_i es;obtain ⟨h1,h2⟩:=gI h;simp only[bF,lw] at h1;exact ⟨g,first,caps,az,hf,ha,_,_,(Ev.thaw (H:=Z.h) (hC _ _ _ _ _ hr) hfl h1.1 h1.2).args hconv,uA h2⟩
     .rename_i sz es _ _;by_cases hpos:0<es.length
      .rw[decide_eq_true hpos] at h;obtain ⟨h1,h2⟩:=gI h;exact ⟨g,first,caps,az,hf,ha,_,_,(Ev.bNB (H:=Z.h) (hC _ _ _ _ _ hr) hfl hpos h1).args hconv,uA h2⟩
      .rw[decide_eq_false hpos] at h;have e0:es = []:=kU (by omega);subst e0;exact ⟨g,first,caps,az,hf,ha,a3D ((hC _ _ _ _ _ hr).args hconv) rfl (by rw[uP,uP,RD] at hfl; rw[uP,uP]; exact hfl) (uA h)⟩
     .cases h
    .split at h
     .rename_i hrf;exact ⟨g,first,caps,az,hf,ha,a3D ((hC _ _ _ _ _ hr).args hconv) hrf (by rw[uP,uP,RD] at hfl; rw[uP,uP]; exact hfl) (uA h)⟩
     .cases h
   .cases h
  .split at h
   simp_all
   .split at h
    .unfold a3W at h;obtain ⟨h1,h2⟩:=gI h;unfold jJ at h2;split at h2
     .rename_i r hr;have h2:=Ud hW h2;split at h2
      .rename_i hrn;exact ⟨g,first,caps,az,hf,ha,_,_,(Ev.bFH (hC _ _ _ _ _ hr) hrn h1).args hconv,uA h2⟩
      .cases h2
     .cases h2
    grind [aFO,aFN]
 .cases h
theorem aFK (hV:yN X.V) (hC:o7 X.E.P X.C) {f:Operand} {args:List Operand} (h:Xp X o f args K Z=some v) :
 ∃ g first caps az r,Z.rd f=some (.func (.func g) first caps)/\jc (args.map Z.rd)=some az/\Ev X.E.P g (first ++ az ++ caps) [] r []/\r.flat=true/\PV.flats (first ++ az ++ caps)=true/\jB X.E o.dst r Z (fun Z'=>K Z'=some v):=by
 unfold Xp at h;split at h
 .rename_i p az hf ha;obtain ⟨g,first,caps,rfl,h⟩:=a'4 h;obtain ⟨hfl,h⟩:=gI h;have hconv:∀ (M:Mem) (B:aN) (vs:List Value),aj M B (first ++ az ++ caps) vs->aj M B (first ++ oQ X.E.P (rY X.E o) az ++ caps) vs:=fun M B vs hv=>by grind [a0H,E8,X4]
  unfold jJ at h;split at h
  .rename_i r hr;have h:=QB hV h;split at h
   .rename_i hrf;exact ⟨g,first,caps,az,r,hf,ha,(hC _ _ _ _ _ hr).args hconv,hrf,by rw[uP,uP,RD] at hfl; rw[uP,uP]; exact hfl,uA h⟩
   .cases h
  .cases h
 .cases h
theorem aFH (hV:yN X.V) (hW:tX X.W) (hC:o7 X.E.P X.C) (h:HY X false o K Z=some v):wU X.E o (fun Z'=>K Z'=some v) Z:=by
 unfold HY at h;split at h
 grind [aFK,a3D,aY',wU]
 .rename_i hc;rw[aVF hc];split at h
  simp_all
  .split at h
   .rename_i es pos hn;refine .inr ?_;unfold UV;rw[hn];intro b hb;obtain ⟨h1,h2⟩:=bH2 h;cases b
    .exact uA h1
    grind [uA]
   .exact .inl (aFP hV hc h)
theorem aFI (hV:yN X.V) (hW:tX X.W) (hC:o7 X.E.P X.C) (h:HY X true o K Z=some v):BB X.E o (fun Z'=>K Z'=some v) Z:=by grind [HY,BB,aFK,aED,aZ0,aFP]
theorem aND {d:Nat} {b:Bool} (h:bT d Z.s=some (.bool b)):Z.lit d b=Z:=by unfold ASt.lit; rw[aA' h]
theorem Ro (hV:yN X.V) (hW:tX X.W) (hC:o7 X.E.P X.C):∀ (l:List Oper) {K:ASt->R} {Z:ASt},jf X false ops l K Z=some v->lD X.E ops l (fun Z'=>K Z'=some v) Z
 | [],K,Z,h=>h
 | o::l,K,Z,h=>by
  have ih:∀ Z,jf X false ops l K Z=some v->lD X.E ops l (fun Z'=>K Z'=some v) Z:=fun Z h=>Ro hV hW hC l h
  rw[jf] at h;rw[lD];split at h
  grind [XB,aFH]
  .rename_i j want hg;simp only[hg,zu];split at h
   grind [xO,uA]
   .rename_i d hd;simp only[hd];split at h
    .rename_i b hb;simp only[hb];have key:Ha X false o d want b (jf X false ops l K) Z=some v:=by
      cases b
      .exact h
      .exact h
     grind [Ha,aND,XB,aFH,xO,uA]
    grind [xO,uA]
    .cases h
theorem a3X (hV:yN X.V) (hW:tX X.W) (hC:o7 X.E.P X.C):∀ (l:List Oper) {K:ASt->R} {Z:ASt},jf X true ops l K Z=some v->rW X.E ops l (fun Z'=>K Z'=some v) Z
 | [],K,Z,h=>h
 | o::l,K,Z,h=>by
  have ih:∀ Z,jf X true ops l K Z=some v->rW X.E ops l (fun Z'=>K Z'=some v) Z:=fun Z h=>a3X hV hW hC l h
  rw[jf] at h;rw[rW];split at h
  grind [XA,aFI]
  .rename_i j want hg;simp only[hg,zu];split at h
   grind [xO,uA]
   .rename_i d hd;simp only[hd];split at h
    .rename_i b hb;simp only[hb];have key:Ha X true o d want b (jf X true ops l K) Z=some v:=by
      cases b
      .exact h
      .exact h
     grind [Ha,aND,XA,aFI,xO,uA]
    grind [xO,uA]
    .cases h
def I7 (X:XE):Prop:=∀ l m x (K:AX->ASt->R) Z v,X.L l m x K (Z.gc l m)=some v->aNN X.m0 (dD X.E X.m0 x) (fun e Z'=>K e Z'=some v) Z
theorem aFQ (hV:yN X.V) (hW:tX X.W) (hC:o7 X.E.P X.C) {K:ASt->R}:∀ (fuel:Nat) {L:Array Bool} {Z:ASt},Eo X ops K fuel L Z=some v->JG X.E ops (fun Z'=>K Z'=some v) fuel L Z
 | 0,L,Z,h=>by
  unfold Eo at h;split at h
  .rename_i hr; exact ⟨hr,h⟩
  .cases h
 | fuel+1,L,Z,h=>by
  unfold Eo at h;split at h
  .rename_i hr; exact ⟨fun _=>h,fun i hi=>by rw[hr] at hi; simp[Hf] at hi⟩
  .rename_i a l hr;refine ⟨fun e=>(by rw[hr] at e; cases e),fun i hi => ?_⟩;rw[hr] at hi;have h1:=aDN h _ (qR.2 ⟨i,hi,rfl⟩);cases ho:ops[i]? with
   | none=>rw[ho] at h1; cases h1
   | some o =>rw[ho] at h1;obtain ⟨Z',h2,h3⟩:=aVG (a3X hV hW hC [o] h1);exact ⟨o,rfl,Z',h2,aFQ hV hW hC fuel h3⟩
theorem og {k:ASt->R}:∀ (ks:List Nat) {Z:ASt} {v:PV×aG},mf k ks Z=some v->∃ ks',k (xy ks' Z)=some v
 | [],Z,v,h=>⟨[],h⟩
 | d::ds,Z,v,h=>by
  unfold mf at h;split at h
  .rename_i hd;split at h
   .rename_i i hs;split at h
    .rename_i p hc;obtain ⟨h1,h2⟩:=gI h;obtain ⟨ks',h3⟩:=og ds h2;refine ⟨d::ks',?_⟩;have:ww d Z=⟨iI (d-9000000) (.cst ((lF p.length p 1).headD .nilp)) Z.s,Z.h.set i none⟩:=by simp only[ww,hd,Y7,hs,hc,h1]
     rw[xy,this]; exact h3
    .exact og ds h
   .exact og ds h
  rename_i hd9;split at h
  .rename_i hd;split at h
   .rename_i i2 hs;split at h
    .rename_i cs0 hc;split at h
     .rename_i i n sz hj;split at h
      .rename_i cs hi;obtain ⟨h1,h2⟩:=gI h;obtain ⟨ks',h3⟩:=og ds h2;refine ⟨d::ks',?_⟩;have:ww d Z=⟨Z.s,(Z.h.set i none).set i2 (some (cs0.set ((d-5000000) % 100) (.sl false sz (lF sz cs n))))⟩:=by simp only[ww,hd9,hd,Y5,hs,hc,hj,hi,h1]
       rw[xy,this]; exact h3
      .exact og ds h
     .exact og ds h
    .exact og ds h
   .exact og ds h
  rename_i hd5;split at h
  .rename_i hd;split at h
   .rename_i i hs;split at h
    .rename_i cs0 hc;split at h
     .rename_i n sz cs hj;cases hn:Nat.ble 1 n with
      | true =>rw[hn,aA] at h;obtain ⟨ks',h3⟩:=og ds h;refine ⟨d::ks',?_⟩;rw[xy];simp only[ww,hd9,hd5,hd,VJ,hs,hc,hj,hn];exact h3
      | false =>rw[hn,aA] at h;obtain ⟨ks',h3⟩:=og ds h;refine ⟨d::ks',?_⟩;rw[xy];simp only[ww,hd9,hd5,hd,VJ,hs,hc,hj,hn];exact h3
     .exact og ds h
    .exact og ds h
   .exact og ds h
  rename_i hd4;split at h
  .rename_i hd;split at h
   .rename_i n sz cs hs;split at h
    .obtain ⟨hn,h⟩:=gI h;obtain ⟨ks',h3⟩:=og ds h;refine ⟨d::ks',?_⟩;rw[xy];simp only[ww,hd9,hd5,hd4,hd,Q3,hs,hn];exact h3
    cases hn:Nat.ble 1 n with
    | true =>rw[hn,aA] at h;obtain ⟨ks',h3⟩:=og ds h;refine ⟨d::ks',?_⟩;rw[xy];simp only[ww,hd9,hd5,hd4,hd,Q3,hs,hn];exact h3
    | false =>rw[hn,aA] at h;obtain ⟨ks',h3⟩:=og ds h;refine ⟨d::ks',?_⟩;rw[xy];simp only[ww,hd9,hd5,hd4,hd,Q3,hs,hn];exact h3
   .exact og ds h
  rename_i hd3;split at h
  .rename_i hd;split at h
   .rename_i i n sz hs;split at h
    .rename_i cs hc;obtain ⟨h1,h2⟩:=gI h;obtain ⟨ks',h3⟩:=og ds h2;refine ⟨d::ks',?_⟩;have:ww d Z=⟨iI (d-1000000) (.sl false sz (lF sz cs n)) Z.s,Z.h.set i none⟩:=by simp only[ww,hd9,hd5,hd4,hd3,hd,Y8,hs,hc,h1]
     rw[xy,this]; exact h3
    .exact og ds h
   .exact og ds h
  .obtain ⟨ks',h3⟩:=og ds h;exact ⟨d::ks',h3⟩
theorem vN (hV:yN X.V) (hW:tX X.W) (hC:o7 X.E.P X.C) (hL:I7 X):∀ (c:Code) {K:AX->ASt->R} {Z:ASt},bG X c K Z=some v->dD X.E X.m0 c (fun e Z'=>K e Z'=some v) Z
 | .skip,K,Z,h=>h
 | .label _,K,Z,h=>h
 | .exit _,K,Z,h=>h
 | .ret,K,Z,h=>h
 | .region _ ops draw,K,Z,h=>by
  simp only[bG] at h;rw[dD];cases draw with
  | false=>grind [Ro]
  | true =>
   cases hok:okD X.E ops with
   | true =>simp only[hok] at h;exact .inl ⟨hok,a3X hV hW hC _ h⟩
   | false =>simp only[hok] at h;exact .inr (aFQ hV hW hC _ h)
 | .seq x y,K,Z,h=>by
  simp only[bG] at h;rw[dD];refine xw x (fun e Z' he => ?_) (vN hV hW hC hL x h);cases e with
  | normal =>
   have he:uT X.E X.m0 y (bG X y K) Z'=some v:=he;have hj:∀ Z',Df X.E X.m0 y (bG X y K) Z'=some v->dD X.E X.m0 y (fun e Z=>K e Z=some v) Z'\/∃ l m,X.m0<=m/\DR l m Z'=true/\dD X.E X.m0 y (fun e Z=>K e Z=some v) (Z'.gc l m):=fun Z' he=>by
    unfold Df at he;cases hl:X.E.jt.lookup (Be y) with
    | none=>rw[hl] at he; exact .inl (vN hV hW hC hL y he)
    | some l =>
     rw[hl] at he;simp only at he;obtain ⟨hpl,he⟩:=gI he;split at he
     .rename_i hg;simp only[bF,lw] at hg;exact .inr ⟨l,_,hg.1,a5I hpl hg.2,vN hV hW hC hL y he⟩
     .cases he
   unfold uT at he;split at he
   .obtain ⟨ks,he⟩:=og _ he;exact ⟨ks,hj _ he⟩
   .exact ⟨[],hj _ he⟩
  | ret=>exact he
  | exit i=>exact he
 | .cond c x y,K,Z,h=>by
  simp only[bG] at h;rw[dD];split at h
  .rename_i b hb;simp only[hb];split at h
   .rename_i d;cases b with
    | true =>have h:bG X x K (Z.lit d true)=some v:=h;rw[a0D hb] at h;exact ⟨fun _=>vN hV hW hC hL x h,fun e=>by cases e⟩
    | false =>have h:bG X y K (Z.lit d false)=some v:=h;rw[a0D hb] at h;exact ⟨fun e=>(by cases e),fun _=>vN hV hW hC hL y h⟩
   .cases b with
    | true=>exact ⟨fun _=>vN hV hW hC hL x h,fun e=>by cases e⟩
    | false=>exact ⟨fun e=>(by cases e),fun _=>vN hV hW hC hL y h⟩
  .cases h
 | .block id x,K,Z,h=>by
  simp only[bG] at h;rw[dD];refine xw x (fun e Z' he => ?_) (vN hV hW hC hL x h);cases e with
  | normal=>exact he
  | ret=>exact he
  | exit i =>
   simp only[bI] at he;simp only[NV];split at he
   .rename_i e; rw[aS e]; exact he
   .rename_i e; rw[aQ e]; exact he
 | .scope x,K,Z,h=>by simp only[bG] at h;rw[dD];exact vN hV hW hC hL x h
 | .loop x,K,Z,h=>by simp only[bG] at h;rw[dD];exact hL _ _ _ _ _ _ h
 | .rangeFunc _ _ _ _,K,Z,h=>by simp[bG] at h
 | .goto _,K,Z,h=>by simp[bG] at h
 | .refuse _,K,Z,h=>by simp[bG] at h
end
structure wO where
 vars:List Nat
 mv:List Nat
 mu:List Nat
 sz:List (Nat×List Nat)
 jt:List (Nat×List Nat)
 lt:List (Nat×List Nat)
 pt:List (Nat×List Nat)
 fz:List Nat
 ro:List (List Nat×Bool)
 ft:List (Nat×List Nat) := []
 sy:List Nat := []
 ln:List Nat := []
 df:Bool:=false
abbrev xg:=AE->Nat->List Nat->Nat->Code->(AX->ASt->R)->ASt->R
structure SE where
 P:Program
 iF:FuncId->wO
 V:TypeId->PV->(PV->R)->R
 W:FuncId->aG->PV->aG->(PV->aG->R)->R
 C0:Cal
def SE.ae (S:SE) (g:FuncId) (n:Nat):AE:=⟨S.P,n,(S.iF g).vars,(S.iF g).mv,(S.iF g).mu,(S.iF g).sz,(S.iF g).jt,(S.iF g).lt,(S.iF g).pt,(S.iF g).fz,(S.iF g).ft,(S.iF g).sy,(S.iF g).ln⟩
def SE.xe (S:SE) (C:Cal) (L:xg) (E:AE) (m0:Nat):XE:=⟨E,C,S.V,S.W,L E m0,m0⟩
def LW:PV->Nat
 | .ptr i _=>i+1
 | .tuple ps=>PV.Fq ps
 | _=>0
def aQD (P:Program) (rs:List ResultVar) (Z:ASt):Option PV:=match rs with
 | [x]=>resV P Z x
 | rs=>(jc (rs.map (resV P Z))).map fun ps=>PV.tuple (ps.map PV.un)
def aRI:PV->List Nat
 | .tuple ps=>DI ps
 | _ => []
def FZ (P:Program) (rs:List ResultVar) (ro:List (List Nat×Bool)) (m0:Nat) (fl:List Nat) (Z:ASt):R:=match aQD P rs Z with
 | some r=>chk (plainO (Z.h.take (Nat.max m0 (LW r))) (wQ fl (aRI r))) (match decide (Nat.max m0 (LW r)<=Z.h.length)&&(r.blw (Nat.max m0 (LW r))&&zl (Nat.max m0 (LW r)) (Io (wQ fl (aRI r)) 0 (Z.h.take (Nat.max m0 (LW r))))) with
  | true=>some (wu ro r,Z.h.take (Nat.max m0 (LW r)))
  | false=>none)
 | none=>none
def FY (P:Program) (rs:List ResultVar) (ro:List (List Nat×Bool)) (m0:Nat) (fl:List Nat):AX->ASt->R
 | .normal,Z=>FZ P rs ro m0 fl Z
 | .ret,Z=>FZ P rs ro m0 fl Z
 | .exit _,_=>none
def bDI (o:Oper):Bool:=match o.op with | .defer _=>true | _=>false
def DW:Code->Bool
 | .region _ ops draw => !draw&&ops.toList.any bDI
 | .seq x y=>DW x||DW y
 | .cond _ x y=>DW x||DW y
 | .block _ x=>DW x
 | _=>false
def a0U:List Oper->Option (List Oper×Oper×Call×List Oper)
 | []=>none
 | o::l=>match o.op with
  | .defer c=>some ([],o,c,l)
  | _=>(match a0U l with | some (a,o',c,b)=>some (o::a,o',c,b) | none=>none)
abbrev N9:=Nat->FuncId->bTA->AX->ASt->R
def Xc (m0:Nat) (o:Oper) (c:Call) (K:Nat->FuncId->bTA->ASt->R) (Z:ASt):R:=match o.guard,o.dst,c.callee with
 | none,none,.value f=>(match Z.rd f,jc (c.args.toList.map Z.rd) with
  | some (.func (.func g) first caps),some az=>(match PV.blws (Nat.max m0 (PV.Fq (first ++ az ++ caps))) (first ++ az ++ caps) with
   | true=>K (Nat.max m0 (PV.Fq (first ++ az ++ caps))) g (first ++ az ++ caps) Z
   | false=>none)
  | _,_=>none)
 | _,_,_=>none
def SE.ru (S:SE) (C:Cal) (L:xg) (E:AE) (m0:Nat):Code->(AX->ASt->R)->N9->ASt->R
 | .seq x y,K0,KD,Z=>(match DW x with
  | true=>S.ru C L E m0 x (vz (uT E m0 y (bG (S.xe C L E m0) y K0)) K0) (fun m g ps=>vz (uT E m y (bG (S.xe C L E m) y (KD m g ps))) (KD m g ps)) Z
  | false=>bG (S.xe C L E m0) x (vz (S.ru C L E m0 y K0 KD) K0) Z)
 | .cond c x y,K0,KD,Z=>(match Z.rd c with
  | some (.bool b)=>(match c with
   | .tmp d=>aA b (match DW x with | true=>S.ru C L E m0 x K0 KD (Z.lit d true) | false=>bG (S.xe C L E m0) x K0 (Z.lit d true)) (match DW y with | true=>S.ru C L E m0 y K0 KD (Z.lit d false) | false=>bG (S.xe C L E m0) y K0 (Z.lit d false))
   | _=>none)
  | _=>none)
 | .block id x,K0,KD,Z=>S.ru C L E m0 x (bI id K0) (fun m g ps=>bI id (KD m g ps)) Z
 | .region _ ops draw,_,KD,Z=>(match draw with
  | true=>none
  | false=>(match a0U ops.toList with
   | some (pre,o,c,post)=>jf (S.xe C L E m0) false ops pre (Xc m0 o c fun m g ps=>jf (S.xe C L E m0) false ops post (KD m g ps .normal)) (Z.head E)
   | none=>none))
 | _,_,_,_=>none
def SE.CD (S:SE) (C:Cal):Cal:=fun g args h=>match S.C0 g args h with
 | some _=>none
 | none=>(match (S.iF g).df with | true=>none | false=>C g args h)
def SE.V4 (S:SE) (C:Cal) (L:xg) (E:AE) (rs:List ResultVar) (ro:List (List Nat×Bool)) (m0:Nat) (fl:List Nat):N9:=fun _ g ps e Z=>match e with
 | .exit _=>none
 | _=>zA (S.xe (S.CD C) L E m0) none g ps (H8 Z.h 3 (wQ [] (PV.xA ps))) (FZ S.P rs ro m0 fl) Z
def SE.run (S:SE) (C:Cal) (L:xg) (g:FuncId) (args:bTA) (h:aG):R:=match S.P.funcs[g]? with
 | some fn=>(match fn.body with
  | some c=>(match decide (args.length<=fn.ntmps)&&(fn.name != "runtime.NumGoroutine") with
   | true=>(match (S.iF g).df with
    | false=>bG (S.xe C L (S.ae g fn.ntmps) h.length) c (FY S.P fn.results.toList (S.iF g).ro h.length (DI args)) ⟨lh 0 args,h⟩
    | true=>S.ru C L (S.ae g fn.ntmps) h.length c (FY S.P fn.results.toList (S.iF g).ro h.length (DI args)) (S.V4 C L (S.ae g fn.ntmps) fn.results.toList (S.iF g).ro h.length (DI args)) ⟨lh 0 args,h⟩)
   | false=>none)
  | none=>none)
 | none=>none
def SE.wp (S:SE) (E:AE):AE := { E with P:=S.P }
def SE.turn (S:SE) (C:Cal) (L:xg):xg:=fun E m0 l m x K Z =>
 chk (FP l m Z) (match decide (m0<=m)&&DT l m Z with
 | true=>bG (S.xe C L (S.wp E) m0) x (vz (fun Z'=>L E m0 l m x K (Z'.gc l m)) K) (Z.gc l m)
 | false=>none)
def FM (a b:R):R:=match a with | some x=>some x | none=>b
def SE.ah (S:SE):Nat->Cal×xg
 | 0=>(S.C0,fun _ _ _ _ _ _ _=>none)
 | n+1=>(fun g args h=>FM (S.C0 g args h) (S.run (S.ah n).1 (S.ah n).2 g args h),S.turn (S.ah n).1 (S.ah n).2)
open Classical in
def lim (f:Nat->R):R:=if h:∃ n v,f n=some v then some (Classical.choose (Classical.choose_spec h)) else none
def SE.CC (S:SE):Cal:=fun g args h=>lim fun n=>(S.ah n).1 g args h
def SE.LL (S:SE):xg:=fun E m0 l m x K Z=>lim fun n=>(S.ah n).2 E m0 l m x K Z
structure SE.OK (S:SE):Prop where
 V:yN S.V
 W:tX S.W
section
variable {S:SE}
theorem a5J (l:List Nat) (m:Nat) (Z:ASt):(Z.gc l m).gc l m=Z.gc l m:=by grind [ASt.gc,List.filter_filter]
theorem bB' (l:List Nat) (m:Nat) (Z:ASt):DT l m (Z.gc l m)=DT l m Z:=by unfold DT; rw[a5J]
theorem bJY (l:List Nat) (m:Nat) (Z:ASt):FP l m (Z.gc l m)=FP l m Z:=by unfold FP; rw[a5J]
theorem bNR (C:Cal) (L:xg) (E:AE) (m0:Nat) (l:List Nat) (m:Nat) (x:Code) (K:AX->ASt->R) (Z:ASt):S.turn C L E m0 l m x K (Z.gc l m)=S.turn C L E m0 l m x K Z:=by unfold SE.turn; rw[bB',bJY,a5J]
variable {ι:Type} {Good:(ι->R)->Prop} (F:JI Good) (hS:S.OK) {C:ι->Cal} {L:ι->xg} (hC:∀ g args h,Good fun i=>C i g args h)
 (hL:∀ (E:AE) (m0:Nat) (l:List Nat) (m:Nat) (x:Code) (K:ι->AX->ASt->R) (Z:ASt),(∀ e Z,Good fun i=>K i e Z)->Good fun i=>L i E m0 l m x (K i) Z)
include F hS hC hL in
theorem Js {E:AE} {m0:Nat} (c:Code) {K:ι->AX->ASt->R} {Z:ASt} (h:∀ e Z,Good fun i=>K i e Z):Good fun i=>bG (S.xe (C i) (L i) E m0) c (K i) Z :=DU F (X:=S.xe (fun _ _ _=>none) (fun _ _ _ _ _ _ _=>none) E m0) (C:=C) (L:=fun i=>L i E m0) hS.V hS.W hC (fun l m x K Z h=>hL E m0 l m x K Z h) c h
include F hS hC hL in
theorem aK8 {E:AE} {m0:Nat} {ops:Array Oper} (l:List Oper) {K:ι->ASt->R} {Z:ASt} (h:∀ Z,Good fun i=>K i Z):Good fun i=>jf (S.xe (C i) (L i) E m0) false ops l (K i) Z :=TN F (X:=S.xe (fun _ _ _=>none) (fun _ _ _ _ _ _ _=>none) E m0) (C:=C) (L:=fun i=>L i E m0) hS.V hS.W hC l h
include F hS hC hL in
theorem aK5 {E:AE} {m0:Nat} {y:Code} {K:ι->AX->ASt->R} {Z:ASt} (h:∀ e Z,Good fun i=>K i e Z):Good fun i=>uT E m0 y (bG (S.xe (C i) (L i) E m0) y (K i)) Z:=by
 have hj:∀ Z,Good fun i=>Df E m0 y (bG (S.xe (C i) (L i) E m0) y (K i)) Z:=fun Z=>by
  unfold Df;split
  .refine gm F ?_;split
   .exact Js F hS hC hL y h
   .exact F.no
  .exact Js F hS hC hL y h
 unfold uT;split
 .exact oh F hj _
 .exact hj _
include F in
theorem bC7 {m0:Nat} {o:Oper} {c:Call} {K:ι->Nat->FuncId->bTA->ASt->R} {Z:ASt} (h:∀ m g ps Z,Good fun i=>K i m g ps Z):Good fun i=>Xc m0 o c (K i) Z:=by
 unfold Xc;split
 .split
  .split
   .exact h _ _ _ _
   .exact F.no
  .exact F.no
 .exact F.no
include F hS hC hL in
theorem OO {E:AE} {m0:Nat}:∀ (c:Code) {K0:ι->AX->ASt->R} {KD:ι->N9} {Z:ASt},(∀ e Z,Good fun i=>K0 i e Z)->(∀ m g ps e Z,Good fun i=>KD i m g ps e Z)->Good fun i=>S.ru (C i) (L i) E m0 c (K0 i) (KD i) Z
 | .seq x y,K0,KD,Z,h,h'=>by
  simp only[SE.ru];split
  .exact OO x (fun e Z=>TP (fun Z=>aK5 F hS hC hL h) h e Z) (fun m g ps e Z=>TP (fun Z=>aK5 F hS hC hL (h' m g ps)) (h' m g ps) e Z)
  .exact Js F hS hC hL x fun e Z=>TP (fun Z=>OO y h h') h e Z
 | .cond c x y,K0,KD,Z,h,h'=>by
  simp only[SE.ru];split
  .split
   .refine zt F ?_ ?_
    .split
     .exact OO x h h'
     .exact Js F hS hC hL x h
    .split
     .exact OO y h h'
     .exact Js F hS hC hL y h
   .exact F.no
  .exact F.no
 | .block id x,K0,KD,Z,h,h'=>by simp only[SE.ru];exact OO x (fun e Z=>a5M h e Z) (fun m g ps e Z=>a5M (h' m g ps) e Z)
 | .region _ ops draw,K0,KD,Z,h,h'=>by
  simp only[SE.ru];split
  .exact F.no
  .split
   .exact aK8 F hS hC hL _ fun Z=>bC7 F fun m g ps Z=>aK8 F hS hC hL _ fun Z=>h' m g ps .normal Z
   .exact F.no
 | .skip,K0,KD,Z,h,h'=>F.no
 | .label _,K0,KD,Z,h,h'=>F.no
 | .exit _,K0,KD,Z,h,h'=>F.no
 | .ret,K0,KD,Z,h,h'=>F.no
 | .scope _,K0,KD,Z,h,h'=>F.no
 | .loop _,K0,KD,Z,h,h'=>F.no
 | .rangeFunc _ _ _ _,K0,KD,Z,h,h'=>F.no
 | .goto _,K0,KD,Z,h,h'=>F.no
 | .refuse _,K0,KD,Z,h,h'=>F.no
include F hS hC in
theorem bCH {E:AE} {rs:List ResultVar} {ro:List (List Nat×Bool)} {m0:Nat} {fl:List Nat} (m:Nat) (g:FuncId) (ps:bTA) (e:AX) (Z:ASt):Good fun i=>S.V4 (C i) (L i) E rs ro m0 fl m g ps e Z:=by
 have hC':∀ g args h,Good fun i=>S.CD (C i) g args h:=fun g args h=>by
  unfold SE.CD;split
  .exact F.no
  .split
   .exact F.no
   .exact hC _ _ _
 have hH:Good fun i=>zA (S.xe (S.CD (C i)) (L i) E m0) none g ps (H8 Z.h 3 (wQ [] (PV.xA ps))) (FZ S.P rs ro m0 fl) Z:=by
  simp only[zA];split
  .exact Z8 F hC' fun r h'=>OM (X:=S.xe (fun _ _ _=>none) (fun _ _ _ _ _ _ _=>none) E m0) F hS.W fun p q=>gJ F fun Z=>F.const _
  .exact F.no
 unfold SE.V4;cases e
 .exact hH
 .exact hH
 .exact F.no
include F hS hC hL in
theorem a5P {g:FuncId} {args:bTA} {h:aG}:Good fun i=>S.run (C i) (L i) g args h:=by
 unfold SE.run;split
 .split
  .split
   .split
    .exact Js F hS hC hL _ fun e Z=>F.const _
    .exact OO F hS hC hL _ (fun e Z=>F.const _) fun m g ps e Z=>bCH F hS hC m g ps e Z
   .exact F.no
  .exact F.no
 .exact F.no
include F hS hC hL in
theorem Z9 {E:AE} {m0:Nat} {l:List Nat} {m:Nat} {x:Code} {K:ι->AX->ASt->R} {Z:ASt} (h:∀ e Z,Good fun i=>K i e Z):Good fun i=>S.turn (C i) (L i) E m0 l m x (K i) Z:=by
 unfold SE.turn;refine gm F ?_;split
 .exact Js F hS hC hL _ fun e Z=>TP (fun Z=>hL _ _ _ _ _ _ _ h) h e Z
 .exact F.no
include F in
theorem a5O {a:R} {f:ι->R} (h:Good f):Good fun i=>FM a (f i):=by
 cases a
 .exact h
 .exact F.const _
theorem a5Q (F:JI Good) (hS:S.OK):∀ (n:Nat) (E:AE) (m0:Nat) (l:List Nat) (m:Nat) (x:Code) (K:ι->AX->ASt->R) (Z:ASt),(∀ e Z,Good fun i=>K i e Z)->Good fun i=>(S.ah n).2 E m0 l m x (K i) Z
 | 0,_,_,_,_,_,_,_,_=>F.no
 | n+1,_,_,_,_,_,_,_,h=>Z9 F hS (C:=fun _=>(S.ah n).1) (L:=fun _=>(S.ah n).2) (fun _ _ _=>F.const _) (a5Q F hS n) h
def CQ (F:Bool->R):Prop:=∀ v,F false=some v->F true=some v
theorem Jg:JI CQ:=⟨fun _ _ h=>h,fun c k hc hk v h=>by
 have h:(match c false with | some (r,h)=>k false r h | none=>none)=some v:=h;show (match c true with | some (r,h)=>k true r h | none=>none)=some v;cases hf:c false with
 | none=>rw[hf] at h; cases h
 | some x =>obtain ⟨r,hh⟩:=x;rw[hf] at h;rw[hc _ hf];exact hk r hh v h⟩
theorem Fb (hS:S.OK):∀ n,(∀ g args h v,(S.ah n).1 g args h=some v->(S.ah (n+1)).1 g args h=some v) /\
 (∀ E m0 l m x (K K':AX->ASt->R) Z v,(∀ e Z v,K e Z=some v->K' e Z=some v)->(S.ah n).2 E m0 l m x K Z=some v->(S.ah (n+1)).2 E m0 l m x K' Z=some v)
 | 0=>⟨fun g args h v hv=>by show FM (S.C0 g args h) _=some v; rw[show S.C0 g args h=some v from hv]; rfl,fun _ _ _ _ _ _ _ _ _ _ h=>by cases h⟩
 | n+1=>by
  obtain ⟨ih1,ih2⟩:=Fb hS n;have hC:∀ g args h,CQ fun i=>(bif i then (S.ah (n+1)).1 else (S.ah n).1) g args h:=fun g args h v hv=>ih1 g args h v hv
  have hL:∀ (E:AE) (m0:Nat) (l:List Nat) (m:Nat) (x:Code) (K:Bool->AX->ASt->R) (Z:ASt),(∀ e Z,CQ fun i=>K i e Z)->CQ fun i=>(bif i then (S.ah (n+1)).2 else (S.ah n).2) E m0 l m x (K i) Z :=fun E m0 l m x K Z hK v hv=>ih2 E m0 l m x _ _ Z v (fun e Z v h=>hK e Z v h) hv
  refine ⟨fun g args h v hv => ?_,fun E m0 l m x K K' Z v hK hv => ?_⟩
  .exact a5O Jg (a5P Jg hS hC hL) v hv
  .exact Z9 Jg hS hC hL (K:=fun i=>bif i then K' else K) (fun e Z v h=>hK e Z v h) v hv
theorem bF' (hS:S.OK) {E:AE} {m0:Nat} {l:List Nat} {m:Nat} {x:Code} {K:AX->ASt->R} {Z:ASt} {v:PV×aG} {n k:Nat} (hk:n<=k) (hv:(S.ah n).2 E m0 l m x K Z=some v):(S.ah k).2 E m0 l m x K Z=some v:=by
 induction hk with
 | refl=>exact hv
 | step _ ih=>exact (Fb hS _).2 _ _ _ _ _ _ _ _ _ (fun _ _ _ h=>h) ih
theorem aNP (hS:S.OK) (n:Nat) {E:AE} {m0:Nat} {l:List Nat} {m:Nat} {x:Code} {K K':AX->ASt->R} {Z:ASt} {v:PV×aG} (hK:∀ e Z v,K e Z=some v->K' e Z=some v) (hv:(S.ah n).2 E m0 l m x K Z=some v):(S.ah n).2 E m0 l m x K' Z=some v :=a5Q Jg hS n E m0 l m x (fun i=>bif i then K' else K) Z (fun e Z v h=>hK e Z v h) v hv
theorem a7R {f:Nat->R} (hm:∀ n v,f n=some v->f (n+1)=some v) {v:PV×aG}:lim f=some v↔∃ n,f n=some v:=by
 have hle:∀ {n k:Nat} {v:PV×aG},n<=k->f n=some v->f k=some v:=fun hk hv=>by
  induction hk with
  | refl=>exact hv
  | step _ ih=>grind
 have hu:∀ {n k:Nat} {v u:PV×aG},f n=some v->f k=some u->v=u:=fun {n k v u} h1 h2=>by have a:=hle (Nat.le_max_left n k) h1;have b:=hle (Nat.le_max_right n k) h2;rw[a] at b; injection b
 unfold lim;constructor
 .intro h;split at h
  grind
  .cases h
 .intro ⟨n,hn⟩;have hx:∃ n v,f n=some v:=⟨n,v,hn⟩;rw[dif_pos hx];grind
structure MX (F:Option Nat->R):Prop where
 mono:∀ n v,F (some n)=some v->F (some (n+1))=some v
 lim:∀ v,F none=some v↔∃ n,F (some n)=some v
theorem MX.le {F:Option Nat->R} (h:MX F) {n k:Nat} {v:PV×aG} (hk:n<=k) (hv:F (some n)=some v):F (some k)=some v:=by
 induction hk with
 | refl=>exact hv
 | step _ ih=>exact h.mono _ _ ih
theorem Ns:JI MX:=⟨fun c=>⟨fun _ _ h=>h,fun v=>⟨fun h=>⟨0,h⟩,fun ⟨_,h⟩=>h⟩⟩,fun c k hc hk=>by
 refine ⟨fun n v h => ?_,fun v=>⟨fun h => ?_,fun ⟨n,h⟩ => ?_⟩⟩
 .cases hf:c (some n) with
  | none=>rw[hf] at h; cases h
  | some x =>obtain ⟨r,hh⟩:=x;rw[hf] at h;rw[hc.mono _ _ hf];exact (hk r hh).mono _ _ h
 .cases hf:c none with
  | none=>rw[hf] at h; cases h
  | some x =>obtain ⟨r,hh⟩:=x;rw[hf] at h;obtain ⟨n1,h1⟩:=(hc.lim _).1 hf;obtain ⟨n2,h2⟩:=((hk r hh).lim v).1 h;refine ⟨max n1 n2,?_⟩;rw[hc.le (Nat.le_max_left n1 n2) h1];exact (hk r hh).le (Nat.le_max_right n1 n2) h2
 .cases hf:c (some n) with
  | none=>rw[hf] at h; cases h
  | some x =>obtain ⟨r,hh⟩:=x;rw[hf] at h;rw[(hc.lim _).2 ⟨n,hf⟩];exact ((hk r hh).lim v).2 ⟨n,h⟩⟩
def SE.aWW (S:SE):Option Nat->Cal | none=>S.CC | some n=>(S.ah n).1
def SE.bG0 (S:SE):Option Nat->xg | none=>S.LL | some n=>(S.ah n).2
theorem RU (hS:S.OK) (g:FuncId) (args:bTA) (h:aG):MX fun i=>S.aWW i g args h :=⟨fun n v hv=>(Fb hS n).1 g args h v hv,fun _=>a7R fun n v hv=>(Fb hS n).1 g args h v hv⟩
theorem a7Y (hS:S.OK) (E:AE) (m0:Nat) (l:List Nat) (m:Nat) (x:Code) (K:Option Nat->AX->ASt->R) (Z:ASt) (hK:∀ e Z,MX fun i=>K i e Z):MX fun i=>S.bG0 i E m0 l m x (K i) Z:=by
 have hl:∀ v,S.LL E m0 l m x (K none) Z=some v↔∃ n,(S.ah n).2 E m0 l m x (K none) Z=some v:=fun v=>a7R fun n v hv=>(Fb hS n).2 _ _ _ _ _ _ _ _ _ (fun _ _ _ h=>h) hv
 refine ⟨fun n v hv=>(Fb hS n).2 _ _ _ _ _ _ _ _ _ (fun e Z v h=>(hK e Z).mono n v h) hv,fun v=>⟨fun h => ?_,fun ⟨n,h⟩ => ?_⟩⟩
 .obtain ⟨n,hn⟩:=(hl v).1 h;obtain ⟨k,hk⟩:=((a5Q Ns hS n E m0 l m x K Z hK).lim v).1 hn;refine ⟨max n k,?_⟩;exact bF' hS (Nat.le_max_left n k) (aNP hS n (fun e Z v h=>(hK e Z).le (Nat.le_max_right n k) h) hk)
 .exact (hl v).2 ⟨n,aNP hS n (fun e Z v h=>((hK e Z).lim v).2 ⟨n,h⟩) h⟩
theorem MO (hS:S.OK) (g:FuncId) (args:bTA) (h:aG):S.CC g args h=FM (S.C0 g args h) (S.run S.CC S.LL g args h):=by
 have hg:=a5O Ns (a:=S.C0 g args h) (a5P Ns hS (RU hS) (a7Y hS) (g:=g) (args:=args) (h:=h));refine Option.ext fun v => ?_
 have h1:S.CC g args h=some v↔∃ n,(S.ah n).1 g args h=some v:=(RU hS g args h).lim v;have h2:FM (S.C0 g args h) (S.run S.CC S.LL g args h)=some v↔∃ n,(S.ah (n+1)).1 g args h=some v:=hg.lim v;rw[h1,h2];exact ⟨fun ⟨n,hn⟩=>⟨n,(Fb hS n).1 _ _ _ _ hn⟩,fun ⟨n,hn⟩=>⟨n+1,hn⟩⟩
theorem aD7 (hS:S.OK) (E:AE) (m0:Nat) (l:List Nat) (m:Nat) (x:Code) (K:AX->ASt->R) (Z:ASt):S.LL E m0 l m x K Z=S.turn S.CC S.LL E m0 l m x K Z:=by
 have hg:=Z9 Ns hS (RU hS) (a7Y hS) (E:=E) (m0:=m0) (l:=l) (m:=m) (x:=x) (K:=fun _=>K) (Z:=Z) fun e Z=>Ns.const _
 refine Option.ext fun v => ?_
 have h1:S.LL E m0 l m x K Z=some v↔∃ n,(S.ah n).2 E m0 l m x K Z=some v:=(a7Y hS E m0 l m x (fun _=>K) Z fun e Z=>Ns.const _).lim v;have h2:S.turn S.CC S.LL E m0 l m x K Z=some v↔∃ n,(S.ah (n+1)).2 E m0 l m x K Z=some v:=hg.lim v;rw[h1,h2];exact ⟨fun ⟨n,hn⟩=>⟨n,(Fb hS n).2 _ _ _ _ _ _ _ _ _ (fun _ _ _ h=>h) hn⟩,fun ⟨n,hn⟩=>⟨n+1,hn⟩⟩
theorem CY (hS:S.OK) {E:AE} {m0:Nat} {l:List Nat} {m:Nat} {x:Code} {K:AX->ASt->R} {Z:ASt} (hm:m0<=m) (hg:DT l m Z=true) (hP:S.wp E=E) :
 S.LL E m0 l m x K Z=chk (FP l m Z) (bG (S.xe S.CC S.LL E m0) x (vz (fun Z'=>S.LL E m0 l m x K (Z'.gc l m)) K) (Z.gc l m)):=by
 rw[aD7 hS]; grind [SE.turn]
theorem sZ (hS:S.OK) {g:FuncId} {args:bTA} {h:aG} (h0:S.C0 g args h=none):S.CC g args h=S.run S.CC S.LL g args h:=by rw[MO hS,h0]; rfl
theorem aAE {P:Program} {rs:List ResultVar} {ro:List (List Nat×Bool)} {m0:Nat} {fl:List Nat} {Z:ASt} {r:PV} {h':aG} (h:FZ P rs ro m0 fl Z=some (r,h')):∃ r0,LD P rs m0 r0 h' Z/\wu ro r0=r:=by
 unfold FZ at h;split at h
 .rename_i q hq;obtain ⟨hpl,h⟩:=gI h;split at h
  .rename_i hb;injection h with h
   injection h with h1 h2
   subst h1;simp only[bF,lw] at hb;obtain ⟨b1,b2,b3⟩:=hb;have hlen:h'.length=Nat.max m0 (LW q):=by rw[<- h2,wI]; omega
   refine ⟨q,⟨by rw[hlen]; grind,by rw[hlen]; exact h2,by rw[hlen]; exact b2,by rw[hlen,<- h2]; exact aE9 hpl b3,?_⟩,rfl⟩;grind [aQD]
  .cases h
 .cases h
theorem aRP:∀ {l:List Oper} {a:List Oper} {o:Oper} {c:Call} {b:List Oper},a0U l=some (a,o,c,b)->l=a ++ o::b/\o.op = .defer c
 | [],_,_,_,_,h=>by cases h
 | x::l,a,o,c,b,h=>by
  unfold a0U at h;split at h
  .rename_i hx; cases h; exact ⟨rfl,hx⟩
  .split at h
   .rename_i a' o' c' b' hs;cases h;obtain ⟨h1,h2⟩:=aRP hs;exact ⟨by rw[h1]; rfl,h2⟩
   .cases h
def QZ (M:Mem) (B:aN) (m:Nat) (g:FuncId) (ps:bTA) (d:Deferred):Prop:=∃ cap vals,d.target = .fn (.func g) cap/\d.args ++ cap=vals/\aj M (B.take m) ps vals.toList
section
variable {n:Nat} {out:Nat->Nat} {m m0:Nat} {M M':Mem} {B B':aN} {Z Z':ASt} {t t':Array Value} {w w':World} {g:FuncId} {ps:bTA} {d:Deferred}
theorem QZ.mono (h:QZ M B m g ps d) (hG:bz n out m M B Z t w M' B' Z' t' w'):QZ M' B' m g ps d:=by
 obtain ⟨cap,vals,h1,h2,h3⟩:=h;refine ⟨cap,vals,h1,h2,h3.mono ⟨hG.mem,fun i c hi => ?_⟩⟩;rw[lM] at hi ⊢;split at hi
 .rename_i hlt; rw[aS hlt]; exact hG.pre i c hlt hi
 .cases hi
theorem bz.lessM (h:bz n out m M B Z t w M' B' Z' t' w') (hm:m0<=m):bz n out m0 M B Z t w M' B' Z' t' w':=⟨h.inv,h.mem,fun i c hi e=>h.pre i c (QR hi hm) e,h.fr,h.own⟩
end
def UJ (E:AE) (out:Nat->Nat) (m0:Nat) (M:Mem) (B:aN) (Z:ASt) (t:Array Value) (w:World) (v:PV×aG) (K0:AX->ASt->R) (KD:N9) (e:Exit) (a':Act) (w':World):Prop :=∃ ax Z' M' B',e=ax.toExit/\bz E.n out m0 M B Z t w M' B' Z' a'.tmps w'/\((K0 ax Z'=some v/\a'.defers = [])\/∃ m g ps d,m0<=m/\a'.defers = [d]/\QZ M' B' m g ps d/\KD m g ps ax Z'=some v)
theorem bFM {E:AE} {out:Nat->Nat} {m0:Nat} {M M1:Mem} {B B1:aN} {Z Z1:ASt} {t t1:Array Value} {w w1:World} {v:PV×aG} {K0:AX->ASt->R} {KD:N9} (h:bz E.n out m0 M B Z t w M1 B1 Z1 t1 w1) {e:Exit} {a':Act} {w':World} (k:UJ E out m0 M1 B1 Z1 t1 w1 v K0 KD e a' w'):UJ E out m0 M B Z t w v K0 KD e a' w':=by obtain ⟨ax,Z',M',B',h1,h2,h3⟩:=k;exact ⟨ax,Z',M',B',h1,h.trans h2,h3⟩
theorem aLM {E:AE} {n:Nat} {out:Nat->Nat} {m0:Nat} {M:Mem} {B:aN} {Z:ASt} {t:Array Value} {w:World} {y:Code} {k:ASt->R} {v:PV×aG} (hI:Inv n M B out Z t w) (h:uT E m0 y k Z=some v) :
 ∃ M2 B2 Z2,bz n out m0 M B Z t w M2 B2 Z2 t w/\k Z2=some v:=by
 have hj:∀ {M1:Mem} {B1:aN} {Z1:ASt},bz n out m0 M B Z t w M1 B1 Z1 t w->Df E m0 y k Z1=some v->∃ M2 B2 Z2,bz n out m0 M B Z t w M2 B2 Z2 t w/\k Z2=some v:=fun {M1 B1 Z1} hG he=>by
  unfold Df at he;cases hl:E.jt.lookup (Be y) with
  | none=>rw[hl] at he; grind
  | some l =>
   rw[hl] at he;simp only at he;obtain ⟨hpl,he⟩:=gI he;split at he
   .rename_i hg;simp only[bF,lw] at hg;exact ⟨_,_,_,hG.trans (Ez hG.inv hg.1 (a5I hpl hg.2)),he⟩
   .cases he
 unfold uT at h;split at h
 .obtain ⟨ks,he⟩:=og _ h;obtain ⟨M2,B2,hz⟩:=Y6 (m0:=m0) ks hI;grind
 .exact hj (bz.refl hI) h
theorem Nj {C:Cal} {L:xg} {E:AE} {out:Nat->Nat} {m0:Nat} {v:PV×aG} (hm:E.P.follows .mixedOrders=true) (hS:S.OK) (hC:o7 E.P C) (hL:∀ m,I7 (S.xe C L E m)):∀ (c:Code) {K0:AX->ASt->R} {KD:N9} {M:Mem} {B:aN} {Z:ASt} {a:Act} {w:World},
 S.ru C L E m0 c K0 KD Z=some v->Inv E.n M B out Z a.tmps w->a.defers = []->c.wp E.P (UJ E out m0 M B Z a.tmps w v K0 KD) a w
 | .seq x y,K0,KD,M,B,Z,a,w,h,hI,hd0=>by
  simp only[SE.ru] at h;split at h
  .refine wp_seq (uy (Nj hm hS hC hL x h hI hd0) fun e a' w' hl => ?_);obtain ⟨ax,Z',M',B',rfl,hG,hl⟩:=hl;rcases hl with ⟨hq,hd⟩ | ⟨m,g,ps,d,hm0,hd,hD,hq⟩
   .cases ax with
    | normal =>
     obtain ⟨M2,B2,Z2,hj,hk⟩:=aLM hG.inv hq;refine uy (wV (m0:=m0) hm y hj.inv (vN (X:=S.xe C L E m0) hS.V hS.W hC (hL m0) y hk)) fun e a2 w2 hl2 => ?_
     obtain ⟨RI,Z3,M3,B3,rfl,hq3,hd3,hG3⟩:=hl2;exact ⟨RI,Z3,M3,B3,rfl,(hG.trans hj).trans hG3,.inl ⟨hq3,by rw[hd3,hd]⟩⟩
    | ret=>exact ⟨.ret,Z',M',B',rfl,hG,.inl ⟨hq,hd⟩⟩
    | exit i=>exact ⟨.exit i,Z',M',B',rfl,hG,.inl ⟨hq,hd⟩⟩
   .cases ax with
    | normal =>
     obtain ⟨M2,B2,Z2,hj,hk⟩:=aLM hG.inv hq;refine uy (wV (m0:=m) hm y hj.inv (vN (X:=S.xe C L E m) hS.V hS.W hC (hL m) y hk)) fun e a2 w2 hl2 => ?_
     obtain ⟨RI,Z3,M3,B3,rfl,hq3,hd3,hG3⟩:=hl2;exact ⟨RI,Z3,M3,B3,rfl,hG.trans ((hj.trans hG3).lessM hm0),.inr ⟨m,g,ps,d,hm0,by rw[hd3,hd],hD.mono (hj.trans hG3),hq3⟩⟩
    | ret=>exact ⟨.ret,Z',M',B',rfl,hG,.inr ⟨m,g,ps,d,hm0,hd,hD,hq⟩⟩
    | exit i=>exact ⟨.exit i,Z',M',B',rfl,hG,.inr ⟨m,g,ps,d,hm0,hd,hD,hq⟩⟩
  .refine wp_seq (uy (wV (m0:=m0) hm x hI (vN (X:=S.xe C L E m0) hS.V hS.W hC (hL m0) x h)) fun e a' w' hl => ?_);obtain ⟨ax,Z',M',B',rfl,hq,hd,hG⟩:=hl;cases ax with
   | normal=>exact uy (Nj hm hS hC hL y hq hG.inv (by rw[hd,hd0])) fun e a2 w2 hl2=>bFM hG hl2
   | ret=>exact ⟨.ret,Z',M',B',rfl,hG,.inl ⟨hq,by rw[hd,hd0]⟩⟩
   | exit i=>exact ⟨.exit i,Z',M',B',rfl,hG,.inl ⟨hq,by rw[hd,hd0]⟩⟩
 | .cond c x y,K0,KD,M,B,Z,a,w,h,hI,hd0=>by
  have hx:∀ (x:Code),(∀ {Z1:ASt},S.ru C L E m0 x K0 KD Z1=some v->Inv E.n M B out Z1 a.tmps w->x.wp E.P (UJ E out m0 M B Z1 a.tmps w v K0 KD) a w)->(match DW x with | true=>S.ru C L E m0 x K0 KD Z | false=>bG (S.xe C L E m0) x K0 Z)=some v->x.wp E.P (UJ E out m0 M B Z a.tmps w v K0 KD) a w:=fun x ih hh=>by
   cases hd:DW x with
   | true=>rw[hd] at hh; grind
   | false =>
    rw[hd] at hh;refine uy (wV (m0:=m0) hm x hI (vN (X:=S.xe C L E m0) hS.V hS.W hC (hL m0) x hh)) fun e a2 w2 hl2 => ?_
    obtain ⟨RI,Z3,M3,B3,rfl,hq3,hd3,hG3⟩:=hl2;exact ⟨RI,Z3,M3,B3,rfl,hG3,.inl ⟨hq3,by rw[hd3,hd0]⟩⟩
  simp only[SE.ru] at h;split at h
  .rename_i b hb;have he:=jo.1 (hI.rd _ _ hb).1;split at h
   .rename_i d;cases b with
    | true =>simp only[aA,a0D hb] at h;exact wp_cond_split he (fun _=>hx x (fun k1 k2=>Nj hm hS hC hL x k1 k2 hd0) h) (fun e=>by cases e)
    | false =>simp only[aA,a0D hb] at h;exact wp_cond_split he (fun e=>by cases e) (fun _=>hx y (fun k1 k2=>Nj hm hS hC hL y k1 k2 hd0) h)
   .cases h
  .cases h
 | .block id x,K0,KD,M,B,Z,a,w,h,hI,hd0=>by
  simp only[SE.ru] at h;refine wp_block (uy (Nj hm hS hC hL x h hI hd0) fun e a' w' hl => ?_);obtain ⟨ax,Z',M',B',rfl,hG,hl⟩:=hl;cases ax with
  | normal=>exact ⟨.normal,Z',M',B',rfl,hG,hl⟩
  | ret=>exact ⟨.ret,Z',M',B',rfl,hG,hl⟩
  | exit i =>
   simp only[AX.toExit,Exit.inBlock];simp only[bI] at hl;split
   .rename_i e; simp only[aS e] at hl; exact ⟨.normal,Z',M',B',rfl,hG,hl⟩
   .rename_i e; simp only[aQ e] at hl; exact ⟨.exit i,Z',M',B',rfl,hG,hl⟩
 | .region id ops draw,K0,KD,M,B,Z,a,w,h,hI,hd0=>by
  simp only[SE.ru] at h;split at h
  .cases h
  .split at h
   .rename_i pre o c post hs;obtain ⟨hl,ho⟩:=aRP hs;have hk:=ZB (E:=E) hI;refine wp_region_list ?_;rw[hl];refine a2U (E:=E) pre hk.inv (Ro (X:=S.xe C L E m0) hS.V hS.W hC pre h) fun Z1 M1 B1 a1 w1 hq hG hd => ?_
    unfold Xc at hq;split at hq
    .rename_i f hg hdst bQR;split at hq
     .rename_i g first caps az hf has
      split at hq
      .rename_i hbl;obtain ⟨f',c',e1,r1,r2⟩:=zW.1 (hG.inv.rd _ _ hf).1;obtain ⟨ra,_⟩:=LC hG.inv.rd has;unfold wpList;rw[aS (by simp[Region.wanted,hg])];refine .inl ?_;unfold Oper.wp;have hrun:(execOp a1.eval o).run E.P w1 = .ok (.defer { target := .fn (.func g) c',args:=f' ++ c.args.map a1.eval }) w1:=by grind [execOp,resolve,Deferred.ofValue,Sem.run_pure]
       rw[hrun,Oper.upon_defer];have hput:∀ (a:Act) (u:Value),a.put o.dst u=a:=fun a u=>by rw[hdst]; rfl
       rw[hput];refine RH (E:=E) post (a := { a1 with defers := { target := .fn (.func g) c',args:=f' ++ c.args.map a1.eval }::a1.defers }) hG.inv (Ro (X:=S.xe C L E m0) hS.V hS.W hC post hq) fun Z2 M2 B2 a2 w2 hq2 hG2 hd2 => ?_
       refine ⟨.normal,Z2,M2,B2,rfl,((hk.trans hG).trans hG2).c,.inr ⟨_,g,_,{ target := .fn (.func g) c',args:=f' ++ c.args.map a1.eval },Nat.le_max_left _ _,by rw[hd2]; simp_all,QZ.mono (m:=_) ?_ hG2.c,hq2⟩⟩;refine ⟨c',_,rfl,rfl,?_⟩;have hr:aj M1 B1 (first ++ az ++ caps) (f' ++ c.args.map a1.eval ++ c').toList:=by simpa using E8 (E8 r1 ra) r2
       exact hr.blw hbl
      .cases hq
     .cases hq
    .cases hq
   .cases h
 | .skip,_,_,_,_,_,_,_,h,_,_=>by cases h
 | .label _,_,_,_,_,_,_,_,h,_,_=>by cases h
 | .exit _,_,_,_,_,_,_,_,h,_,_=>by cases h
 | .ret,_,_,_,_,_,_,_,h,_,_=>by cases h
 | .scope _,_,_,_,_,_,_,_,h,_,_=>by cases h
 | .loop _,_,_,_,_,_,_,_,h,_,_=>by cases h
 | .rangeFunc _ _ _ _,_,_,_,_,_,_,_,h,_,_=>by cases h
 | .goto _,_,_,_,_,_,_,_,h,_,_=>by cases h
 | .refuse _,_,_,_,_,_,_,_,h,_,_=>by cases h
theorem Ev.bHG {C:Cal} {L:xg} {g:FuncId} {fn:Func} {c:Code} (hm:S.P.follows .mixedOrders=true) (hS:S.OK) (hC:o7 S.P C) (hCD:∀ g args h r h',S.CD C g args h=some (r,h')->rO S.P (CD S.P) g args h r h') (hL:∀ m,I7 (S.xe C L (S.ae g fn.ntmps) m))
 (hf:S.P.funcs[g]? = some fn) (hb:fn.body=some c) (hn:(fn.name != "runtime.NumGoroutine")=true) {args:bTA} {h:aG} {r:PV} {h':aG} (hlen:args.length<=fn.ntmps)
 (hA:S.ru C L (S.ae g fn.ntmps) h.length c (FY S.P fn.results.toList (S.iF g).ro h.length (DI args)) (S.V4 C L (S.ae g fn.ntmps) fn.results.toList (S.iF g).ro h.length (DI args)) ⟨lh 0 args,h⟩=some (r,h')):Ev S.P g args h r h':=by
 refine ⟨by grind [callable],fun out M B w vals hmem hheap hcnt hnew hv => ?_⟩;have hI:=aL9 (n:=fn.ntmps) hlen hmem hheap hcnt hnew hv;refine calls_of_wp_defers hf hb (uy (Nj (E:=S.ae g fn.ntmps) (out:=out) (a := { tmps:=vals ++ Array.replicate (fn.ntmps-vals.size) undef,defers := [] }) hm hS hC hL c hA hI rfl) fun e a' w' hl => ?_);obtain ⟨ax,Z',M',B',rfl,hG,hl⟩:=hl;have fin:∀ {M2 B2 Z2 w2},bz fn.ntmps out h.length M B ⟨lh 0 args,h⟩ (vals ++ Array.replicate (fn.ntmps-vals.size) undef) w M2 B2 Z2 a'.tmps w2->FZ S.P fn.results.toList (S.iF g).ro h.length (DI args) Z2=some (r,h')->∃ v,(results fn a'.tmps).run S.P w2 = .ok v w2/\∃ v' M' B',Ending.returned v = .returned v'/\Post h B out M w r h' v' M' B' w2:=fun {M2 B2 Z2 w2} hG2 hk=>by obtain ⟨r0,hret,rfl⟩:=aAE hk;obtain ⟨v,hrun,M'',B'',hpost⟩:=aG0 (ro:=(S.iF g).ro) hheap hG2 hret;grind
 rcases hl with ⟨hk,hd⟩ | ⟨m,g2,ps,d,hm0,hd,hD,hk⟩
 .have key:FZ S.P fn.results.toList (S.iF g).ro h.length (DI args) Z'=some (r,h')->Leaves S.P fn a'.tmps (fun e w'=>∃ v M' B',e = .returned v/\Post h B out M w r h' v M' B' w') a'.defers .returning w':=fun hk=>by rw[hd]; exact fin hG hk
  cases ax with
  | normal=>exact key hk
  | ret=>exact key hk
  | exit i=>cases hk
 .have key:zA (S.xe (S.CD C) L (S.ae g fn.ntmps) h.length) none g2 ps (H8 Z'.h 3 (wQ [] (PV.xA ps))) (FZ S.P fn.results.toList (S.iF g).ro h.length (DI args)) Z'=some (r,h')->Leaves S.P fn a'.tmps (fun e w'=>∃ v M' B',e = .returned v/\Post h B out M w r h' v M' B' w') a'.defers .returning w':=fun hk=>by
   obtain ⟨r1,h1,hE,hp⟩:=aFM (X:=S.xe (S.CD C) L (S.ae g fn.ntmps) h.length) (aEK S.P) hS.W hCD (full':=ps) (fun _ _ _ x=>x) hk;unfold jB at hp;split at hp
   .rename_i Z2 hput;obtain ⟨cap,vs,htar,bQZ,OU⟩:=hD;have OU:aj M' B' ps vs.toList:=OU.mono ⟨fun _ _ _ x=>x,fun i c hi=>by rw[lM] at hi;simp_all⟩;have hcall:=hE.1;unfold callable at hcall;split at hcall
    .rename_i fn2 hfn2;simp only[bF,bne_iff_ne,ne_eq] at hcall;have hinv:(invoke d.target d.args).run S.P w' = .ok (.enter g2 vs) w':=by
      rw[htar];have bQT:S.P.funcs[g2]? = some fn2:=hfn2;simp only[invoke,callFunc,run_program,lu,ER,rJ];have hnb:fn2.body.isNone=false:=by cases hb:fn2.body<;>simp[hb] at hcall ⊢
      grind [Sem.run_pure]
     rw[hd];refine ⟨by simp,_,cap,g2,vs,htar,hinv,?_⟩;refine CallsD.mono (aEE (E:=S.ae g fn.ntmps) (aEK S.P) hG.inv OU hE (dst:=none) hput (a:=a') (R:=fun e w2=>∃ v,e = .returned v/\∃ v2,(results fn a'.tmps).run S.P w2 = .ok v2 w2/\∃ v' M' B',Ending.returned v2 = .returned v'/\Post h B out M w r h' v' M' B' w2) fun v M2 B2 w2 hG2 => ?_) fun e u' w2 hh => ?_
     .exact ⟨v,rfl,fin (hG.trans hG2.c) hp⟩
     .obtain ⟨rfl,v,rfl,hh⟩:=hh;exact hh
    grind
   simp_all
  cases ax with
  | normal=>exact key hk
  | ret=>exact key hk
  | exit i=>cases hk
theorem aAY (hm:S.P.follows .mixedOrders=true) (hS:S.OK) (h0:o7 S.P S.C0):∀ n,(o7 S.P (S.ah n).1/\∀ g args h r h',S.CD (S.ah n).1 g args h=some (r,h')->rO S.P (CD S.P) g args h r h') /\
 ∀ E m0 l m x (K:AX->ASt->R) Z v,S.wp E=E->(S.ah n).2 E m0 l m x K (Z.gc l m)=some v->LH m0 (dD E m0 x) (fun e Z'=>K e Z'=some v) n Z
 | 0=>by
  refine ⟨⟨h0,fun g args h r h' hv => ?_⟩,fun _ _ _ _ _ _ _ _ _ h=>by cases h⟩;unfold SE.CD at hv;split at hv
  .cases hv
  .rename_i hc;split at hv
   .cases hv
   .rw[show (S.ah 0).1 g args h=S.C0 g args h from rfl,hc] at hv; cases hv
 | n+1=>by
  obtain ⟨⟨ih1,ihD⟩,ih2⟩:=aAY hm hS h0 n;have a5Z:∀ E m0,S.wp E=E->I7 (S.xe (S.ah n).1 (S.ah n).2 E m0):=fun E m0 hE l m x K Z v hv=>by refine ⟨n,?_⟩;exact ih2 E m0 l m x K Z v hE hv
  have body:∀ {cp:CP} (g:FuncId) (args:bTA) (h:aG) (r:PV) (h':aG),(∀ (fn:Func) (c:Code),S.P.funcs[g]? = some fn->fn.body=some c->∀ (vals:Array Value) (w:World) (R:Ending->World->Prop),c.wp S.P (bodyPost S.P fn R) { tmps:=vals ++ Array.replicate (fn.ntmps-vals.size) undef,defers := [] } w->cp g vals w R) ->
   (S.iF g).df=false->S.run (S.ah n).1 (S.ah n).2 g args h=some (r,h')->rO S.P cp g args h r h':=fun {cp} g args h r h' hcp hdf hv=>by
   unfold SE.run at hv;split at hv
   .rename_i fn hf;split at hv
    .rename_i c hb;split at hv
     .rename_i hd;rw[hdf] at hv;simp only[bF,lw] at hd;have key:=vN (X:=S.xe (S.ah n).1 (S.ah n).2 (S.ae g fn.ntmps) h.length) hS.V hS.W ih1 (a5Z _ _ rfl) c hv;refine rO.a8K (cp:=cp) (fun k=>hcp _ _ hf hb _ _ _ k) hm hf hb hd.2 (S.iF g).vars (S.iF g).mv (S.iF g).mu (S.iF g).sz (S.iF g).jt (S.iF g).lt (S.iF g).pt (S.iF g).fz (S.iF g).ro (S.iF g).ft (S.iF g).sy (S.iF g).ln hd.1 (xw c (fun e Z' he => ?_) key);cases e with
      | normal=>exact ⟨trivial,aAE he⟩
      | ret=>exact ⟨trivial,aAE he⟩
      | exit i=>cases he
     .cases hv
    .cases hv
   .cases hv
  refine ⟨⟨fun g args h r h' hv => ?_,fun g args h r h' hv => ?_⟩,fun E m0 l m x K Z v hE hv => ?_⟩
  .have hv:FM (S.C0 g args h) (S.run (S.ah n).1 (S.ah n).2 g args h)=some (r,h'):=hv;cases hc:S.C0 g args h with
   | some x=>rw[hc] at hv; injection hv with hv; subst hv; exact h0 _ _ _ _ _ hc
   | none =>
    rw[hc] at hv;have hv:S.run (S.ah n).1 (S.ah n).2 g args h=some (r,h'):=hv;cases hdf:(S.iF g).df with
    | false=>exact body (cp:=Calls S.P) g args h r h' (fun _ _ hf hb _ _ _ k=>calls_of_wp hf hb k) hdf hv
    | true =>
     unfold SE.run at hv;split at hv
     .rename_i fn hf;split at hv
      .rename_i c hb;split at hv
       .rename_i hd;rw[hdf] at hv;simp only[bF,lw] at hd;exact Ev.bHG hm hS ih1 ihD (fun m=>a5Z _ _ rfl) hf hb hd.2 hd.1 hv
       .cases hv
      .cases hv
     .cases hv
  .unfold SE.CD at hv;split at hv
   .cases hv
   .rename_i hc;split at hv
    .cases hv
    .rename_i hdf;have hv:FM (S.C0 g args h) (S.run (S.ah n).1 (S.ah n).2 g args h)=some (r,h'):=hv;rw[hc] at hv;exact body (cp:=CD S.P) g args h r h' (fun _ _ hf hb _ _ _ k=>callsD_of_wp hf hb k) hdf hv
  .have hv:S.turn (S.ah n).1 (S.ah n).2 E m0 l m x K (Z.gc l m)=some v:=hv;rw[bNR] at hv;unfold SE.turn at hv;obtain ⟨hpl,hv⟩:=gI hv;split at hv
   .rename_i hc;simp only[bF,lw] at hc;rw[hE] at hv;refine ⟨l,m,hc.1,a5I hpl hc.2,xw x (fun e Z' he => ?_) (vN (X:=S.xe (S.ah n).1 (S.ah n).2 E m0) hS.V hS.W (by rw[<- hE]; exact ih1) (a5Z _ _ hE) x hv)⟩;cases e with
    | normal=>exact ih2 E m0 l m x K Z' v hE he
    | ret=>exact he
    | exit i=>exact he
   .cases hv
theorem WP (hS:S.OK) (n:Nat) {g:FuncId} {args:bTA} {h:aG} {v:PV×aG} (e:(S.ah n).1 g args h=some v):S.CC g args h=some v:=((RU hS g args h).lim v).2 ⟨n,e⟩
theorem MP (hm:S.P.follows .mixedOrders=true) (hS:S.OK) (h0:o7 S.P S.C0):o7 S.P S.CC:=fun g args h r h' hv=>by obtain ⟨n,hn⟩:=((RU hS g args h).lim _).1 hv;exact (aAY hm hS h0 n).1.1 g args h r h' hn
end
def vI (k:IntKind) (p:PV) (K:Int->R):R:=match p with | .int k' n=>(match decide (k'=k) with | true=>K n | false=>none) | _=>none
def vB (p:PV) (K:Bool->R):R:=match p with | .bool b=>K b | _=>none
def vS (p:PV) (K:ByteArray->R):R:=match p with | .str b=>K b | _=>none
def vL (o:Bool) (z:Nat) (p:PV) (K:bTA->R):R:=match p with | .sl o' z' es=>(match o'==o&&Nat.beq z' z with | true=>K es | false=>none) | _=>none
def w0 (p:PV) (K:R):R:=match p with | .tuple []=>K | _=>none
@[simp] theorem wE (k : IntKind) (n : Int) (K : Int -> R) : vI k (.int k n) K = K n := by simp [vI]
@[simp] theorem EK (b : Bool) (K : Bool -> R) : vB (.bool b) K = K b := rfl
@[simp] theorem nY (b : ByteArray) (K : ByteArray -> R) : vS (.str b) K = K b := rfl
@[simp] theorem aT2 (o : Bool) (z : Nat) (es : bTA) (K : bTA -> R) : vL o z (.sl o z es) K = K es := by simp [vL]
@[simp] theorem bT2 (K : R) : w0 (.tuple []) K = K := rfl
theorem rG (k:IntKind) (p:PV):(∀ K:PV->R,vI k p (fun n=>K (.int k n))=K p)\/(∀ K:PV->R,vI k p (fun n=>K (.int k n))=none):=by unfold vI; grind
theorem Iw (p:PV):(∀ K:PV->R,vB p (fun n=>K (.bool n))=K p)\/(∀ K:PV->R,vB p (fun n=>K (.bool n))=none):=by unfold vB; grind
theorem Vl (p:PV):(∀ K:PV->R,vS p (fun n=>K (.str n))=K p)\/(∀ K:PV->R,vS p (fun n=>K (.str n))=none):=by unfold vS; grind
theorem AV (o:Bool) (z:Nat) (p:PV):(∀ K:PV->R,vL o z p (fun n=>K (.sl o z n))=K p)\/(∀ K:PV->R,vL o z p (fun n=>K (.sl o z n))=none):=by unfold vL; grind [Nat.eq_of_beq_eq_true]
theorem bPA (p:PV) (h:aG):(∀ K:PV->aG->R,w0 p (K (.tuple []) h)=K p h)\/(∀ K:PV->aG->R,w0 p (K (.tuple []) h)=none):=by grind [w0]
theorem zQ {f:(PV->R)->R} {p:PV} (hf:(∀ K:PV->R,f K=K p)\/(∀ K:PV->R,f K=none)) (h:aG):(∀ K:PV->aG->R,f (fun q=>K q h)=K p h)\/(∀ K:PV->aG->R,f (fun q=>K q h)=none):=by grind
theorem kT {b:Bool} {f g:(PV->R)->R} {p:PV} (hf:(∀ K:PV->R,f K=K p)\/(∀ K:PV->R,f K=none)) (hg:(∀ K:PV->R,g K=K p)\/(∀ K:PV->R,g K=none)) :
 (∀ K:PV->R,aA b (f K) (g K)=K p)\/(∀ K:PV->R,aA b (f K) (g K)=none):=by
 cases b
 .exact hg
 .exact hf
theorem sH {b:Bool} {f g:(PV->aG->R)->R} {p:PV} {h:aG} (hf:(∀ K:PV->aG->R,f K=K p h)\/(∀ K:PV->aG->R,f K=none)) (hg:(∀ K:PV->aG->R,g K=K p h)\/(∀ K:PV->aG->R,g K=none)) :
 (∀ K:PV->aG->R,aA b (f K) (g K)=K p h)\/(∀ K:PV->aG->R,aA b (f K) (g K)=none):=by
 cases b
 .exact hg
 .exact hf
noncomputable def qI (f:Func):Code:=match f.body with | some c=>c | none => .skip
def Code.sub:List Bool->Code->Code
 | [],c=>c
 | b::p,.seq x y=>match b with | true=>Code.sub p y | false=>Code.sub p x
 | b::p,.cond _ x y=>match b with | true=>Code.sub p y | false=>Code.sub p x
 | b::p,.rangeFunc _ _ x y=>match b with | true=>Code.sub p y | false=>Code.sub p x
 | _::p,.block _ x=>Code.sub p x
 | _::p,.scope x=>Code.sub p x
 | _::p,.loop x=>Code.sub p x
 | _,c=>c
@[simp] theorem aH (A B : R) : aA true A B = A := rfl
@[simp] theorem aC (A B : R) : aA false A B = B := rfl
theorem RP (b:Bool) (A B:R):aA b A B=if b=true then A else B:=by cases b<;>rfl
theorem au {b:Bool} {A:R} (h:b=true):chk b A=A:=by subst h; rfl
theorem sD {es:bTA} {n:Int} {K:PV->R} {e:PV} (h0:0<=n) (h:es[n.toNat]? = some e):eH es n K=K e:=by grind [eH]
theorem Eh {s:ByteArray} {n:Int} {K:Int->R} {b:UInt8} (h0:0<=n) (h:s[n.toNat]? = some b):vJ s n K=K b.toNat:=by grind [vJ]
theorem pq {C:Cal} {g:FuncId} {args:bTA} {K:PV->R} {r:PV} (h:C g args []=some (r,[])):jJ C g args K=K r:=by unfold jJ; rw[h]
theorem aOG {es:bTA} {K:Bool->R} {v:PV×aG} (h1:K false=some v) (h2:es = []->K true=some v):IE es K=some v:=by grind [IE,aYF]
section
variable {E:AE} {ops:Array Oper} {K:ASt->Prop}
end
end Go.Proofs.YtcdceiloganlnaaGreatDoor
namespace Go.Proofs.YtcdceiloganlnaaGreatDoor
open Go.RowKit Go.ChangeShapes Go.WideShapes Go.ChangeAt
def QF (w:World) (b o:Nat):Option Value:=match w.cell? ⟨b,o,none⟩ with | some v=>if v.oneCell' then some v else none | none=>none
theorem Vq {w:World} {b o:Nat} {v:Value}:QF w b o=some v↔w.cell? ⟨b,o,none⟩=some v/\v.oneCell'=true:=by grind [QF]
def GW (w:World):Prop:=∃ m,∀ b o v,Ae m b o=some v->QF w b o=some v
def whole (w:World) (h:GW w):Mem:=⟨Classical.choose h,QF w,Classical.choose_spec h⟩
theorem aB' {w:World} {hw:GW w} {b o:Nat} {v:Value}:whole w hw b o=some v↔w.cell? ⟨b,o,none⟩=some v/\v.oneCell'=true:=Vq
theorem bPK (w:World) (hw:GW w):vW (whole w hw) w:=fun _ _ _ h=>aB'.1 h
def news (M:Mem) (n:Nat) (w:World):Mem:=yE M.m fun b o=>if n<=b then QF w b o else M b o
theorem a00 {M:Mem} {w:World} (hm:vW M w) (w':World) (b o:Nat):news M w.heap.size w' b o=if w.heap.size<=b then QF w' b o else M b o:=by refine BO (fun b o v e => ?_) b o;have:=uw _ _ (hm b o v (M.g _ _ _ e)).1;simp only at this;rw[aQ (by omega)]; exact M.g _ _ _ e
theorem bGW {M:Mem} {w:World} (hm:vW M w) {w':World} {b o:Nat} {v:Value} (hb:w.heap.size<=b) (h:w'.cell? ⟨b,o,none⟩=some v) (h1:v.oneCell'=true):news M w.heap.size w' b o=some v:=by rw[a00 hm,aS hb]; exact Vq.2 ⟨h,h1⟩
theorem Ev.top {P:Program} {g:FuncId} {args:bTA} {r:PV} {w:World} {hw:GW w} {vals:Array Value} (h:Ev P g args [] r []) (ha:aj (whole w hw) [] args vals.toList) :
 Calls P g vals w fun e w'=>∃ v M',e = .returned v/\Rep M' [] r v/\vW M' w'/\Below w.heap.size w w':=by
 have h0:∀ w b,aP w [] [] b=0:=fun w b=>by simp[aP]
 refine (h.2 (fun _=>0) (whole w hw) [] w vals (bPK w hw) ⟨rfl,fun i cs hi=>by simp at hi⟩ (fun b=>by rw[h0]; omega) (fun b _=>by rw[h0]) ha).mono fun e w' he => ?_
 obtain ⟨v,M',B',rfl,hP⟩:=he;have hB':B' = []:=kU (by have:=hP.heap.1; simp_all);subst hB';exact ⟨v,M',rfl,hP.rep,hP.mem,hP.fr.os,hP.fr.tape,hP.fr.output,hP.fr.size,fun k hk=>(hP.fr.blk k hk (h0 w k)).1⟩
theorem Ev.bHF {P:Program} {g:FuncId} {args:bTA} {r:PV} (hc:callable P g=true) (ho:r.own=false) (_:PV.flats args=true)
 (h:∀ (M:Mem) (w:World) (vals:Array Value),vW M w->aj M [] args vals.toList->Calls P g vals w fun e w'=>∃ v,e = .returned v/\Rep (news M w.heap.size w') [] r v/\Below w.heap.size w w'):Ev P g args [] r []:=by
 refine ⟨hc,fun out M B w vals hmem hheap hcnt hnew hv => ?_⟩;have hB:B = []:=kU (by have:=hheap.1; simp_all);subst hB;have h0:∀ w b,aP w [] [] b=0:=fun w b=>by simp[aP]
 refine (h M w vals hmem hv).mono fun e w' ⟨v,he,hr,bel⟩ => ?_
 have hlt:∀ b o v,M b o=some v->b<w.heap.size:=fun b o v h=>uw _ _ (hmem b o v h).1
 refine ⟨v,news M w.heap.size w',[],he,fun b o v h => ?_,⟨fun b o v h => ?_,fun _ _ h=>h⟩,⟨bel.os,bel.tape,bel.output,bel.size,fun b hb _=>⟨bel.block b hb,fun o=>by rw[a00 hmem,aQ (by omega)]⟩⟩,⟨rfl,fun i cs hi=>by simp at hi⟩,hr,fA ho,fun b _=>by rw[dC ho,h0]; omega,fun b => ?_,fun b hb => ?_⟩
 .rw[a00 hmem] at h;split at h
  .exact Vq.1 h
  .have:=hmem b o v h;exact ⟨by rw[JF (w:=w) (bel.block b (hlt b o v h))]; exact this.1,this.2⟩
 grind [a00]
 grind [dC]
 .rw[dC ho,h0]; have:=hnew b (mP bel.size hb); rw[h0] at this; omega
def Ci (P:Program) (t:TypeId):Bool:=match P.underlying t with | some (.struct _) | some (.array ..)=>true | _=>false
def wX (P:Program) (t:TypeId) (qs:bTA):PV:=if Ci P t then .agg qs else qs.headD .nilp
def parts (P:Program) (t:TypeId):List (Nat×TypeId):=match P.underlying t with
 | some (.struct fs)=>fs.toList.map fun f=>(f.offset,f.type)
 | some (.array n e)=>(List.range n).map fun i=>(i*P.cellsOf e,e)
 | _ => []
def iZ (P:Program):Nat->TypeId->bTA->Prop
 | 0,_,_=>False
 | fuel+1,t,ps=>match P.underlying t with
  | some .bool=>∃ b,ps = [.bool b]
  | some (.int k)=>∃ n,ps = [.int k n]/\(Lit.int k n).wf=true
  | some .string=>∃ s:ByteArray,ps = [.str s]/\s.size<=reachBytes
  | some (.slice e)=>∃ es:bTA,ps = [.sl false (P.cellsOf e) es]/\es.length*P.bytesOf e<=reachBytes/\∀ p,p∈es->∃ qs,iZ P fuel e qs/\p=wX P e qs
  | some (.struct _) | some (.array ..)=>ps.length=P.cellsOf t/\∀ x,x∈parts P t->iZ P fuel x.2 ((ps.drop x.1).take (P.cellsOf x.2))
  | _=>False
def Fh (P:Program) (total:Nat):Nat->List (Nat×TypeId)->Bool
 | off,[]=>off==total
 | off,x::l=>x.1==off&&Fh P total (off+P.cellsOf x.2) l
def a3K (P:Program) (l:List TypeId):Bool:=l.all fun t=>match P.underlying t with
 | some .bool=>P.cellsOf t==1
 | some (.int _)=>P.cellsOf t==1
 | some .string=>P.cellsOf t==1
 | some (.slice e)=>l.contains e&&decide (0<P.cellsOf e)&&P.cellsOf t==1
 | some (.struct _)=>(parts P t).all (fun x=>l.contains x.2)&&Fh P (P.cellsOf t) 0 (parts P t)
 | some (.array ..)=>(parts P t).all (fun x=>l.contains x.2)&&Fh P (P.cellsOf t) 0 (parts P t)
 | _=>false
theorem aQ5 {M:Mem} {B:aN}:∀ {ps qs:bTA} {us vs:List Value},aj M B ps us->aj M B qs vs->aj M B (ps ++ qs) (us ++ vs)
 | [],qs,us,vs,h,k=>by rw[dJ] at h; simp_all
 | p::ps,qs,us,vs,h,k=>by obtain ⟨u,wB,rfl,h1,h2⟩:=bg.1 h;exact bg.2 ⟨u,wB ++ vs,rfl,h1,aQ5 h2 k⟩
theorem aSI {P:Program} {total:Nat}:∀ {l:List (Nat×TypeId)} {off:Nat},Fh P total off l=true->off<=total/\∀ x,x∈l->off<=x.1
 | [],off,h=>by grind [Fh]
 | x::l,off,h=>by simp only[Fh,bF,rM] at h;obtain ⟨h1,h2⟩:=aSI h.2;grind
theorem aBA {P:Program} {M:Mem} {S:TypeId->bTA->Prop} {cs:List Value}:∀ {l:List (Nat×TypeId)} {off:Nat},Fh P cs.length off l=true ->
 (∀ x,x∈l->∃ qs,S x.2 qs/\aj M [] qs ((cs.drop x.1).take (P.cellsOf x.2))/\∀ v,v∈(cs.drop x.1).take (P.cellsOf x.2)->v.oneCell'=true)->∃ ps,aj M [] ps (cs.drop off)/\(∀ v,v∈cs.drop off->v.oneCell'=true)/\∀ x,x∈l->S x.2 ((ps.drop (x.1-off)).take (P.cellsOf x.2))
 | [],off,h,_=>by simp[Fh] at h; subst h;exact ⟨[],by rw[List.drop_length]; exact dJ.2 rfl,by simp,by simp⟩
 | x::l,off,h,hx=>by
  simp only[Fh,bF,rM] at h;obtain ⟨e,ht⟩:=h;subst e;obtain ⟨hle,hge⟩:=aSI ht;obtain ⟨qs,hq,hr,ho⟩:=hx x (by simp);obtain ⟨ps,hp,ho',hs⟩:=aBA ht fun y hy=>hx y (by simp[hy])
  have hlen:qs.length=P.cellsOf x.2:=by rw[nG hr,wI,xY]; omega
  refine ⟨qs ++ ps,?_,fun v hv => ?_,fun y hy => ?_⟩;grind [aQ5,List.drop_drop,List.take_append_drop]
  grind [List.take_append_drop,List.drop_drop]
  .rcases jV.1 hy with rfl | hy
   simp_all;grind [List.drop_append,List.drop_eq_nil_of_le]
theorem aBZ {H:Type} {P:Program} {e:TypeId}:∀ {ds:List (DataW H)} {d:DataW H} {n:Nat},d∈ds->n∈d.weights P e->n∈DataW.weightsAll P e ds
 | d0::ds,d,n,hd,hn=>by
  rw[DataW.weightsAll,qQ];rcases jV.1 hd with rfl | hd
  .exact .inl hn
  .exact .inr (aBZ hd hn)
theorem aNA {α:Type} {R:Nat->α->Prop}:∀ n:Nat,(∀ j,j<n->∃ p,R j p)->∃ l:List α,l.length=n/\∀ (j:Nat) p,l[j]? = some p->R j p
 | 0,_=>⟨[],rfl,by simp⟩
 | n+1,h=>by
  obtain ⟨l,hl,hr⟩:=aNA n fun j hj=>h j (by omega)
  obtain ⟨p,hp⟩:=h n (by omega);refine ⟨l ++ [p],by simp[hl],fun j q hq => ?_⟩;grind
theorem aRB {P:Program} {fuel:Nat} {t:TypeId} {ps:bTA} (h:iZ P fuel t ps) (ha:Ci P t=false):∃ q,ps = [q]/\q.isAgg=false/\(∀ cs,q ≠ .tuple cs)/\q.size=1:=by
 cases fuel with
 | zero=>exact h.elim
 | succ fuel =>
  unfold iZ at h;unfold Ci at ha;split at h
  .obtain ⟨b,rfl⟩:=h; simp
  .obtain ⟨b,rfl,_⟩:=h; simp
  .obtain ⟨b,rfl,_⟩:=h; simp
  .obtain ⟨b,rfl,_⟩:=h; simp
  .simp_all
  .simp_all
  simp_all
section
variable {H:Type} {enc:TypeId×Value->H} {W:World} {hW:GW W} {P:Program}
theorem aY6 {fuel:Nat} {e:TypeId} {ps:bTA} {cs:List Value} (hs:iZ P fuel e ps) (hr:aj (whole W hW) [] ps cs) (hl:cs.length=P.cellsOf e) (ho:∀ v,v∈cs->v.oneCell'=true) :
 (wX P e ps).size=P.cellsOf e/\∀ b off,(∀ i,i<cs.length->W.cell? ⟨b,off+i,none⟩=cs[i]?)->Loc (whole W hW) [] (wX P e ps) b off:=by
 unfold wX;have hlen:=nG hr;cases ha:Ci P e with
 | true =>refine ⟨by simp_all,fun b off h=>yD.2 (Ei fun j p hp => ?_)⟩;obtain ⟨u,hu,F6⟩:=uh hr hp;exact ⟨u,aB'.2 ⟨(h j (iJ.1 hu).1).trans hu,ho u (nK hu)⟩,F6⟩
 | false =>
  obtain ⟨q,rfl,h1,h2,h3⟩:=aRB hs ha;have hc1:cs.length=1:=by rw[<- hlen]; rfl
  refine ⟨by simp_all,fun b off h=>(vV h1 h2).2 ?_⟩;obtain ⟨u,hu,F6⟩:=uh hr (j:=0) (p:=q) rfl;exact ⟨u,aB'.2 ⟨(h 0 (by omega)).trans hu,ho u (nK hu)⟩,F6⟩
theorem aDM (b off n:Nat):(⟨b,off,none⟩:Addr).add n=⟨b,off+n,none⟩:=by grind [Addr.add]
theorem open_any {l:List TypeId} (hl:a3K P l=true):∀ (fuel:Nat) (t:TypeId) (cs:List Value) (x:DataW H×List MemPlace),t∈l->DataW.trod enc P W 0 (fun _=>true) true fuel t cs=some x->(∀ n,n∈x.1.weights P t->n<=reachBytes) ->
 ∃ ps,iZ P fuel t ps/\aj (whole W hW) [] ps cs/\cs.length=P.cellsOf t/\∀ v,v∈cs->v.oneCell'=true:=by
 intro fuel;induction fuel with
 | zero=>intro t cs x _ h; simp[DataW.trod] at h
 | succ fuel ih =>
  intro t cs x ht h hw;have hc:=iY.1 hl t ht;simp only[iZ];cases hu:P.underlying t with
  | none=>rw[hu] at hc; cases hc
  | some ty =>
   cases ty with
   | bool =>simp only[hu] at hc;obtain ⟨b,rfl,_⟩:=DataW.trod_bool hu h;exact ⟨[.bool b],⟨b,rfl⟩,bg.2 ⟨_,_,rfl,jo.2 rfl,dJ.2 rfl⟩,(eq_of_beq hc).symm,by simp_all⟩
   | int k =>simp only[hu] at hc;obtain ⟨n,rfl,_,hn⟩:=DataW.trod_int hu h;exact ⟨[.int k n],⟨n,rfl,hn⟩,bg.2 ⟨_,_,rfl,dS.2 rfl,dJ.2 rfl⟩,(eq_of_beq hc).symm,by simp_all⟩
   | string =>simp only[hu] at hc;obtain ⟨s,rfl,rfl,hn⟩:=DataW.trod_string hu h;exact ⟨[.str s],⟨s,rfl,by have:=hw s.size (by simp[DataW.weights]); exact this⟩,bg.2 ⟨_,_,rfl,iG.2 rfl,dJ.2 rfl⟩,(eq_of_beq hc).symm,by simp_all⟩
   | slice e =>
    simp only[hu,bF,lw,rM,List.contains_iff_mem] at hc;obtain ⟨⟨he,hpos⟩,h1⟩:=hc;rcases DataW.trod_slice hu h with ⟨rfl,rfl⟩ | ⟨a,len,cap,elems,rest,n',hf,rfl,rfl,_,hle,_,hel,hall,hsp,_⟩
    .exact ⟨[.sl false (P.cellsOf e) []],⟨[],rfl,by simp,by simp⟩,bg.2 ⟨_,_,rfl,jE.2 ⟨none,0,rfl,cu _,by simp,fun _=>⟨rfl,rfl,rfl⟩,by simp⟩,dJ.2 rfl⟩,h1.symm,by simp_all⟩
    .injection hf with hf; subst hf
     have hwt:∀ k,k∈(DataW.slice (elems.map (·.1)) (rest.map (·.1)):DataW H).weights P t->k<=reachBytes:=hw;have hw0:len*P.bytesOf e<=reachBytes:=by have:=hwt ((elems.length+rest.length)*P.bytesOf e) (by simp[DataW.weights,hu]);grind
     have hone:∀ j,j<len->∃ p,(∃ qs,iZ P fuel e qs/\p=wX P e qs)/\p.size=P.cellsOf e/\∀ b off,a=⟨b,off,none⟩->Loc (whole W hW) [] p b (off+j*P.cellsOf e):=by
      intro j hj;have hjj:=hall j hj;rw[jF (by omega)] at hjj;obtain ⟨cs',hc',ht'⟩:=aTF.1 hjj;obtain ⟨qs,q1,q2,q3,q4⟩:=ih e cs' _ he ht' fun k hk=>hwt k (by simp only[DataW.weights,hu,jV,qQ];exact .inr (.inl (aBZ (qR.2 ⟨_,gG (by omega),rfl⟩) hk)))
      obtain ⟨s1,s2⟩:=aY6 q1 q2 q3 q4;refine ⟨_,⟨qs,q1,rfl⟩,s1,fun b off hab=>s2 b _ fun i hi => ?_⟩;obtain ⟨_,_,hcell⟩:=World.cells?_some hc';have:=hcell i (by omega);rw[hab,aDM,aDM] at this;exact this
     have hspot:cap≠0->∃ b off,a=⟨b,off,none⟩:=fun hcap=>by
      have key:∀ k cs',k=0->W.cells? 0 (a.add k) (P.cellsOf e)=some cs'->a.spot=none:=fun k cs' hk hc'=>by subst hk;obtain ⟨_,h2,hcell⟩:=World.cells?_some hc';have:=hcell 0 hpos;rw[jF (by omega)] at this;grind [Addr.add,World.cell?_spot]
      have:a.spot=none:=by
       by_cases h0:0<len
       .have hjj:=hall 0 h0;rw[jF (by omega)] at hjj;obtain ⟨cs',hc',_⟩:=aTF.1 hjj;simp_all
       .obtain ⟨r1,r2⟩:=hsp rfl;have hjj:=r2 0 (by omega);rw[jF (by omega)] at hjj;obtain ⟨cs',hc',_⟩:=aTF.1 hjj;grind
      exact ⟨a.block,a.off,by cases a; simp_all⟩
     obtain ⟨es,hlen,hes⟩:=aNA len hone;subst hlen;refine ⟨[.sl false (P.cellsOf e) es],⟨es,rfl,hw0,fun p hp => ?_⟩,bg.2 ⟨_,_,rfl,jE.2 ⟨some a,cap,rfl,hle,fun p hp => ?_,fun h0=>by omega,fun hne => ?_⟩,dJ.2 rfl⟩,h1.symm,by simp_all⟩
     .obtain ⟨j,hj⟩:=yR.1 hp;grind
     .obtain ⟨j,hj⟩:=yR.1 hp;grind
     .have hne':es.length≠0:=fun h0=>hne (kU h0)
      grind [zK]
   | struct fs =>
    simp only[hu,bF,iY,List.contains_iff_mem] at hc;obtain ⟨hm,TU⟩:=hc;obtain ⟨xs,n,hf,rfl,hlen,hxs,hg⟩:=DataW.trod_struct hu h;injection hf with hf; subst hf
    rw[<- hlen] at TU;obtain ⟨ps,p1,p2,p3⟩:=aBA (M:=whole W hW) (S:=iZ P fuel) (cs:=cs) (off:=0) TU fun y hy=>by
     have hp:parts P t=fs.toList.map fun f=>(f.offset,f.type):=by unfold parts; rw[hu]
     obtain ⟨f,hf,hfe⟩:=qR.1 (hp▸hy);obtain ⟨i,hi⟩:=yR.1 hf;have hi':fs[i]? = some f:=by grind
     have hlt:i<xs.length:=by rw[hxs]; grind
     have hgi:=hg i f hi';rw[jF hlt] at hgi;subst hfe;obtain ⟨qs,q1,q2,q3,q4⟩:=ih f.type _ _ (hm _ hy) hgi fun k hk=>hw k (by simp only[DataW.weights,hu];exact DataW.weights_mem_each (j:=i) (t:=f.type) (by rw[kJ,hi]; rfl) (by rw[kJ,jF hlt]; rfl) k hk)
     grind
    rw[List.drop_zero] at p1 p2;grind [nG]
   | array n e =>
    simp only[hu,bF,iY,List.contains_iff_mem] at hc;obtain ⟨hm,TU⟩:=hc;obtain ⟨xs,n',hf,rfl,hlen,hxs,hg⟩:=DataW.trod_array hu h;injection hf with hf; subst hf
    rw[<- hlen] at TU;obtain ⟨ps,p1,p2,p3⟩:=aBA (M:=whole W hW) (S:=iZ P fuel) (cs:=cs) (off:=0) TU fun y hy=>by
     have hp:parts P t=(List.range n).map fun i=>(i*P.cellsOf e,e):=by unfold parts; rw[hu]
     obtain ⟨i,hi,hfe⟩:=qR.1 (hp▸hy);have hlt:i<n:=WJ.1 hi;have hgi:=hg i hlt;rw[jF (by omega)] at hgi;subst hfe;obtain ⟨qs,q1,q2,q3,q4⟩:=ih e _ _ (hm _ hy) hgi fun k hk=>hw k (by simp only[DataW.weights,hu];exact aBZ (qR.2 ⟨_,gG (by omega),rfl⟩) hk)
     grind
    rw[List.drop_zero] at p1 p2;grind [nG]
   | _=>simp only[hu] at hc; cases hc
theorem open_arg {l:List TypeId} (hl:a3K P l=true) {r:Reach} {b0:Nat} {t:TypeId} {v:Value} {d:DataW H} {ps:List MemPlace} (ht:t∈l) (hv:Value.okWide P W r b0 t v) (h:DataW.Trod enc P W 0 (fun _=>true) true t v d ps) (hw:∀ n,n∈d.weights P t->n<=reachBytes) :
 ∃ fuel qs,iZ P fuel t qs/\Rep (whole W hW) [] (wX P t qs) v:=by
 obtain ⟨fuel,hf⟩:=h;obtain ⟨qs,h1,h2,h3,h4⟩:=open_any hl fuel t _ _ ht hf hw;refine ⟨fuel,qs,h1,?_⟩;unfold wX;cases ha:Ci P t with
 | true =>
  have:∃ cs,v = .agg cs:=by grind [Value.okWide,Ci]
  obtain ⟨cs,rfl⟩:=this;rw[aS rfl];exact pG.2 ⟨cs,rfl,h2⟩
 | false =>
  obtain ⟨q,rfl,h5,h6,h7⟩:=aRB h1 ha;obtain ⟨u,us,hu,hq,hn⟩:=bg.1 h2;rw[dJ] at hn; subst hn;simp only[GM,GY,List.headD_cons];have:v.cells.toList = [v]\/∃ cs,v = .agg cs:=by cases v<;>first | exact .inr ⟨_,rfl⟩ | exact .inl rfl
  rcases this with h | ⟨cs,rfl⟩
  simp_all
  .exfalso;unfold Value.okWide at hv;unfold Ci at ha;split at hv
   .simp_all
   .simp_all
   .unfold Cell.okWide at hv;split at hv<;>simp_all[Cell.ok]
end
end Go.Proofs.YtcdceiloganlnaaGreatDoor
namespace Go.Proofs.YtcdceiloganlnaaGreatDoor
open Go.RowKit
abbrev Ij (l:Nat):Fence:=Fence.wide.inRound l
section
variable {P:Program} {l n:Nat}
theorem aWV {f:FuncId} {args:Array Value} {w:World} {R:Ending->World->Prop} (h:Calls P f args w R):CallsIn (Ij l) n P f args w R :=callsIn_wide.2 h
theorem bL8 {row:String} {args:Array Value} {w:World} {R:Value->World->Prop} (h:Rows P row args w R):RowsIn (Ij l) n P row args w R :=fun c cs _=>let ⟨v,w',r,s⟩:=h c cs; ⟨v,w',r,stepsIn_wide.2 s⟩
theorem aP0 {o:Oper} {a:Act} {w:World} {K:Act->World->Prop} {Q:Exit->Act->World->Prop} (hd:∀ c,o.op ≠ .defer c) (h:o.wp P a w K Q):o.wpIn (Ij l) n P a w K Q:=by
 refine ⟨fun _ _=>trivial,?_⟩;rw[show (Ij l).round=some l from rfl,Oper.semAt_some l a.eval o hd];unfold Oper.wp at h;generalize (execOp a.eval o).run P w=r at *;cases r with
 | ok x w' =>
  cases x<;>simp only[Oper.upon,Oper.uponIn] at h ⊢ <;>
   first
    | exact h
    | exact h.elim
    | exact ⟨fun h=>by simp[Fence.wide,Fence.inRound] at h,aWV h⟩
    | grind [Fence.wide,Fence.inRound,bL8]
 | halt x w'=>cases x<;>simp only[Oper.upon,Oper.uponIn] at h ⊢ <;> exact h
def KR (o:Oper):Bool:=match o.op with | .defer _=>false | _=>true
theorem aON {o:Oper} (h:KR o=true):∀ c,o.op ≠ .defer c:=fun c hc=>by simp[KR,hc] at h
theorem a7S {ops:Array Oper} {Q:Exit->Act->World->Prop} (hQ:¬ LetsOut Q):∀ (os:List Oper),(os.all KR)=true->∀ (a:Act) (w:World),wpList P ops Q os a w->wpListIn (Ij l) n P ops Q os a w
 | [],_,a,w,h=>h
 | o::os,hd,a,w,h=>by
  simp only[Ac,bF] at hd;unfold wpList at h;unfold wpListIn;split at h
  .rename_i hw;rw[aS hw];rcases h with h | h
   .exact Oper.wpIn_mono (fun a w=>a7S hQ os hd.2 a w) (aP0 (aON hd.1) h)
   .exact absurd h.2 hQ
  .rename_i hw;rw[aQ hw];exact ⟨fun _ _=>trivial,a7S hQ os hd.2 _ _ h⟩
theorem Qz {md:Region.Mode} {ops:Array Oper} {Q:Exit->Act->World->Prop} (hQ:¬ LetsOut Q) (hd:ops.all KR=true):∀ (fuel:Nat) (L:Array Bool) (a:Act) (w:World),wpAny P md ops Q fuel L a w->wpAnyIn (Ij l) n P md ops Q fuel L a w
 | 0,L,a,w,h=>h
 | fuel+1,L,a,w,h=>by
  refine ⟨h.1,fun i hi => ?_⟩;have h2:=h.2 i hi;unfold wpOp at h2;unfold wpOpIn;cases ho:ops[i]? with
  | none=>rw[ho] at h2; exact Qz hQ hd fuel _ a w h2
  | some o =>
   rw[ho] at h2;have hdo:KR o=true:=by obtain ⟨hlt,he⟩:=yQ.1 ho;rw[Array.all_eq_true] at hd;rw[<- he]; exact hd i hlt
   show if Region.wanted o (yielded ops a.tmps)=true then _ else _
   have h2:if Region.wanted o (yielded ops a.tmps)=true then _ else _:=h2
   split at h2
   .rename_i hw;rw[aS hw];rcases h2 with h2 | h2
    .exact Oper.wpIn_mono (fun a w=>Qz hQ hd fuel _ a w) (aP0 (aON hdo) h2)
    .exact absurd h2.2 hQ
   .rename_i hw;rw[aQ hw];exact ⟨fun _ _=>trivial,Qz hQ hd fuel _ _ _ h2⟩
end
def oI:Code->Bool
 | .region _ ops _=>ops.all KR
 | .seq x y=>oI x&&oI y
 | .cond _ x y=>oI x&&oI y
 | .block _ x=>oI x
 | .loop x=>oI x
 | .scope _=>false
 | .rangeFunc _ _ _ _=>false
 | _=>true
section
variable {E:AE} {m0 l n:Nat} {out:Nat->Nat}
theorem a7Q {M:Mem} {B:aN} {Z:ASt} {t:Array Value} {w:World} {ds:List Deferred} {Q:AX->ASt->Prop}:¬ LetsOut (lift E out m0 M B Z t w ds Q):=by rintro ⟨a,w',ax,Z',M',B',h,_⟩;cases ax<;>cases h
theorem Ed (hm:E.P.follows .mixedOrders=true):∀ (c:Code),oI c=true->∀ {M:Mem} {B:aN} {Z:ASt} {a:Act} {w:World} {Q:AX->ASt->Prop},Inv E.n M B out Z a.tmps w->dD E m0 c Q Z->c.wpIn (Ij l) n E.P (lift E out m0 M B Z a.tmps w a.defers Q) a w
 | .skip,_,M,B,Z,a,w,Q,hI,h=>wpIn_skip ⟨.normal,Z,M,B,rfl,h,rfl,bz.refl hI⟩
 | .label _,_,M,B,Z,a,w,Q,hI,h=>wpIn_label ⟨.normal,Z,M,B,rfl,h,rfl,bz.refl hI⟩
 | .exit id,_,M,B,Z,a,w,Q,hI,h=>wpIn_exit ⟨.exit id,Z,M,B,rfl,h,rfl,bz.refl hI⟩
 | .ret,_,M,B,Z,a,w,Q,hI,h=>wpIn_ret ⟨.ret,Z,M,B,rfl,h,rfl,bz.refl hI⟩
 | .region id ops draw,hn,M,B,Z,a,w,Q,hI,h=>by
  have hk:=ZB (E:=E) hI;have hn:ops.all KR=true:=hn;rw[dD] at h;cases draw with
  | false =>simp only[GM,GY] at h;exact wpIn_region_list (a7S a7Q _ (by rw[Array.all_toList]; exact hn) _ _ (RH _ hk.inv h fun Z' M' B' a' w' hq hG hd=>⟨.normal,Z',M',B',rfl,hq,hd,(hk.trans hG).c⟩))
  | true =>
   simp only[yY] at h;have hd:=hk.inv.drew;rcases h with ⟨hok,h⟩ | h
   .obtain ⟨Z',hc,hq⟩:=a2T ops.toList 0 (fun j=>by simp) h;have hu:pJ ops.size (Array.replicate ops.size false)=List.range' 0 ops.toList.length:=by unfold pJ;rw[aC5.2 (fun i hi=>by have:=WJ.1 hi; simp[this]),aCD]; simp
    refine wpIn_region_any hm (Qz a7Q hn _ _ _ _ ?_);refine aDV hok ops.size (Array.replicate ops.size false) (K:=Q .normal) (Z':=Z') (by simp) (by rw[hu]; simp) (fun j o _ h => ?_) hd.1 (by rw[hu]; exact hc) hq fun M' B' a' w' hk' hG hd'=>⟨.normal,Z',M',B',rfl,hk',hd',((hk.trans hd.2).trans hG).c⟩
    have h':(Array.replicate ops.size false).getD j false=true:=h;simp[Array.getElem?_replicate] at h';split at h'<;>simp at h'
   .exact wpIn_region_any hm (Qz a7Q hn _ _ _ _ (a2P ops.size _ hd.1 (Wv _ hd.1.gp h) fun Zt M' B' a' w' hq hG hd'=>⟨.normal,Zt,M',B',rfl,hq,hd',((hk.trans hd.2).trans hG).c⟩))
 | .seq x y,hn,M,B,Z,a,w,Q,hI,h=>by
  simp only[oI,bF] at hn;rw[dD] at h;refine MM (uJ (Ed hm x hn.1 hI h) fun e a' w' hl => ?_);obtain ⟨ax,Z',M',B',rfl,hq,hd,hG⟩:=hl;cases ax with
  | normal =>
   obtain ⟨ks,hq⟩:=hq;obtain ⟨M2,B2,hz⟩:=Y6 (m0:=m0) ks hG.inv;have hG:=hG.trans hz;rcases hq with hq | ⟨l,m,hm0,hg,hq⟩
   .exact uJ (Ed hm y hn.2 hG.inv hq) fun e a2 w2 hl2=>by rw[hd] at hl2; exact Zo hG hl2
   .have hgc:=hG.trans (Ez hG.inv hm0 hg);exact uJ (Ed hm y hn.2 hgc.inv hq) fun e a2 w2 hl2=>by rw[hd] at hl2; exact Zo hgc hl2
  | ret=>exact ⟨.ret,Z',M',B',rfl,hq,hd,hG⟩
  | exit i=>exact ⟨.exit i,Z',M',B',rfl,hq,hd,hG⟩
 | .cond c x y,hn,M,B,Z,a,w,Q,hI,h=>by
  simp only[oI,bF] at hn;rw[dD] at h;split at h
  .rename_i b hb;have he:=jo.1 (hI.rd _ _ hb).1;refine wpIn_cond_split he (fun hb=>Ed hm x hn.1 hI (h.1 hb)) (fun hb=>Ed hm y hn.2 hI (h.2 hb))
  .exact h.elim
 | .block id x,hn,M,B,Z,a,w,Q,hI,h=>by
  rw[dD] at h;refine wpIn_block (uJ (Ed hm x (by simpa[oI] using hn) hI h) fun e a' w' hl => ?_);obtain ⟨ax,Z',M',B',rfl,hq,hd,hG⟩:=hl;cases ax with
  | normal=>exact ⟨.normal,Z',M',B',rfl,hq,hd,hG⟩
  | ret=>exact ⟨.ret,Z',M',B',rfl,hq,hd,hG⟩
  | exit i =>
   simp only[AX.toExit,Exit.inBlock];simp only[NV] at hq;split
   .rename_i e; rw[aS e] at hq; exact ⟨.normal,Z',M',B',rfl,hq,hd,hG⟩
   .rename_i e; rw[aQ e] at hq; exact ⟨.exit i,Z',M',B',rfl,hq,hd,hG⟩
 | .scope x,hn,_,_,_,_,_,_,_,_=>by simp[oI] at hn
 | .loop x,hn,M,B,Z,a,w,Q,hI,h=>by
  rw[dD] at h;obtain ⟨k,hk⟩:=h;refine wpIn_loop_rounds k ?_;have key:∀ (k:Nat) (M1:Mem) (B1:aN) (Z1:ASt) (a1:Act) (w1:World),bz E.n out m0 M B Z a.tmps w M1 B1 Z1 a1.tmps w1->a1.defers=a.defers->LH m0 (dD E m0 x) Q k Z1->Code.roundsIn (Ij l) n E.P x (lift E out m0 M B Z a.tmps w a.defers Q) k a1 w1:=by
   intro k;induction k with
   | zero=>intro M1 B1 Z1 a1 w1 _ _ h; exact h.elim
   | succ k ih =>
    intro M1 B1 Z1 a1 w1 hG hd h;obtain ⟨l,m,hm0,hg,hb⟩:=h;have hgc:=Ez hG.inv hm0 hg;rw[roundsIn_succ];refine uJ (Ed hm x (by simpa[oI] using hn) hgc.inv hb) fun e a' w' hl => ?_
    obtain ⟨ax,Z',M',B',rfl,hq,hd',hG'⟩:=hl;have hG2:=(hG.trans hgc).trans hG';cases ax with
    | normal=>exact ih M' B' Z' a' w' hG2 (by rw[hd',hd]) hq
    | ret=>exact ⟨.ret,Z',M',B',rfl,hq,by rw[hd',hd],hG2⟩
    | exit i=>exact ⟨.exit i,Z',M',B',rfl,hq,by rw[hd',hd],hG2⟩
  exact key k M B Z a w (bz.refl hI) rfl hk
 | .rangeFunc f ps az b,_,_,_,_,_,_,_,_,h=>by rw[dD] at h; exact h.elim
 | .goto l,_,_,_,_,_,_,_,_,h=>by rw[dD] at h; exact h.elim
 | .refuse l,_,_,_,_,_,_,_,_,h=>by rw[dD] at h; exact h.elim
end
structure qV (l n:Nat) (out:Nat->Nat) (m0:Nat) (M:Mem) (B:aN) (Z:ASt) (t:Array Value) (w:World) (M':Mem) (B':aN) (Z':ASt) (t':Array Value) (w':World):Prop where
 inv:Inv n M' B' out Z' t' w'
 mem:∀ (b o:Nat) (v:Value),M b o=some v->M' b o=some v
 pre:∀ (i:Nat) (c:Nat×Nat×TypeId),i<m0->B[i]? = some c->B'[i]? = some c
 os:w'.os=w.os
 tape:w'.tape=w.tape
 output:w'.output=w.output
 size:w.heap.size<=w'.heap.size
 blk:∀ b,b<w.heap.size->b≠l->fp B Z t w b=0->w'.heap[b]? = w.heap[b]? /\ ∀ o,M' b o=M b o
 own:∀ b,b<w.heap.size->fp B' Z' t' w' b<=fp B Z t w b
section
variable {n l:Nat} {out:Nat->Nat} {m0:Nat} {M M1 M2:Mem} {B B1 B2:aN} {Z Z1 Z2:ASt} {t t1 t2:Array Value} {w w1 w2:World}
theorem bz.gl (h:bz n out m0 M B Z t w M1 B1 Z1 t1 w1):qV l n out m0 M B Z t w M1 B1 Z1 t1 w1 :=⟨h.inv,h.mem,h.pre,h.fr.os,h.fr.tape,h.fr.output,h.fr.size,fun b hb _ h0=>h.fr.blk b hb h0,h.own⟩
theorem qV.trans (h:qV l n out m0 M B Z t w M1 B1 Z1 t1 w1) (k:qV l n out m0 M1 B1 Z1 t1 w1 M2 B2 Z2 t2 w2):qV l n out m0 M B Z t w M2 B2 Z2 t2 w2 :=
 ⟨k.inv,fun b o v e=>k.mem b o v (h.mem b o v e),fun i c hi e=>k.pre i c hi (h.pre i c hi e),k.os.trans h.os,k.tape.trans h.tape,k.output.trans h.output,mP h.size k.size,
  fun b hb hl h0=>by obtain ⟨h1,h2⟩:=h.blk b hb hl h0;obtain ⟨k1,k2⟩:=k.blk b (QR hb h.size) hl (by have:=h.own b hb; omega);simp_all,
  fun b hb=>mP (k.own b (QR hb h.size)) (h.own b hb)⟩
theorem Ry (hI:Inv n M B out Z t w) (ho:1<=out l):fp B Z t w l=0:=by have:=hI.cnt l; omega
theorem a9C (hI:Inv n M B out Z t w) (ho:1<=out l) {r:Loop} (hr:w.heap[l]? = some (.loop r)) (r':Loop):qV l n out m0 M B Z t w M B Z t (w.putObj l (.loop r')):=by
 have h0:=Ry hI ho;have hx:=hI.ext (M':=M) (w':=w.putObj l (.loop r')) (dG.refl _ _) (fun b o v h=>by
  obtain ⟨h1,h2⟩:=hI.mem b o v h;grind [World.cell?,World.putObj_heap_other]) (fun b hb=>by
  grind [World.putObj_heap_other]) (by simp)
 exact ⟨hx.1,fun _ _ _ h=>h,fun _ _ _ h=>h,rfl,rfl,rfl,by simp,fun b _ hl _=>⟨World.putObj_heap_other hl,fun _=>rfl⟩,fun b _=>by rw[hx.2]; omega⟩
theorem Uw (hI:Inv n M B out Z t w) (ho:1<=out l) {r:Loop} (hr:w.heap[l]? = some (.loop r)) (hG:bz n out m0 M B Z t w M1 B1 Z1 t1 w1):w1.heap[l]? = some (.loop r):=by have hl:l<w.heap.size:=(yQ.1 hr).1;rw[(hG.fr.blk l hl (Ry hI ho)).1]; exact hr
end
def AX.jump:AX->Option Code
 | .normal=>none
 | .ret=>some .ret
 | .exit i=>some (.exit i)
theorem a09 {w:World} {l:Nat} {o o':Obj} (h:w.heap[l]? = some o):(w.putObj l o').heap[l]? = some o':=by have hl:l<w.heap.size:=(yQ.1 h).1;simp[World.putObj,hl]
theorem bL7 {E:AE} (hm:E.P.follows .mixedOrders=true) {assign body:Code} (ha:oI assign=true) (hb:oI body=true) {n l m0:Nat} {out:Nat->Nat} {M:Mem} {B:aN} {Z:ASt} {t:Array Value} {w:World} {f:FuncId}
 (hI:Inv E.n M B out Z t w) (ho:1<=out l) {r:Loop} (hr:w.heap[l]? = some (.loop r)) (hst:r.state = .ready) {Q:AX->ASt->Prop}
 (h:dD E m0 assign (D8 (dD E m0 body Q) fun _ _=>False) Z) {R:Ending->World->Prop}
 (hR:∀ ax Z' M' B' t' w',Q ax Z'->qV l E.n out m0 M B Z t w M' B' Z' t' w'->w'.heap[l]? = some (.loop { r with state:=if ax.jump.isNone then .ready else .done,pending:=ax.jump })->R (.returned (.bool ax.jump.isNone)) w') :
 RoundIn Fence.wide n E.P l f t assign body w R:=by
 refine roundIn_of_wpIn trivial ?_;refine uJ (Ed (n:=n) (l:=l) hm assign ha (a := { tmps:=t,defers := [] }) hI h) fun e a1 w1 hl => ?_
 obtain ⟨ax,Z1,M1,B1,rfl,hq,hd,hG⟩:=hl;cases ax with
 | ret=>exact hq.elim
 | exit i=>exact hq.elim
 | normal =>
  have hr1:=Uw hI ho hr hG;have hP1:=a9C (m0:=m0) hG.inv ho hr1 { r with state := .busy };refine ⟨_,run_beginRound hr1 hst,?_⟩;have hr2:=a09 (o' := .loop { r with state := .busy }) hr1;refine uJ (Ed (n:=n) (l:=l) hm body hb (a:=a1) hP1.inv hq) fun e a2 w2 hl => ?_
  obtain ⟨ax,Z2,M2,B2,rfl,hq2,hd2,hG2⟩:=hl;have hr3:=Uw hP1.inv ho hr2 hG2;have hend:=fun j=>run_endRound (P:=E.P) j hr3
  have hfin:=fun j=>(((hG.gl.trans hP1).trans hG2.gl).trans (a9C (m0:=m0) hG2.inv ho hr3 { ({ r with state := .busy }:Loop) with state:=if Option.isNone j then .ready else .done,pending:=j }))
  cases ax with
  | normal=>exact ⟨_,_,hend none,hR .normal Z2 M2 B2 a2.tmps _ hq2 (hfin none) (a09 hr3)⟩
  | ret=>exact ⟨_,_,hend (some .ret),hR .ret Z2 M2 B2 a2.tmps _ hq2 (hfin (some .ret)) (a09 hr3)⟩
  | exit i=>exact ⟨_,_,hend (some (.exit i)),hR (.exit i) Z2 M2 B2 a2.tmps _ hq2 (hfin (some (.exit i))) (a09 hr3)⟩
theorem a8T {s:fD} (h:∀ kp,kp∈s->kp.2.own=false) (t:Array Value) (b:Nat):iP s t b=0:=by
 induction s with
 | nil=>rfl
 | cons a l ih =>grind [iP,dC]
theorem aLA {n n':Nat} {out:Nat->Nat} {M:Mem} {B:aN} {Z:ASt} {t tr:Array Value} {w:World} (hI:Inv n M B out Z t w) {sr:fD} (hsz:tr.size=n') (hs:jI sr)
 (hsl:∀ kp,kp∈sr->kp.1<n'/\Rep M B kp.2 (tr.getD kp.1 undef)/\kp.2.own=false):Inv n' M B (fun b=>out b+iP Z.s t b) ⟨sr,Z.h⟩ tr w:=by
 have h0:∀ b,iP sr tr b=0:=a8T (fun kp hk=>(hsl kp hk).2.2) tr;refine ⟨hsz,hI.mem,hs,fun k p hk => ?_,hI.heap,fun b => ?_,fun b hb => ?_⟩
 .obtain ⟨h1,h2,h3⟩:=hsl _ (a0O hk);grind [fA]
 .have:=hI.cnt b; grind [fp]
 .have:=hI.new b hb; grind [fp]
theorem bN9 {B B':aN} (h:∀ (i:Nat) (c:Nat×Nat×TypeId),i<B.length->B[i]? = some c->B'[i]? = some c):B'.take B.length=B:=by apply MG;grind
theorem aT9 {l n n' m0:Nat} {out:Nat->Nat} {M M':Mem} {B B':aN} {Z Zr Z':ASt} {t tr t':Array Value} {w w':World} (hI:Inv n M B out Z t w) (ho:1<=out l)
 (hr:Zr.h=Z.h) (hrs:∀ kp,kp∈Zr.s->kp.2.own=false) (hm:m0=Z.h.length)
 (hG:qV l n' (fun b=>out b+iP Z.s t b) m0 M B Zr tr w M' B' Z' t' w') (hb:zl m0 (Z'.h.take m0)=true) :
 qV l n out m0 M B Z t w M' B { Z with h:=Z'.h.take m0 } t w':=by
 have hB:m0=B.length:=by rw[hm]; exact hI.heap.1
 have hgc:=Ez (m0:=m0) (l := []) hG.inv (cu _) (by simp_all);have hT:B'.take m0=B:=by rw[hB] at hG ⊢;exact bN9 hG.pre
 rw[hT] at hgc;have hle:dG M M' B B:=⟨hG.mem,fun _ _ h=>h⟩;have hfr:∀ b,fp B Zr tr w b=aP w Z.h B b:=fun b=>by grind [fp,a8T]
 have hfg:∀ b,fp B (Z'.gc [] m0) t' w' b=aP w' (Z'.h.take m0) B b:=fun b=>by grind [fp,ASt.gc,a8T]
 have hkeep:∀ b,1<=iP Z.s t b->w'.heap[b]? = w.heap[b]? /\ ∀ o,M' b o=M b o:=fun b h1=>by have h2:=hI.cnt b;simp only[fp] at h2;refine hG.blk b (PK hI (by simp only[fp]; omega)) (fun e=>by grind) ?_;rw[hfr]; omega
 refine ⟨⟨hI.size,hgc.inv.mem,hI.gp,fun k p hk => ?_,hgc.inv.heap,fun b => ?_,fun b hb => ?_⟩,hG.mem,fun _ _ _ h=>h,hG.os,hG.tape,hG.output,hG.size,fun b hb hl h0 => ?_,fun b hb => ?_⟩
 .obtain ⟨s1,s2,s3⟩:=hI.slots k p hk;refine ⟨s1,s2.mono hle,s3.kept fun b hb=>hkeep b ?_⟩;have e1:=Dx (s:=Z.s) (t:=t) (k:=k) (b:=b);grind [oq]
 .have:=hgc.inv.cnt b;rw[hfg] at this;simp only[fp]; omega
 .have:=hgc.inv.new b hb;rw[hfg] at this;simp only[fp]; omega
 .simp only[fp] at h0;exact hG.blk b hb hl (by rw[hfr]; omega)
 .have h1:=hG.own b hb;have h2:=hgc.own b (QR hb hG.size);rw[hfg] at h2;rw[hfr] at h1;simp only[fp]; omega
theorem bPQ {E E':AE} (hP:E'.P=E.P) (hm:E.P.follows .mixedOrders=true) {o:Oper} {c:Call} (hop:o.op = .call c) {f:Operand} (hf:c.callee = .value f) {n l:Nat} {out:Nat->Nat} {M:Mem} {B:aN} {Z:ASt} {a:Act} {w:World}
 (hv:a.eval f = .func (.yield l) #[] #[])
 (hI:Inv E.n M B out Z a.tmps w) (ho:1<=out l) {r:Loop} (hr:w.heap[l]? = some (.loop r)) (hst:r.state = .ready) (ha:oI r.assign=true) (hb:oI r.body=true)
 (hsz:c.args.size=r.params.size) {sr:fD} (hs:jI sr)
 (hn:((r.params.zip (c.args.map a.eval)).foldl (fun tmps (t,a)=>tmps.setIfInBounds t a) r.tmps).size=E'.n)
 (hsl:∀ kp,kp∈sr->kp.1<E'.n/\Rep M B kp.2 (((r.params.zip (c.args.map a.eval)).foldl (fun tmps (t,a)=>tmps.setIfInBounds t a) r.tmps).getD kp.1 undef)/\kp.2.own=false)
 {Q:AX->ASt->Prop} (h:dD E' Z.h.length r.assign (D8 (dD E' Z.h.length r.body Q) fun _ _=>False) ⟨sr,Z.h⟩)
 (a5W:∀ ax Z',Q ax Z'->zl Z.h.length (Z'.h.take Z.h.length)=true)
 {K:Act->World->Prop} {QQ:Exit->Act->World->Prop}
 (hK:∀ ax Z' M' w',Q ax Z'->qV l E.n out Z.h.length M B Z a.tmps w M' B { Z with h:=Z'.h.take Z.h.length } a.tmps w' ->
  w'.heap[l]? = some (.loop { r with state:=if ax.jump.isNone then .ready else .done,pending:=ax.jump })->K (a.put o.dst (.bool ax.jump.isNone)) w') :
 o.wpIn Fence.wide n E.P a w K QQ:=by
 refine ⟨fun _ _=>trivial,?_⟩;rw[show Fence.wide.round=none from rfl,Oper.semAt_none];have hrun:(execOp a.eval o).run E.P w = .ok (.round l r.fn ((r.params.zip (c.args.map a.eval)).foldl (fun tmps (t,a)=>tmps.setIfInBounds t a) r.tmps) r.assign r.body) w:=by obtain ⟨callee,XT,cts⟩:=c;simp only at hf;subst hf;grind [execOp,resolve,Deferred.ofValue,invoke,run_yield]
 rw[hrun,Oper.uponIn_round];refine ⟨fun h=>by simp[Fence.wide] at h,?_⟩;rw[<- hP];refine bL7 (E:=E') (m0:=Z.h.length) (by rw[hP]; exact hm) ha hb (aLA hI hn hs hsl) (by omega) hr hst h fun ax Z' M' B' t' w' hq hG hrec => ?_
 exact hK ax Z' M' w' hq (aT9 (Zr:=⟨sr,Z.h⟩) hI ho rfl (fun kp hk=>(hsl kp hk).2.2) rfl hG (a5W ax _ hq)) hrec
theorem bHP {P:Program} {n:Nat} {o:Oper} {a:Act} {w:World} {K:Act->World->Prop} {Q:Exit->Act->World->Prop} (h:o.wp P a w K Q):o.wpIn Fence.wide n P a w K Q:=by
 refine ⟨fun _ _=>trivial,?_⟩;rw[show Fence.wide.round=none from rfl,Oper.semAt_none];unfold Oper.wp at h;generalize (execOp a.eval o).run P w=r at *;cases r with
 | ok x w' =>
  cases x<;>simp only[Oper.upon,Oper.uponIn] at h ⊢ <;>
   first
    | exact h
    | exact h.elim
    | exact ⟨fun h=>by simp[Fence.wide] at h,callsIn_wide.2 h⟩
    | exact ⟨fun h=>by simp[Fence.wide] at h,fun c cs _=>let ⟨v,w',r,s⟩:=h c cs; ⟨v,w',r,stepsIn_wide.2 s⟩⟩
 | halt x w'=>cases x<;>simp only[Oper.upon,Oper.uponIn] at h ⊢ <;> exact h
section
variable {E:AE} {out:Nat->Nat}
theorem XD {n:Nat} {ops:Array Oper} {Q:Exit->Act->World->Prop} {rest:List Oper}:∀ (l:List Oper) {M:Mem} {B:aN} {Z:ASt} {a:Act} {w:World} {K:ASt->Prop},Inv E.n M B out Z a.tmps w->lD E ops l K Z ->
 (∀ Z' M' B' a' w',K Z'->Good E.n out M B Z a.tmps w M' B' Z' a'.tmps w'->a'.defers=a.defers->wpListIn Fence.wide n E.P ops Q rest a' w')->wpListIn Fence.wide n E.P ops Q (l ++ rest) a w
 | [],M,B,Z,a,w,K,hI,h,hQ=>hQ Z M B a w h (Good.refl hI) rfl
 | o::l,M,B,Z,a,w,K,hI,h,hQ=>by
  have run:wU E o (lD E ops l K) Z->o.wpIn Fence.wide n E.P a w (wpListIn Fence.wide n E.P ops Q (l ++ rest)) Q:=fun h =>bHP (XC hI h fun v Z' M' B' w' hK hG=>XD l hG.inv hK fun Z2 M2 B2 a2 w2 hk hG2 hd=>hQ Z2 M2 B2 a2 w2 hk (hG.trans hG2) (by rw[hd,Act.FU]))
  have skip:jB E o.dst (.tuple []) Z (lD E ops l K)->wpListIn Fence.wide n E.P ops Q (l ++ rest) (a.put o.dst undef) w:=fun h=>by
   unfold jB at h;split at h
   .rename_i Z' hp;have hG:=a0Q hI hp;exact XD l hG.inv h fun Z2 M2 B2 a2 w2 hk hG2 hd=>hQ Z2 M2 B2 a2 w2 hk (hG.trans hG2) (by rw[hd,Act.FU])
   simp_all
  rw[lD] at h;rw[gu];unfold wpListIn;split at h
  grind [Region.wanted]
  .rename_i j want hg;split at h
   .rename_i hv;rw[aQ (by grind [Region.wanted,OQ])];exact ⟨fun _ _=>trivial,skip h⟩
   .rename_i b hv;by_cases hb:b=want;grind [Region.wanted,OQ]
    .rw[aQ (by grind [Region.wanted,OQ])];exact ⟨fun _ _=>trivial,skip (h.2 hb)⟩
   simp_all
end
open Classical in
def PE (ax:AX) (Zt:ASt):AX->ASt->R:=fun e Z=>if e=ax/\Z=Zt then some (.nilp,[]) else none
theorem IX {X:XE} (hV:yN X.V) (hW:tX X.W) (hC:o7 X.E.P X.C) (hL:I7 X) {c:Code} {Z Zt:ASt} {ax:AX} (h:∀ K:AX->ASt->R,bG X c K Z=K ax Zt) :
 dD X.E X.m0 c (fun e Z'=>e=ax/\Z'=Zt) Z:=by
 have h1:bG X c (PE ax Zt) Z=some (.nilp,[]):=by rw[h]; simp[PE]
 grind [vN,PE]
theorem We {S:SE} (hm:S.P.follows .mixedOrders=true) (hS:S.OK) (h0:o7 S.P S.C0) {E:AE} (hE:S.wp E=E) {m0:Nat}:I7 (S.xe S.CC S.LL E m0):=fun l m x K Z v hv=>by obtain ⟨n,hn⟩:=(a7R (f:=fun n=>(S.ah n).2 E m0 l m x K (Z.gc l m)) fun n v hv=>(Fb hS n).2 _ _ _ _ _ _ _ _ _ (fun _ _ _ h=>h) hv).1 hv;exact ⟨n,(aAY hm hS h0 n).2 E m0 l m x K Z v hE hn⟩
def zV (rc:Loop) (j:AX):Loop := { rc with state:=if j.jump.isNone then .ready else .done,pending:=j.jump }
def Oq (n l:Nat) (rc:Loop) (out:Nat->Nat) (m0:Nat) (M:Mem) (B:aN) (Z:ASt) (t:Array Value) (w:World) (ds:List Deferred) (Q:AX->ASt->AX->Prop) (e:Exit) (a':Act) (w':World):Prop :=∃ ax Z' j M' B',e=ax.toExit/\Q ax Z' j/\a'.defers=ds/\qV l n out m0 M B Z t w M' B' Z' a'.tmps w'/\w'.heap[l]? = some (.loop (zV rc j))
def Qp (sO:fD) (n' m0:Nat) (tm:Array Value) (M:Mem) (B:aN):Prop:=∀ kp,kp∈sO->kp.1<n'/\Rep M B kp.2 (tm.getD kp.1 undef)/\kp.2.own=false/\kp.2.blw m0=true
theorem Qp.mono {sO:fD} {n' m0:Nat} {tm:Array Value} {M:Mem} {B:aN} (h:Qp sO n' m0 tm M B) {M':Mem} {B':aN} (hm:∀ (b o:Nat) (v:Value),M b o=some v->M' b o=some v)
 (hp:∀ (i:Nat) (c:Nat×Nat×TypeId),i<m0->B[i]? = some c->B'[i]? = some c):Qp sO n' m0 tm M' B':=fun kp hk=>by
 obtain ⟨h1,h2,h3,h4⟩:=h kp hk;refine ⟨h1,(h2.blw h4).mono ⟨hm,fun i c hc => ?_⟩,h3,h4⟩;rw[lM] at hc;grind
structure YC where
 E:AE
 E':AE
 l:Nat
 m0:Nat
 rc:Loop
 out:Nat->Nat
 sO:fD
structure YC.OK (Y:YC):Prop where
 hm:Y.E.P.follows .mixedOrders=true
 hP:Y.E'.P=Y.E.P
 ho:1<=Y.out Y.l
def Tr (Y:YC) (c:Code) (Q:AX->ASt->AX->Prop) (j:AX) (Z:ASt):Prop :=
 ∀ (n:Nat) (M:Mem) (B:aN) (a:Act) (w:World),Inv Y.E.n M B Y.out Z a.tmps w->w.heap[Y.l]? = some (.loop (zV Y.rc j))->Qp Y.sO Y.E'.n Y.m0 Y.rc.tmps M B ->
  c.wpIn Fence.wide n Y.E.P (Oq Y.E.n Y.l Y.rc Y.out Y.m0 M B Z a.tmps w a.defers Q) a w
def aSH (k:ASt->AX->Prop) (Q:AX->ASt->AX->Prop):AX->ASt->AX->Prop
 | .normal,Z,j=>k Z j
 | e,Z,j=>Q e Z j
def aE7 (id:Nat) (Q:AX->ASt->AX->Prop):AX->ASt->AX->Prop
 | .exit i,Z,j=>if i=id then Q .normal Z j else Q (.exit i) Z j
 | e,Z,j=>Q e Z j
theorem aN8 {n l:Nat} {rc:Loop} {out:Nat->Nat} {m0:Nat} {M M1:Mem} {B B1:aN} {Z Z1:ASt} {t t1:Array Value} {w w1:World} {ds:List Deferred} {Q:AX->ASt->AX->Prop} (h:qV l n out m0 M B Z t w M1 B1 Z1 t1 w1) {e:Exit} {a':Act} {w':World}
 (k:Oq n l rc out m0 M1 B1 Z1 t1 w1 ds Q e a' w'):Oq n l rc out m0 M B Z t w ds Q e a' w':=by
 obtain ⟨ax,Z',j,M',B',h1,h2,h3,h4,h5⟩:=k;exact ⟨ax,Z',j,M',B',h1,h2,h3,h.trans h4,h5⟩
section
variable {Y:YC} {c:Code} {Q:AX->ASt->AX->Prop} {j:AX} {Z:ASt}
theorem Tr.mono {Q':AX->ASt->AX->Prop} (h:Tr Y c Q j Z) (hq:∀ e Z j,Q e Z j->Q' e Z j):Tr Y c Q' j Z:=fun n M B a w hI hr hO=>by
 refine uJ (h n M B a w hI hr hO) fun e a' w' hl => ?_
 obtain ⟨ax,Z',j',M',B',h1,h2,h3,h4,h5⟩:=hl;exact ⟨ax,Z',j',M',B',h1,hq _ _ _ h2,h3,h4,h5⟩
theorem Tr.a8K (hY:Y.OK) {Q':AX->ASt->Prop} (h:dD Y.E Y.m0 c Q' Z) (hq:∀ e Z',Q' e Z'->Q e Z' j):Tr Y c Q j Z:=fun n M B a w hI hr hO=>by refine wpIn_wide.2 (uy (wV (out:=Y.out) hY.hm c hI h) fun e a' w' hl => ?_);obtain ⟨ax,Z',M',B',rfl,hq',hd,hG⟩:=hl;exact ⟨ax,Z',j,M',B',rfl,hq _ _ hq',hd,hG.gl,Uw hI hY.ho hr hG⟩
theorem Tr.gc {l:List Nat} {m:Nat} (hm:Y.m0<=m) (hg:DR l m Z=true) (h:Tr Y c Q j (Z.gc l m)):Tr Y c Q j Z:=fun n M B a w hI hr hO=>by have hG:=Ez (m0:=Y.m0) hI hm hg;exact uJ (h n M _ a w hG.inv hr (hO.mono hG.mem hG.pre)) fun e a' w' hl=>aN8 hG.gl hl
theorem Tr.seq {x y:Code} (h:Tr Y x (aSH (fun Z' j'=>Tr Y y Q j' Z') Q) j Z):Tr Y (.seq x y) Q j Z:=fun n M B a w hI hr hO=>by
 refine MM (uJ (h n M B a w hI hr hO) fun e a' w' hl => ?_);obtain ⟨ax,Z',j',M',B',rfl,hq,hd,hG,hr'⟩:=hl;cases ax with
 | normal=>exact uJ (hq n M' B' a' w' hG.inv hr' (hO.mono hG.mem hG.pre)) fun e a2 w2 hl2=>by rw[hd] at hl2; exact aN8 hG hl2
 | ret=>exact ⟨.ret,Z',j',M',B',rfl,hq,hd,hG,hr'⟩
 | exit i=>exact ⟨.exit i,Z',j',M',B',rfl,hq,hd,hG,hr'⟩
theorem Tr.cond {o:Operand} {x y:Code} {b:Bool} (hb:Z.rd o=some (.bool b)) (h1:b=true->Tr Y x Q j Z) (h2:b=false->Tr Y y Q j Z):Tr Y (.cond o x y) Q j Z:=fun n M B a w hI hr hO =>wpIn_cond_split (jo.1 (hI.rd _ _ hb).1) (fun hb=>h1 hb n M B a w hI hr hO) (fun hb=>h2 hb n M B a w hI hr hO)
theorem Tr.block {id:Nat} {x:Code} (h:Tr Y x (aE7 id Q) j Z):Tr Y (.block id x) Q j Z:=fun n M B a w hI hr hO=>by
 refine wpIn_block (uJ (h n M B a w hI hr hO) fun e a' w' hl => ?_);obtain ⟨ax,Z',j',M',B',rfl,hq,hd,hG,hr'⟩:=hl;cases ax with
 | normal=>exact ⟨.normal,Z',j',M',B',rfl,hq,hd,hG,hr'⟩
 | ret=>exact ⟨.ret,Z',j',M',B',rfl,hq,hd,hG,hr'⟩
 | exit i =>
  simp only[AX.toExit,Exit.inBlock];simp only[aE7] at hq;split
  .rename_i e; rw[aS e] at hq; exact ⟨.normal,Z',j',M',B',rfl,hq,hd,hG,hr'⟩
  .rename_i e; rw[aQ e] at hq; exact ⟨.exit i,Z',j',M',B',rfl,hq,hd,hG,hr'⟩
theorem Tr.scope {x:Code} (h:Tr Y x Q j Z):Tr Y (.scope x) Q j Z:=fun n M B a w hI hr hO=>by refine wpIn_wide.2 (wp_scope_straight (uy (wpIn_wide.1 (h n M B a w hI hr hO)) fun e a' w' hl => ?_));obtain ⟨ax,Z',j',M',B',rfl,hq,hd,hG,hr'⟩:=hl;cases ax<;>exact ⟨_,Z',j',M',B',rfl,hq,hd,hG,hr'⟩
theorem Tr.ret (h:Q .ret Z j):Tr Y .ret Q j Z:=fun n M B a w hI hr hO=>wpIn_ret ⟨.ret,Z,j,M,B,rfl,h,rfl,(bz.refl hI).gl,hr⟩
theorem Tr.exit {i:Nat} (h:Q (.exit i) Z j):Tr Y (.exit i) Q j Z:=fun n M B a w hI hr hO=>wpIn_exit ⟨.exit i,Z,j,M,B,rfl,h,rfl,(bz.refl hI).gl,hr⟩
theorem Tr.skip (h:Q .normal Z j):Tr Y .skip Q j Z:=fun n M B a w hI hr hO=>wpIn_skip ⟨.normal,Z,j,M,B,rfl,h,rfl,(bz.refl hI).gl,hr⟩
theorem Tr.label {i:Nat} (h:Q .normal Z j):Tr Y (.label i) Q j Z:=fun n M B a w hI hr hO=>wpIn_label ⟨.normal,Z,j,M,B,rfl,h,rfl,(bz.refl hI).gl,hr⟩
def Qv (Y:YC) (x:Code) (Q:AX->ASt->AX->Prop):Nat->AX->ASt->Prop
 | 0,_,_=>False
 | k+1,j,Z=>Tr Y x (aSH (fun Z' j'=>Qv Y x Q k j' Z') Q) j Z
theorem Tr.loop {x:Code} {k:Nat} (h:Qv Y x Q k j Z):Tr Y (.loop x) Q j Z:=fun n M B a w hI hr hO=>by
 refine wpIn_loop_rounds k ?_;have key:∀ (k:Nat) (j1:AX) (M1:Mem) (B1:aN) (Z1:ASt) (a1:Act) (w1:World),qV Y.l Y.E.n Y.out Y.m0 M B Z a.tmps w M1 B1 Z1 a1.tmps w1->w1.heap[Y.l]? = some (.loop (zV Y.rc j1))->a1.defers=a.defers->Qv Y x Q k j1 Z1 ->
  Code.roundsIn Fence.wide n Y.E.P x (Oq Y.E.n Y.l Y.rc Y.out Y.m0 M B Z a.tmps w a.defers Q) k a1 w1:=by
  intro k;induction k with
  | zero=>intro j1 M1 B1 Z1 a1 w1 _ _ _ h; exact h.elim
  | succ k ih =>
   intro j1 M1 B1 Z1 a1 w1 hG hr1 hd h;rw[roundsIn_succ];refine uJ (h n M1 B1 a1 w1 hG.inv hr1 (hO.mono hG.mem hG.pre)) fun e a' w' hl => ?_
   obtain ⟨ax,Z',j',M',B',rfl,hq,hd',hG',hr'⟩:=hl;have hG2:=hG.trans hG';cases ax with
   | normal=>exact ih j' M' B' Z' a' w' hG2 hr' (by rw[hd',hd]) hq
   | ret=>exact ⟨.ret,Z',j',M',B',rfl,hq,by rw[hd',hd],hG2,hr'⟩
   | exit i=>exact ⟨.exit i,Z',j',M',B',rfl,hq,by rw[hd',hd],hG2,hr'⟩
 exact key k j M B Z a w (bz.refl hI).gl hr rfl h
theorem qV.weak {l n:Nat} {out:Nat->Nat} {m0 m1:Nat} {M M1:Mem} {B B1:aN} {Z Z1:ASt} {t t1:Array Value} {w w1:World} (h:qV l n out m1 M B Z t w M1 B1 Z1 t1 w1) (hm:m0<=m1):qV l n out m0 M B Z t w M1 B1 Z1 t1 w1 :=⟨h.inv,h.mem,fun i c hi e=>h.pre i c (by omega) e,h.os,h.tape,h.output,h.size,h.blk,h.own⟩
theorem Tr.yield (hY:Y.OK) {id:Nat} {ops:Array Oper} {pre post:List Oper} {o:Oper} (hops:ops.toList=pre ++ o::post)
 {cl:Call} (hop:o.op = .call cl) (hg:o.guard=none) {f x y:Operand} (hf:cl.callee = .value f) (hargs:cl.args = #[x,y]) {p q:Nat} (hp:Y.rc.params = #[p,q]) (hpq:p<q) (hqn:q<Y.E'.n)
 (hpO:∀ kp,kp∈Y.sO->kp.1<p) (hsO:jI Y.sO) (hn:Y.rc.tmps.size=Y.E'.n) (ha:oI Y.rc.assign=true) (hb:oI Y.rc.body=true)
 (h:lD Y.E ops pre (fun Z1=>∃ px py Q1,Z1.rd f=some (.func (.yield Y.l) [] [])/\Z1.rd x=some px/\Z1.rd y=some py/\Y.m0<=Z1.h.length /\
  dD Y.E' Z1.h.length Y.rc.assign (D8 (dD Y.E' Z1.h.length Y.rc.body Q1) fun _ _=>False) ⟨Y.sO ++ [(p,px),(q,py)],Z1.h⟩ /\
  ∀ ax Z',Q1 ax Z'->zl Z1.h.length (Z'.h.take Z1.h.length)=true/\jB Y.E o.dst (.bool ax.jump.isNone) { Z1 with h:=Z'.h.take Z1.h.length } fun Z2=>lD Y.E ops post (fun Z3=>Q .normal Z3 ax) Z2) (Z.head Y.E)) :
 Tr Y (.region id ops false) Q .normal Z:=fun n M B a w hI hr hO=>by
 have hk:=ZB (E:=Y.E) hI;refine wpIn_region_list ?_;rw[hops];refine XD pre hk.inv h fun Z1 M1 B1 a1 w1 hh hG1 hd1 => ?_
 obtain ⟨px,py,Q1,hfv,hx,hy,hm0,hbody,hafter⟩:=hh;have ZA:bz Y.E.n Y.out Y.m0 M B Z a.tmps w M1 B1 Z1 a1.tmps w1:=(hk.trans hG1).c;have hr1:=Uw hI hY.ho hr ZA;have hO1:=hO.mono ZA.mem ZA.pre;unfold wpListIn;rw[aS (by simp[Region.wanted,hg])];have hev:a1.eval f = .func (.yield Y.l) #[] #[]:=by obtain ⟨f',c',e,h1,h2⟩:=zW.1 (hG1.inv.rd _ _ hfv).1;rw[dJ] at h1 h2;rw[e]; congr 1<;>(grind)
 have hrx:=hG1.inv.rd _ _ hx;have hry:=hG1.inv.rd _ _ hy;have htm:((zV Y.rc .normal).params.zip (cl.args.map a1.eval)).foldl (fun tmps (t,a)=>tmps.setIfInBounds t a) (zV Y.rc .normal).tmps=(Y.rc.tmps.setIfInBounds p (a1.eval x)).setIfInBounds q (a1.eval y):=by show (Y.rc.params.zip (cl.args.map a1.eval)).foldl (fun tmps (t,a)=>tmps.setIfInBounds t a) Y.rc.tmps=_;rw[hp,hargs]; simp
 refine bPQ (E':=Y.E') hY.hP hY.hm hop hf hev hG1.inv hY.ho hr1 rfl ha hb (by show cl.args.size=Y.rc.params.size; rw[hargs,hp]; rfl) (sr:=Y.sO ++ [(p,px),(q,py)]) ?_ ?_ (fun kp hk => ?_) (Q:=Q1) hbody (fun ax Z' hq=>(hafter ax Z' hq).1) fun ax Z' M' w' hq1 hGL hrec => ?_
 grind [jI]
 grind
 .rw[htm];rcases qQ.1 hk with hk | hk
  .obtain ⟨h1,h2,h3,h4⟩:=hO1 kp hk;have:=hpO kp hk;grind [OJ]
  grind [OJ,TL]
 .obtain ⟨_,hput⟩:=hafter ax Z' hq1;unfold jB at hput;split at hput
  .rename_i Z2 hp2;have hPG:Good Y.E.n Y.out M' B1 { Z1 with h:=Z'.h.take Z1.h.length } a1.tmps w' M' B1 Z2 (a1.put o.dst (.bool ax.jump.isNone)).tmps w' :=(Pre.plain hGL.inv (jo.2 rfl) (fun b=>dC rfl _ _) (fA rfl)).put hp2;have bD4:w'.heap[Y.l]? = some (.loop (zV Y.rc ax)):=hrec;have:=XD (n:=n) (Q:=Oq Y.E.n Y.l Y.rc Y.out Y.m0 M B Z a.tmps w a.defers Q) (rest := []) post hPG.inv hput fun Z3 M3 B3 a3 w3 hq3 hG3 hd3=>by have hGG:bz Y.E.n Y.out Y.m0 M' B1 { Z1 with h:=Z'.h.take Z1.h.length } a1.tmps w' M3 B3 Z3 a3.tmps w3:=(hPG.trans hG3).c;show Oq Y.E.n Y.l Y.rc Y.out Y.m0 M B Z a.tmps w a.defers Q .normal a3 w3;exact ⟨.normal,Z3,ax,M3,B3,rfl,hq3,by rw[hd3,Act.FU,hd1],(ZA.gl.trans (hGL.weak hm0)).trans hGG.gl,Uw hGL.inv hY.ho bD4 hGG⟩
   rwa [wH] at this
  simp_all
end
theorem bK2 {P:Program} {n:Nat} {out:Nat->Nat} {h:aG} {M:Mem} {B:aN} {w:World} {Z0:ASt} {t0:Array Value} (hheap:qH M B w h) (hfp:∀ b,fp B Z0 t0 w b=aP w h B b)
 {M':Mem} {B':aN} {Z':ASt} {a':Act} {w':World} (hG:bz n out h.length M B Z0 t0 w M' B' Z' a'.tmps w') {fn:Func} {r0:PV} {h':aG} (hret:LD P fn.results.toList h.length r0 h' Z') (ro:List (List Nat×Bool)) :
 ∃ v,(results fn a'.tmps).run P w' = .ok v w'/\Post h B out M w (wu ro r0) h' v M' (B'.take h'.length) w':=by
 obtain ⟨v,hrun,hrep,htl,hown⟩:=aQE hG.inv hret;obtain ⟨hm0,hht,hb1,hb2,_⟩:=hret;generalize hm':h'.length=m at *;subst hht;have hBl:B.length=h.length:=hheap.1.symm;have htake:=fun b=>a8Q (w:=w') m b Z'.h B'
 have hfin:∀ b,aP w' (Z'.h.take m) (B'.take m) b+bK (wu ro r0) v b<=fp B' Z' a'.tmps w' b:=fun b=>by have:=htake b; have:=hown b; have:=aFY (ro:=ro) (r:=r0) (v:=v) (b:=b); simp only[fp]; omega
 refine ⟨v,hrun,hG.inv.mem,⟨hG.mem,fun i c hc => ?_⟩,hG.fr.mono fun b hb h0=>by rw[hfp]; exact h0,⟨by simp[hG.inv.heap.1],fun i cs hi => ?_⟩,aFZ (hrep.blw hb1),aF' (hrep.blw hb1) htl,fun b hb => ?_,fun b => ?_,fun b hb => ?_⟩
 .have hlt:=(iJ.1 hc).1;rw[lM,aS (by omega)];exact hG.pre i c (by omega) hc
 .have hi0:=hi;rw[lM] at hi;split at hi
  .rename_i hlt;obtain ⟨c,hc,vs,ty,o1,o2,o3,o4,o5⟩:=hG.inv.heap.2 i cs hi;refine ⟨c,by rw[lM,aS hlt]; exact hc,vs,ty,o1,o2,o3,fun j p hj => ?_,o5⟩;obtain ⟨u,a1,a2,a3,a4⟩:=o4 j p hj;refine ⟨u,a1,a2.blw ?_,a3,a4⟩;have:=iY.1 hb2 _ (nK hi0);exact XI.1 this p (nK hj)
  .cases hi
 .have h1:=hG.own b hb; rw[hfp] at h1; grind
 .have h1:=hG.inv.cnt b; have:=hfin b; omega
 .have h1:=hG.inv.new b hb; have:=hfin b; omega
theorem aRU {n:Nat} {out:Nat->Nat} {M:Mem} {B:aN} {w:World} {h:aG} {args:bTA} {vals:Array Value} (hlen:args.length<=n) (hmem:vW M w) (hheap:qH M B w h) (hcnt:∀ b,aP w h B b+out b<=1) (hnew:∀ b,w.heap.size<=b->aP w h B b+out b=0)
 (hv:aj M B args vals.toList):Inv n M B out ⟨lh 0 args,h⟩ (vals ++ Array.replicate (n-vals.size) undef) w:=by
 have hvl:=nG hv;simp only[Array.length_toList] at hvl;have hfp:∀ t b,fp B ⟨lh 0 args,h⟩ t w b=aP w h B b:=fun t b=>by grind [fp,VA]
 refine ⟨by simp; omega,hmem,aB1.1,fun k p hk => ?_,hheap,fun b=>by rw[hfp]; exact hcnt b,fun b hb=>by rw[hfp]; simp_all⟩;obtain ⟨i,q,rfl,hq,rfl⟩:=aB0 hk;obtain ⟨v,hv1,hv2⟩:=uh hv hq;have hi:=(iJ.1 hq).1;refine ⟨by omega,?_,fA (qE _)⟩;have hvi:vals[i]? = some v:=by simp_all
 have:(vals ++ Array.replicate (n-vals.size) undef).getD (0+i) undef=v:=by rw[qU,aC2,a1K (by omega),hvi]; rfl
 rw[this]; exact oL.2 hv2
theorem aRJ {B:aN} {args:bTA} {h:aG} (t:Array Value) (w:World) (b:Nat):fp B ⟨lh 0 args,h⟩ t w b=aP w h B b:=by grind [fp,VA]
def yx (w:World) (rc:Loop):World:=(w.alloc (.deferred (some []))).alloc (.loop rc)
def BX (out:Nat->Nat) (s:Nat) (b:Nat):Nat:=out b+(if b=s\/b=s+1 then 1 else 0)
section
variable {n:Nat} {out:Nat->Nat} {M:Mem} {B:aN} {Z:ASt} {t:Array Value} {w:World}
theorem a3O (rc:Loop) {b:Nat} (hb:b<w.heap.size):(yx w rc).heap[b]? = w.heap[b]? := by grind [yx,Below.heap_alloc]
theorem Xd (rc:Loop):(yx w rc).heap.size=w.heap.size+2:=by simp[yx]
theorem aYA (rc:Loop):(yx w rc).heap[w.heap.size+1]? = some (.loop rc):=by have:=World.alloc_heap_new (w.alloc (.deferred (some []))) (.loop rc);rwa [World.size_alloc] at this
theorem aY9 (rc:Loop):(yx w rc).heap[w.heap.size]? = some (.deferred (some [])) :=(J4 _ _ _ (by simp)).trans (World.alloc_heap_new w _)
theorem aFA (hI:Inv n M B out Z t w) (rc:Loop):Inv n M B (BX out w.heap.size) Z t (yx w rc)/\∀ b,fp B Z t (yx w rc) b=fp B Z t w b:=by
 have hx:=hI.ext (M':=M) (w':=yx w rc) (dG.refl _ _) (fun b o v h=>by
  obtain ⟨h1,h2⟩:=hI.mem b o v h;have hb:=uw _ _ h1;grind [World.cell?_of_block,a3O]) (fun b hb=>by
  have hl:b<w.heap.size:=PK hI (by omega);grind [a3O]) (by rw[Xd]; omega)
 refine ⟨⟨hx.1.size,hx.1.mem,hx.1.gp,hx.1.slots,hx.1.heap,fun b => ?_,fun b hb => ?_⟩,hx.2⟩
 .rw[hx.2];have h1:=hI.cnt b;unfold BX;split
  .rename_i h;have:=hI.new b (by omega);omega
  .omega
 .rw[hx.2];rw[Xd] at hb;have:=hI.new b (by omega);grind [BX]
theorem aPT {l m0:Nat} (hI:Inv n M B out Z t w) (ho:1<=out l) {ds:Option (List Deferred)} (hr:w.heap[l]? = some (.deferred ds)) (o':Obj):qV l n out m0 M B Z t w M B Z t (w.putObj l o'):=by
 have h0:=Ry hI ho;have hx:=hI.ext (M':=M) (w':=w.putObj l o') (dG.refl _ _) (fun b o v h=>by
  obtain ⟨h1,h2⟩:=hI.mem b o v h;grind [World.cell?,World.putObj_heap_other]) (fun b hb=>by
  grind [World.putObj_heap_other]) (by simp)
 exact ⟨hx.1,fun _ _ _ h=>h,fun _ _ _ h=>h,rfl,rfl,rfl,by simp,fun b _ hl _=>⟨World.putObj_heap_other hl,fun _=>rfl⟩,fun b _=>by rw[hx.2]; omega⟩
theorem aN2 {m0:Nat} {rc:Loop} (hI:Inv n M B out Z t w) {M1:Mem} {B1:aN} {Z1:ASt} {t1:Array Value} {w1:World} (hG1:qV (w.heap.size+1) n (BX out w.heap.size) m0 M B Z t (yx w rc) M1 B1 Z1 t1 w1)
 {M':Mem} {B':aN} {Z':ASt} {t':Array Value} {w':World} (hG2:qV w.heap.size n (BX out w.heap.size) m0 M1 B1 Z1 t1 w1 M' B' Z' t' w'):bz n out m0 M B Z t w M' B' Z' t' w':=by
 have he:=(aFA hI rc).2;have hs:=Xd (w:=w) rc;have hle:∀ b,out b<=BX out w.heap.size b:=fun b=>by unfold BX; omega
 have hs1:=hG1.size;have hs2:=hG2.size;refine ⟨⟨hG2.inv.size,hG2.inv.mem,hG2.inv.gp,hG2.inv.slots,hG2.inv.heap,fun b => ?_,fun b hb => ?_⟩,fun b o v h=>hG2.mem b o v (hG1.mem b o v h),fun i c hi h=>hG2.pre i c hi (hG1.pre i c hi h),⟨hG2.os.trans hG1.os,hG2.tape.trans hG1.tape,hG2.output.trans hG1.output,by omega,fun b hb h0 => ?_⟩,fun b hb => ?_⟩
 .have:=hG2.inv.cnt b; have:=hle b; omega
 .have:=hG2.inv.new b hb; have:=hle b; omega
 .have h1:=hG1.blk b (by omega) (by omega) (by rw[he]; exact h0);have h2:=hG1.own b (by omega);rw[he,h0] at h2;have h3:=hG2.blk b (by omega) (by omega) (by omega);rw[a3O rc hb] at h1;simp_all
 .have h1:=hG1.own b (by omega);have h2:=hG2.own b (by omega);rw[he] at h1; omega
theorem aV2 {a b:Value} {r:Array Value}:(#[a,b] ++ r).getD 0 undef=a:=by rw[aC2,a1K (by simp)]; rfl
theorem aV3 {a b:Value} {r:Array Value}:(#[a,b] ++ r).getD 1 undef=b:=by rw[aC2,a1K (by simp)]; rfl
end
inductive Sh where
 | I (k:IntKind)
 | B
 | S
 | L (o:Bool) (z:Nat)
 | Y
 | P
 | H (i j z:Nat)
 | M
 | C
 | pt (i j:Nat)
 | bd (t i:Nat)
 | rf
 | ni
 | fn (n:Nat)
@[reducible] def Sh.V : List Sh -> Type
 | []=>Unit
 | .I _::l=>Int×Sh.V l
 | .B::l=>Bool×Sh.V l
 | .S::l=>ByteArray×Sh.V l
 | .L _ _::l=>bTA×Sh.V l
 | .Y::l=>bTB×Sh.V l
 | .P::l=>PV×Sh.V l
 | .H _ _ _::l=>Nat×Sh.V l
 | .M::l=>bTA×Sh.V l
 | .C::l=>bTA×Sh.V l
 | .pt _ _::l=>Sh.V l
 | .bd _ _::l=>Sh.V l
 | .rf::l=>Sh.V l
 | .ni::l=>Sh.V l
 | .fn _::l=>Sh.V l
def mkS:(sh:List Sh)->Sh.V sh->bTA
 | [],_ => []
 | .I κ::l,v => .int κ v.1::mkS l v.2
 | .B::l,v => .bool v.1::mkS l v.2
 | .S::l,v => .str v.1::mkS l v.2
 | .L o z::l,v => .sl o z v.1::mkS l v.2
 | .Y::l,v => .cZ v.1::mkS l v.2
 | .P::l,v=>v.1::mkS l v.2
 | .H i j z::l,v => .slh i j v.1 z::mkS l v.2
 | .M::l,v => .mp v.1::mkS l v.2
 | .C::l,v => .func (.yield 4242) v.1 []::mkS l v.2
 | .pt i j::l,v => .ptr i j::mkS l v
 | .bd t i::l,v => .cO t i::mkS l v
 | .rf::l,v => .raw .nilFunc::mkS l v
 | .ni::l,v => .raw .nilIface::mkS l v
 | .fn n::l,v => .func (.func n) [] []::mkS l v
def jm:(sh:List Sh)->bTA->Option (Sh.V sh)
 | [],ps=>(match ps with | []=>some () | _::_=>none)
 | .I κ::sh,ps=>(match ps with | .int κ' n::ps=>(match decide (κ'=κ) with | true=>(jm sh ps).map fun v=>(n,v) | false=>none) | _=>none)
 | .B::sh,ps=>(match ps with | .bool n::ps=>(jm sh ps).map fun v=>(n,v) | _=>none)
 | .S::sh,ps=>(match ps with | .str n::ps=>(jm sh ps).map fun v=>(n,v) | _=>none)
 | .L o z::sh,ps=>(match ps with | .sl o' z' n::ps=>(match o'==o&&Nat.beq z' z with | true=>(jm sh ps).map fun v=>(n,v) | false=>none) | _=>none)
 | .Y::sh,ps=>(match ps with | .cZ n::ps=>(jm sh ps).map fun v=>(n,v) | _=>none)
 | .P::sh,ps=>(match ps with | n::ps=>(jm sh ps).map fun v=>(n,v) | _=>none)
 | .H i j z::sh,ps=>(match ps with | .slh i' j' n z'::ps=>(match Nat.beq i' i&&Nat.beq j' j&&Nat.beq z' z with | true=>(jm sh ps).map fun v=>(n,v) | false=>none) | _=>none)
 | .M::sh,ps=>(match ps with | .mp n::ps=>(jm sh ps).map fun v=>(n,v) | _=>none)
 | .C::sh,ps=>(match ps with | .func (.yield m) n []::ps=>(match Nat.beq m 4242 with | true=>(jm sh ps).map fun v=>(n,v) | false=>none) | _=>none)
 | .pt i j::sh,ps=>(match ps with | .ptr i' j'::ps=>(match Nat.beq i' i&&Nat.beq j' j with | true=>jm sh ps | false=>none) | _=>none)
 | .bd i j::sh,ps=>(match ps with | .cO i' j'::ps=>(match Nat.beq i' i&&Nat.beq j' j with | true=>jm sh ps | false=>none) | _=>none)
 | .rf::sh,ps=>(match ps with | .raw .nilFunc::ps=>jm sh ps | _=>none)
 | .ni::sh,ps=>(match ps with | .raw .nilIface::ps=>jm sh ps | _=>none)
 | .fn m::sh,ps=>(match ps with | .func (.func n) [] []::ps=>(match Nat.beq n m with | true=>jm sh ps | false=>none) | _=>none)
theorem KL {α β:Type} {o:Option β} {n:α} {v:α×β} (h:(o.map fun v=>(n,v))=some v):n=v.1/\o=some v.2:=by
 cases o with
 | none=>cases h
 | some w=>grind
theorem xK:∀ (sh:List Sh) (ps:bTA) (v:Sh.V sh),jm sh ps=some v->mkS sh v=ps
 | [],ps,v,h=>by
  unfold jm at h; split at h
  .rfl
  .cases h
 | .I κ::sh,ps,v,h=>by
  unfold jm at h; split at h
  .split at h
   .rename_i hk; have hk:=ML hk; subst hk;obtain ⟨e1,e2⟩:=KL h; unfold mkS; rw[xK sh _ _ e2,e1]
   .cases h
  .cases h
 | .B::sh,ps,v,h | .S::sh,ps,v,h | .Y::sh,ps,v,h | .P::sh,ps,v,h | .M::sh,ps,v,h=>by
  unfold jm at h; split at h
  .obtain ⟨e1,e2⟩:=KL h; unfold mkS; rw[xK sh _ _ e2,e1]
  .cases h
 | .L o z::sh,ps,v,h=>by
  unfold jm at h; split at h
  .split at h
   .rename_i hk; simp only[bF,rM,JB] at hk; obtain ⟨rfl,rfl⟩:=hk;obtain ⟨e1,e2⟩:=KL h; unfold mkS; rw[xK sh _ _ e2,e1]
   .cases h
  .cases h
 | .H i j z::sh,ps,v,h=>by
  unfold jm at h; split at h
  .split at h
   .rename_i hk; simp only[bF,JB] at hk; obtain ⟨⟨rfl,rfl⟩,rfl⟩:=hk;obtain ⟨e1,e2⟩:=KL h; unfold mkS; rw[xK sh _ _ e2,e1]
   .cases h
  .cases h
 | .C::sh,ps,v,h=>by
  unfold jm at h; split at h
  .split at h
   .rename_i hk; simp only[JB] at hk; subst hk;obtain ⟨e1,e2⟩:=KL h; unfold mkS; rw[xK sh _ _ e2,e1]
   .cases h
  .cases h
 | .pt i j::sh,ps,v,h | .bd i j::sh,ps,v,h=>by
  unfold jm at h; split at h
  .split at h
   .rename_i hk; simp only[bF,JB] at hk; obtain ⟨rfl,rfl⟩:=hk;unfold mkS; rw[xK sh _ _ h]
   .cases h
  .cases h
 | .rf::sh,ps,v,h | .ni::sh,ps,v,h=>by
  unfold jm at h; split at h
  .unfold mkS; rw[xK sh _ _ h]
  .cases h
 | .fn m::sh,ps,v,h=>by
  unfold jm at h; split at h
  .split at h
   .rename_i hk; simp only[JB] at hk; subst hk;unfold mkS; rw[xK sh _ _ h]
   .cases h
  .cases h
def zS:List Sh->bTA
 | [] => []
 | .pt i j::l => .ptr i j::zS l
 | .bd t i::l => .cO t i::zS l
 | .rf::l => .raw .nilFunc::zS l
 | .ni::l => .raw .nilIface::zS l
 | .fn n::l => .func (.func n) [] []::zS l
 | _::l => .nilp::zS l
def GL:List Sh->Bool
 | []=>true
 | .pt _ _::l | .bd _ _::l | .rf::l | .ni::l | .fn _::l=>GL l
 | _::_=>false
theorem Lt:∀ (l:List Sh) (v:Sh.V l),GL l=true->mkS l v=zS l
 | [],_,_=>rfl
 | .pt i j::l,v,h=>congrArg (_ :: ·) (Lt l v h)
 | .bd i j::l,v,h=>congrArg (_ :: ·) (Lt l v h)
 | .rf::l,v,h=>congrArg (_ :: ·) (Lt l v h)
 | .ni::l,v,h=>congrArg (_ :: ·) (Lt l v h)
 | .fn n::l,v,h=>congrArg (_ :: ·) (Lt l v h)
 | .I _::_,_,h | .B::_,_,h | .S::_,_,h | .L _ _::_,_,h | .Y::_,_,h | .P::_,_,h | .H _ _ _::_,_,h | .M::_,_,h | .C::_,_,h=>by cases h
@[reducible] def TV : List (Bool × List Sh) -> Type
 | []=>Unit
 | b::l=>Sh.V b.2×TV l
def IB:(sh:List (Bool×List Sh))->TV sh->bTA
 | [],_ => []
 | b::l,v=>bif b.1 then .agg (mkS b.2 v.1)::IB l v.2 else (mkS b.2 v.1).headD .nilp::IB l v.2
def rdT:(sh:List (Bool×List Sh))->bTA->Option (TV sh)
 | [],ps=>(match ps with | []=>some () | _::_=>none)
 | (true,l)::sh,ps=>(match ps with | .agg cs::ps=>(match jm l cs with | some v=>(rdT sh ps).map fun w=>(v,w) | none=>none) | _=>none)
 | (false,l)::sh,ps=>(match ps with | p::ps=>(match jm l [p] with | some v=>(rdT sh ps).map fun w=>(v,w) | none=>none) | _=>none)
theorem aA2:∀ (sh:List (Bool×List Sh)) (ps:bTA) (v:TV sh),rdT sh ps=some v->IB sh v=ps
 | [],ps,v,h=>by
  unfold rdT at h; split at h
  .rfl
  .cases h
 | (true,l)::sh,ps,v,h=>by
  unfold rdT at h; split at h
  .split at h
   .rename_i e;obtain ⟨e1,e2⟩:=KL h; unfold IB; rw[aA2 sh _ _ e2,<- e1,xK _ _ _ e]; rfl
   .cases h
  .cases h
 | (false,l)::sh,ps,v,h=>by
  unfold rdT at h; split at h
  .split at h
   .rename_i e;obtain ⟨e1,e2⟩:=KL h; unfold IB; rw[aA2 sh _ _ e2,<- e1,xK _ _ _ e]; rfl
   .cases h
  .cases h
inductive RS where
 | ti (k:IntKind)
 | tb
 | ts
 | tl (o:Bool) (z:Nat)
 | tp
 | z (c:Sh)
 | o (c:Sh)
 | g (l:List Sh)
 | t (l:List (Bool×List Sh))
@[reducible] def RS.F : RS -> Type -> Type
 | .ti _,T=>Int->T
 | .tb,T=>Bool->T
 | .ts,T=>ByteArray->T
 | .tl _ _,T=>bTA->T
 | .tp,T=>PV->T
 | .z _,T=>T
 | .o c,T=>Sh.V [c]->T
 | .g l,T=>Sh.V l->T
 | .t l,T=>TV l->T
def DV (sh:List Sh) (p:PV) {T:Type} (K:Sh.V sh->Option T):Option T:=match p with | .agg cs=>(match jm sh cs with | some v=>K v | none=>none) | _=>none
def tvV (sh:List (Bool×List Sh)) (p:PV) {T:Type} (K:TV sh->Option T):Option T:=match p with | .tuple cs=>(match rdT sh cs with | some v=>K v | none=>none) | _=>none
def oV (s:Sh) (p:PV) {T:Type} (K:Sh.V [s]->Option T):Option T:=match jm [s] [p] with | some v=>K v | none=>none
def PY:(rs:RS)->PV->RS.F rs R->R
 | .ti k,p,K=>vI k p K
 | .tb,p,K=>vB p K
 | .ts,p,K=>vS p K
 | .tl o z,p,K=>vL o z p K
 | .tp,p,K=>K p
 | .z c,p,K=>aA (GL [c]) (oV c p fun _=>K) none
 | .o c,p,K=>oV c p K
 | .g l,p,K=>DV l p K
 | .t l,p,K=>tvV l p K
def PN:(rs:RS) -> {T:Type}->(PV->T)->RS.F rs T
 | .ti k,_,K=>fun n=>K (.int k n)
 | .tb,_,K=>fun n=>K (.bool n)
 | .ts,_,K=>fun n=>K (.str n)
 | .tl o z,_,K=>fun n=>K (.sl o z n)
 | .tp,_,K=>fun p=>K p
 | .z c,_,K=>K ((zS [c]).headD .nilp)
 | .o c,_,K=>fun v=>K ((mkS [c] v).headD .nilp)
 | .g l,_,K=>fun v=>K (.agg (mkS l v))
 | .t l,_,K=>fun v=>K (.tuple (IB l v))
theorem bHD (s:Sh) (p:PV):(∀ K:PV->R,oV s p (fun v=>K ((mkS [s] v).headD .nilp))=K p)\/(∀ K:Sh.V [s]->R,oV s p K=none):=by grind [oV,xK]
theorem bCL (l:List Sh) (p:PV):(∀ K:PV->R,DV l p (fun v=>K (.agg (mkS l v)))=K p)\/(∀ K:PV->R,DV l p (fun v=>K (.agg (mkS l v)))=none):=by unfold DV;grind [xK]
theorem bNS (l:List (Bool×List Sh)) (p:PV):(∀ K:PV->R,tvV l p (fun v=>K (.tuple (IB l v)))=K p)\/(∀ K:PV->R,tvV l p (fun v=>K (.tuple (IB l v)))=none):=by unfold tvV;grind [aA2]
theorem aQM (rs:RS) (p:PV):(∀ K:PV->R,PY rs p (PN rs K)=K p)\/(∀ K:PV->R,PY rs p (PN rs K)=none):=by
 cases rs with
 | ti k=>exact rG k p
 | tb=>exact Iw p
 | ts=>exact Vl p
 | tl o z=>exact AV o z p
 | tp=>exact .inl fun _=>rfl
 | z s =>
  cases hz:GL [s] with
  | false=>exact .inr fun K=>by show aA (GL [s]) _ _=_; rw[hz,aC]
  | true =>
   cases h:jm [s] [p] with
   | none=>exact .inr fun K=>by show aA (GL [s]) (oV s p _) _=_; rw[hz,aH]; unfold oV; rw[h]
   | some v =>have h1:=xK _ _ _ h;have h2:=Lt [s] v hz;exact .inl fun K=>by show aA (GL [s]) (oV s p fun _=>K ((zS [s]).headD .nilp)) _=_;rw[hz,aH,<- h2,h1]; unfold oV; rw[h]; rfl
 | o s =>
  rcases bHD s p with e | e
  .exact .inl e
  .exact .inr fun K=>e _
 | g l=>exact bCL l p
 | t l=>exact bNS l p
inductive OS where
 | c (l:List Sh)
 | z (l:List Sh)
 | a
@[reducible] def di : List OS -> Type
 | []=>R
 | .c l::os=>Sh.V l->di os
 | .z _::os=>di os
 | .a::os=>bTA->di os
def sG:(os:List OS)->aG->di os->R
 | [],h,f=>(match h with | []=>f | _::_=>none)
 | .c l::os,h,f=>(match h with | some cs::h=>(match jm l cs with | some v=>sG os h (f v) | none=>none) | _=>none)
 | .z l::os,h,f=>(match h with | some cs::h=>(match jm l cs with | some _=>sG os h f | none=>none) | _=>none)
 | .a::os,h,f=>(match h with | some cs::h=>sG os h (f cs) | _=>none)
def IV:(os:List OS)->(aG->R)->di os
 | [],K=>K []
 | .c l::os,K=>fun v=>IV os fun h=>K (some (mkS l v)::h)
 | .z l::os,K=>IV os fun h=>aA (GL l) (K (some (zS l)::h)) none
 | .a::os,K=>fun cs=>IV os fun h=>K (some cs::h)
theorem a02:∀ (os:List OS) (h:aG),(∀ K:aG->R,sG os h (IV os K)=K h)\/(∀ K:aG->R,sG os h (IV os K)=none)
 | [],[] => .inl fun _=>rfl
 | [],_::_ => .inr fun _=>rfl
 | .c l::os,h=>by
  unfold sG;split
  .rename_i cs h;cases e:jm l cs with
   | none=>simp
   | some v =>
    have:=xK _ _ _ e;subst this;rcases a02 os h with e2 | e2
    .exact .inl fun K=>e2 _
    .exact .inr fun K=>e2 _
  simp
 | .z l::os,h=>by
  unfold sG;split
  .rename_i cs h;cases e:jm l cs with
   | none=>simp
   | some v =>
    have:=xK _ _ _ e;subst this;rcases a02 os h with e2 | e2
    .cases hz:GL l with
     | true =>
      refine .inl fun K=>(e2 _).trans ?_
      grind [aH,Lt]
     | false =>
      refine .inr fun K=>(e2 _).trans ?_
      simp_all
    .exact .inr fun K=>e2 _
  simp
 | .a::os,h=>by
  unfold sG;split
  .rename_i cs h;rcases a02 os h with e2 | e2
   .exact .inl fun K=>e2 _
   .exact .inr fun K=>e2 _
  simp
def hvK:(rs:RS)->(os:List OS)->aG->RS.F rs (di os)->RS.F rs R
 | .ti _,os,h,K=>fun n=>sG os h (K n)
 | .tb,os,h,K=>fun n=>sG os h (K n)
 | .ts,os,h,K=>fun n=>sG os h (K n)
 | .tl _ _,os,h,K=>fun n=>sG os h (K n)
 | .tp,os,h,K=>fun n=>sG os h (K n)
 | .z _,os,h,K=>sG os h K
 | .o _,os,h,K=>fun n=>sG os h (K n)
 | .g _,os,h,K=>fun n=>sG os h (K n)
 | .t _,os,h,K=>fun n=>sG os h (K n)
def hv (rs:RS) (os:List OS) (p:PV) (h:aG) (K:RS.F rs (di os)):R:=PY rs p (hvK rs os h K)
def pack (rs:RS) (os:List OS) (K:PV->aG->R):RS.F rs (di os):=PN rs fun p=>IV os (K p)
theorem bD8 (rs:RS) (os:List OS) (h:aG) (K:PV->aG->R):hvK rs os h (pack rs os K)=PN rs fun p=>sG os h (IV os (K p)):=by cases rs<;>rfl
theorem bD9 (rs:RS) (os:List OS) (p:PV) (h:aG):(∀ K:PV->aG->R,hv rs os p h (pack rs os K)=K p h)\/(∀ K:PV->aG->R,hv rs os p h (pack rs os K)=none):=by
 have hh:∀ K:PV->aG->R,hv rs os p h (pack rs os K)=PY rs p (PN rs fun p=>sG os h (IV os (K p))):=fun K=>by unfold hv; rw[bD8]
 rcases aQM rs p with e | e
 .rcases a02 os h with e2 | e2
  simp_all;simp_all
 simp_all
abbrev bf (sh:List Sh) (l:bTA) (n:Int) (K:Sh.V sh->R):R:=eH l n fun e=>DV sh e K
def shC:List Sh->bTA->Bool
 | [],ps=>ps.isEmpty
 | s::sh,ps=>(match ps with
  | []=>false
  | p::ps=>(match s,p with
   | .I κ,.int κ' _=>decide (κ'=κ)
   | .B,.bool _=>true
   | .S,.str _=>true
   | .L o z,.sl o' z' _=>o'==o&&Nat.beq z' z
   | .Y,.cZ _=>true
   | .P,_=>true
   | .H i j z,.slh i' j' _ z'=>Nat.beq i' i&&Nat.beq j' j&&Nat.beq z' z
   | .M,.mp _=>true
   | .C,.func (.yield n) _ []=>Nat.beq n 4242
   | .pt i j,.ptr i' j'=>Nat.beq i' i&&Nat.beq j' j
   | .bd t i,.cO t' i'=>Nat.beq t' t&&Nat.beq i' i
   | .rf,.raw .nilFunc=>true
   | .ni,.raw .nilIface=>true
   | .fn m,.func (.func n) [] []=>Nat.beq n m
   | _,_=>false)&&shC sh ps)
def shO:List OS->aG->Bool
 | [],h=>h.isEmpty
 | .c l::os,h=>(match h with | some cs::h=>shC l cs&&shO os h | _=>false)
 | .z l::os,h=>(match h with | some cs::h=>shC l cs&&shO os h | _=>false)
 | .a::os,h=>(match h with | some _::h=>shO os h | _=>false)
def tl {α:Type} (g k:Nat) (a b:α):α:=bif Nat.blt g k then a else b
def te {α:Type} (g k:Nat) (a b:α):α:=bif Nat.beq g k then a else b
def VVt (t:TypeId->Option RS) (i:TypeId) (p:PV) (K:PV->R):R:=match t i with | some rs=>PY rs p (PN rs K) | none=>K p
theorem aUL (t:TypeId->Option RS):yN (VVt t):=fun i p=>by
 unfold VVt;cases t i with
 | none=>simp
 | some rs=>exact aQM rs p
abbrev lC:=List OS×RS×List OS
def Ws:List lC->aG->PV->aG->(PV->aG->R)->R
 | [],_,r,h,K=>K r h
 | w::l,h0,r,h,K=>aA (shO w.1 h0) (hv w.2.1 w.2.2 r h (pack w.2.1 w.2.2 K)) (Ws l h0 r h K)
theorem aDB:∀ (l:List lC) (h0:aG) (r:PV) (h:aG),(∀ K:PV->aG->R,Ws l h0 r h K=K r h)\/(∀ K:PV->aG->R,Ws l h0 r h K=none)
 | [],_,_,_ => .inl fun _=>rfl
 | w::l,h0,r,h=>sH (bD9 w.2.1 w.2.2 r h) (aDB l h0 r h)
def WWt (t:FuncId->List lC) (g:FuncId):aG->PV->aG->(PV->aG->R)->R:=Ws (t g)
theorem aUQ (t:FuncId->List lC):tX (WWt t):=fun g h r h'=>aDB (t g) h r h'
theorem CCk {S:SE} (hS:S.OK) {g:FuncId} {args:bTA} {h:aG} {v:R} (h0:S.C0 g args h=none) (e:S.run S.CC S.LL g args h=v):S.CC g args h=v:=(sZ hS h0).trans e
theorem LLk {S:SE} (hS:S.OK) {E:AE} {m0:Nat} {l:List Nat} {m:Nat} {x:Code} {K:AX->ASt->R} {Z:ASt} {v:R} (hm:m0<=m) (hg:DT l m Z=true) (hP:S.wp E=E)
 (e:chk (FP l m Z) (bG (S.xe S.CC S.LL E m0) x (vz (fun Z'=>S.LL E m0 l m x K (Z'.gc l m)) K) (Z.gc l m))=v):S.LL E m0 l m x K Z=v:=(CY hS hm hg hP).trans e
abbrev KT:=AX->ASt->R
def aPS:Nat->Nat->List Bool
 | 0,_ => []
 | k+1,n=>match Nat.ble n 1 with | true => [] | false=>Nat.beq (n % 2) 1::aPS k (n / 2)
def cS (f:Func) (p:Nat):Code:=Code.sub (aPS 99 p) (qI f)
def SE.xX (S:SE) (f n m:Nat):XE:=S.xe S.CC S.LL (S.ae f n) m
def SE.rK (S:SE) (f:Func) (g m:Nat) (fl:List Nat):KT:=FY S.P f.results.toList (S.iF g).ro m fl
def SE.jK (S:SE) (f n m:Nat) (c:Code) (K:KT):KT:=vz (uT (S.ae f n) m c (bG (S.xX f n m) c K)) K
def SE.lK (S:SE) (f n m:Nat) (l:List Nat) (k:Nat) (c:Code) (K:KT):KT:=vz (fun Z=>S.LL (S.ae f n) m l k c K (Z.gc l k)) K
def Qx:Nat->R->R
 | 0,a=>a
 | n+1,a=>dA a (Qx n a)
theorem aDO:∀ (n:Nat) (a:R),Qx n a=a
 | 0,_=>rfl
 | n+1,a=>by rw[Qx,aDO n,Cf]
def o6 (F:(Nat->R->R)->R):R:=F fun _ a=>a
theorem BA {v:R} {F:(Nat->R->R)->R} (h:v=F Qx):v=o6 F:=by rw[show Qx=fun _ a=>a from funext fun n=>funext fun a=>aDO n a] at h;exact h
section
variable {S:SE}
def SE.UN (S:SE) (T:Cal):Nat->xg
 | 0=>fun _ _ _ _ _ _ _=>none
 | n+1=>S.turn T (S.UN T n)
def SE.stepT (S:SE) (T:Cal) (n:Nat) (g:FuncId) (args:bTA) (h:aG):R:=FM (S.C0 g args h) (S.run T (S.UN T n) g args h)
def XQ (T C:Cal):Prop:=∀ g args h v,T g args h=some v->C g args h=some v
theorem aNO (hS:S.OK) {T:Cal} (hT:XQ T S.CC):∀ (n:Nat) (E:AE) (m0:Nat) (l:List Nat) (m:Nat) (x:Code) (K K':AX->ASt->R) (Z:ASt) (v:PV×aG),(∀ e Z v,K e Z=some v->K' e Z=some v)->S.UN T n E m0 l m x K Z=some v->S.LL E m0 l m x K' Z=some v
 | 0,_,_,_,_,_,_,_,_,_,_,h=>by cases h
 | n+1,E,m0,l,m,x,K,K',Z,v,hK,hv=>by
  have hC:∀ g args h,CQ fun i=>(bif i then S.CC else T) g args h:=fun g args h v hv=>hT g args h v hv
  have hL:∀ (E:AE) (m0:Nat) (l:List Nat) (m:Nat) (x:Code) (K:Bool->AX->ASt->R) (Z:ASt),(∀ e Z,CQ fun i=>K i e Z)->CQ fun i=>(bif i then S.LL else S.UN T n) E m0 l m x (K i) Z :=fun E m0 l m x K Z hK v hv=>aNO hS hT n E m0 l m x _ _ Z v (fun e Z v h=>hK e Z v h) hv
  rw[aD7 hS];exact Z9 Jg hS hC hL (K:=fun i=>bif i then K' else K) (fun e Z v h=>hK e Z v h) v hv
theorem aTG (hS:S.OK) {T:Cal} (hT:XQ T S.CC) (n:Nat) {g:FuncId} {args:bTA} {h:aG} {v:PV×aG} (e:S.stepT T n g args h=some v):S.CC g args h=some v:=by
 have hC:∀ g args h,CQ fun i=>(bif i then S.CC else T) g args h:=fun g args h v hv=>hT g args h v hv
 have hL:∀ (E:AE) (m0:Nat) (l:List Nat) (m:Nat) (x:Code) (K:Bool->AX->ASt->R) (Z:ASt),(∀ e Z,CQ fun i=>K i e Z)->CQ fun i=>(bif i then S.LL else S.UN T n) E m0 l m x (K i) Z :=fun E m0 l m x K Z hK v hv=>aNO hS hT n E m0 l m x _ _ Z v (fun e Z v h=>hK e Z v h) hv
 rw[MO hS];exact a5O Jg (a5P Jg hS hC hL) v e
structure Ans where
 g:FuncId
 args:bTA
 h:aG
 v:PV×aG
def a0Z:List Ans->Cal
 | [],_,_,_=>none
 | a::l,g,args,h=>(match Nat.beq a.g g&&(PV.yz a.args args&&DF a.h h) with | true=>some a.v | false=>a0Z l g args h)
theorem aSF {C:Cal}:∀ {l:List Ans},(∀ a,a∈l->C a.g a.args a.h=some a.v)->XQ (a0Z l) C
 | [],_,_,_,_,_,h=>by cases h
 | a::l,hl,g,args,h,v,hv=>by
  unfold a0Z at hv;split at hv
  grind [Nat.eq_of_beq_eq_true,PV.DD,Xl]
  .exact aSF (fun b hb=>hl b (List.mem_cons_of_mem _ hb)) g args h v hv
theorem fM {C:Cal}:∀ a,a∈([]:List Ans)->C a.g a.args a.h=some a.v:=fun _ h=>by cases h
theorem aV1 {C:Cal} {a:Ans} {l:List Ans} (h:C a.g a.args a.h=some a.v) (hl:∀ a,a∈l->C a.g a.args a.h=some a.v):∀ b,b∈a::l->C b.g b.args b.h=some b.v:=fun b hb=>by grind
def SE.memo (S:SE) (l:List Ans) (n:Nat):Cal:=fun g args h=>match a0Z l g args h with
 | some v=>some v
 | none=>(S.ah n).1 g args h
theorem bGI (hS:S.OK) {l:List Ans} (hl:∀ a,a∈l->S.CC a.g a.args a.h=some a.v) (n:Nat):XQ (S.memo l n) S.CC:=fun g args h v hv=>by
 unfold SE.memo at hv;split at hv
 .rename_i w hw;injection hv with hv; subst hv
  exact aSF hl g args h _ hw
 grind [WP]
theorem aTH (hS:S.OK) (m:Nat) {l:List Ans} (hl:∀ a,a∈l->S.CC a.g a.args a.h=some a.v) (n:Nat) {a:Ans} (e:S.stepT (S.memo l m) n a.g a.args a.h=some a.v):S.CC a.g a.args a.h=some a.v:=aTG hS (bGI hS hl m) n e
end
end Go.Proofs.YtcdceiloganlnaaGreatDoor
end

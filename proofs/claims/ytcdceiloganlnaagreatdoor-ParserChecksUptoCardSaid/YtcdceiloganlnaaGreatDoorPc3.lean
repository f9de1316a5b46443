/- A part of the proof: AbY, AbZ, AbU, AbI, AbJ, AbK, AbT, AbH, AbR. -/
import Derived.Test.YtcdceiloganlnaaGreatDoorPc2
import Derived.Test.YtcdceiloganlnaaGreatDoorChecked
import Derived.ProofKit
import Derived.SizedLaws
import Derived.Deep.Slices
import Derived.Deep.Fields
import Derived.ChangeArms
import Derived.OpenShut
import Derived.ChangeOld
import Derived.RangeFuncIn
import Derived.OrdersIn
import Derived.TacticsIn
import Derived.LoopNIn
import Derived.RangeFuncRecord
import Derived.RangeFuncLeaves
set_option linter.unusedVariables false
set_option linter.unusedSimpArgs false
set_option linter.unnecessarySimpa false
set_option linter.unusedSectionVars false
noncomputable section
namespace Go.Proofs.YtcdceiloganlnaaGreatDoor
open Go.RowKit
abbrev R:=Option (PV×aF)
abbrev Cal:=FuncId->List PV->aF->R
def aA (b:Bool) (A B:R):R:=match b with | true=>A | false=>B
def chk (b:Bool) (A:R):R:=match b with | true=>A | false=>none
def dH (es:List PV) (n:Int) (K:PV->R):R:=if 0<=n then (match es[n.toNat]? with | some e=>K e | none=>none) else none
def ry (s:ByteArray) (n:Int) (K:Int->R):R:=if 0<=n then (match s[n.toNat]? with | some b=>K b.toNat | none=>none) else none
mutual
def PV.mG:PV->PV->Bool
 | .int k n,q=>(match q with | .int k' n'=>decide (k=k')&&decide (n=n') | _=>false)
 | .bool b,q=>(match q with | .bool b'=>b==b' | _=>false)
 | .str s,q=>(match q with | .str s'=>s.data.toList==s'.data.toList | _=>false)
 | .nilp,q=>(match q with | .nilp=>true | _=>false)
 | .raw v,q=>(match v,q with | .nilFunc,.raw .nilFunc=>true | .nilIface,.raw .nilIface=>true | _,_=>false)
 | .ptr i o,q=>(match q with | .ptr i' o'=>Nat.beq i i'&&Nat.beq o o' | _=>false)
 | .bf i o,q=>(match q with | .bf i' o'=>Nat.beq i i'&&Nat.beq o o' | _=>false)
 | .cst e,q=>(match q with | .cst e'=>PV.mG e e' | _=>false)
 | .sl o z l,q=>(match q with | .sl o' z' l'=>(o==o'&&Nat.beq z z')&&PV.wQ l l' | _=>false)
 | .slh i o n z,q=>(match q with | .slh i' o' n' z'=>(Nat.beq i i'&&Nat.beq o o')&&(Nat.beq n n'&&Nat.beq z z') | _=>false)
 | .bg l,q=>(match q with | .bg l'=>l==l' | _=>false)
 | .eH o n z l,q=>(match q with | .eH o' n' z' l'=>((o==o'&&Nat.beq n n')&&Nat.beq z z')&&PV.wQ l l' | _=>false)
 | .mp l,q=>(match q with | .mp l'=>PV.wQ l l' | _=>false)
 | .func f a c,q=>(match q with | .func f' a' c'=>(match f,f' with | .func g,.func g'=>Nat.beq g g' | .yield g,.yield g'=>Nat.beq g g' | _,_=>false)&&(PV.wQ a a'&&PV.wQ c c') | _=>false)
 | .agg l,q=>(match q with | .agg l'=>PV.wQ l l' | _=>false)
 | .tuple l,q=>(match q with | .tuple l'=>PV.wQ l l' | _=>false)
def PV.wQ:List PV->List PV->Bool
 | [],l=>(match l with | []=>true | _::_=>false)
 | p::ps,l=>(match l with | []=>false | q::qs=>PV.mG p q&&PV.wQ ps qs)
end
mutual
theorem PV.Tc:∀ {p q:PV},PV.mG p q=true->p=q
 | .int k n,q,h=>by cases q<;>simp[PV.mG] at h; rw[h.1,h.2]
 | .bool b,q,h=>by cases q<;>simp[PV.mG] at h; rw[h]
 | .str s,q,h=>by
  cases q<;>simp[PV.mG] at h
  rename_i s';cases s; cases s'; simp only at h; rw[h]
 | .nilp,q,h=>by cases q<;>simp[PV.mG] at h; rfl
 | .raw v,q,h=>by
  unfold PV.mG at h;split at h
  .rfl
  .rfl
  .cases h
 | .ptr i o,q,h=>by cases q<;>simp[PV.mG] at h; rw[h.1,h.2]
 | .bf i o,q,h=>by cases q<;>simp[PV.mG] at h; rw[h.1,h.2]
 | .cst e,q,h=>by cases q<;>simp[PV.mG] at h; rw[PV.Tc h]
 | .sl o z l,q,h=>by cases q<;>simp[PV.mG] at h; rw[h.1.1,h.1.2,PV.Af h.2]
 | .slh i o n z,q,h=>by cases q<;>simp[PV.mG] at h; rw[h.1.1,h.1.2,h.2.1,h.2.2]
 | .bg l,q,h=>by cases q<;>simp[PV.mG] at h; rw[h]
 | .eH o n z l,q,h=>by cases q<;>simp[PV.mG] at h; rw[h.1.1.1,h.1.1.2,h.1.2,PV.Af h.2]
 | .mp l,q,h=>by cases q<;>simp[PV.mG] at h; rw[PV.Af h]
 | .func f a c,q,h=>by
  cases q<;>simp[PV.mG] at h
  obtain ⟨h1,h2,h3⟩:=h;rw[PV.Af h2,PV.Af h3];split at h1
  .simp at h1; rw[h1]
  .simp at h1; rw[h1]
  .cases h1
 | .agg l,q,h=>by cases q<;>simp[PV.mG] at h; rw[PV.Af h]
 | .tuple l,q,h=>by cases q<;>simp[PV.mG] at h; rw[PV.Af h]
theorem PV.Af:∀ {l l':List PV},PV.wQ l l'=true->l=l'
 | [],l',h=>by cases l'<;>simp[PV.wQ] at h; rfl
 | p::ps,l',h=>by
  cases l'<;>simp[PV.wQ] at h
  rw[PV.Tc h.1,PV.Af h.2]
end
def Ag:aF->aF->Bool
 | [],l=>(match l with | []=>true | _::_=>false)
 | o::os,l=>(match l with
  | []=>false
  | o'::os'=>(match o,o' with | none,none=>true | some a,some b=>PV.wQ a b | _,_=>false)&&Ag os os')
theorem TZ:∀ {l l':aF},Ag l l'=true->l=l'
 | [],l',h=>by cases l'<;>simp[Ag] at h; rfl
 | o::os,l',h=>by
  cases l' with
  | nil=>simp[Ag] at h
  | cons o' os' =>
   simp only[Ag,aY] at h;rw[TZ h.2];congr 1
   have h1:=h.1;split at h1
   .rfl
   .rw[PV.Af h1]
   .cases h1
def Gg (a b:PV×aF):R:=open Classical in match PV.mG a.1 b.1&&Ag a.2 b.2 with | true=>some a | false=>if a=b then some a else none
theorem aPO (a:PV×aF):Gg a a=some a:=by
 unfold Gg;split
 .rfl
 .simp
theorem aPP {a b v:PV×aF} (h:Gg a b=some v):a=v/\a=b:=by
 unfold Gg at h;split at h
 .rename_i hc;simp only[aY] at hc;injection h with h
  obtain ⟨a1,a2⟩:=a;obtain ⟨b1,b2⟩:=b;have e1:=PV.Tc hc.1;have e2:=TZ hc.2;simp only at e1 e2;subst e1; subst e2;exact ⟨h,rfl⟩
 .split at h
  .rename_i hc; injection h with h; exact ⟨h,hc⟩
  .cases h
def F5 (es:List PV) (K:Bool->R):R:=match K false with
 | some (r,h)=>(match es.isEmpty with | false=>some (r,h) | true=>match K true with | some (r',h')=>Gg (r,h) (r',h') | none=>none)
 | none=>none
def Q7 (es:List PV) (n:Nat) (K:PV->R):R:=match es[n]? with | some e=>K e | none=>none
def iI (C:Cal) (g:FuncId) (args:List PV) (K:PV->R):R:=match C g args [] with | some (r,[])=>K r | _=>none
def xg (C:Cal) (g:FuncId) (args:List PV) (h:aF) (K:PV->aF->R):R:=match C g args h with | some (r,h')=>K r h' | none=>none
def OU (p:PV) (K:Bool->R):R:=match p with | .func _ _ _=>K false | .raw .nilFunc=>K true | _=>none
def Jp (p:PV) (K:FuncId->List PV->List PV->R):R:=match p with | .func (.func g) first caps=>K g first caps | _=>none
def Nr:List PV->Nat->Int->(PV->R)->R
 | [],_,_,_=>none
 | p::r,k,n,K=>aA (n==(k:Int)) (K p) (Nr r (k+1) n K)
def LJ (s:Option IntKind) (L:List PV) (q:PV) (A:PV->R) (B:R):R:=match uY s L q with
 | some (some p)=>A p
 | some none=>B
 | none=>none
def I7 (s:Option IntKind):List PV->PV->(PV->R)->R->R
 | k::v::L,q,A,B=>(match eqK s q k with | some b=>aA b (A v) (I7 s L q A B) | none=>none)
 | [],_,_,B=>B
 | [_],_,_,_=>none
structure XE where
 E:AE
 C:Cal
 V:TypeId->PV->(PV->R)->R
 W:FuncId->aF->PV->aF->(PV->aF->R)->R
 L:List Nat->Nat->Code->(AX->ASt->R)->ASt->R
 m0:Nat
def WT (d:Nat) (v:Bool):dw->dw
 | [] => []
 | (j,q)::l=>bif Nat.beq j d then (j,.bool v)::l else (j,q)::WT d v l
def ASt.lit (d:Nat) (v:Bool) (Z:ASt):ASt := { Z with s:=WT d v Z.s }
theorem a2R {d:Nat} {v:Bool}:∀ {s:dw},bK d s=some (.bool v)->WT d v s=s
 | [],h=>by simp[bK] at h
 | (j,q)::l,h=>by
  rw[bK] at h;rw[WT];by_cases e:j=d
  .rw[aH e] at h; injection h with h; subst h; subst e
   rw[show Nat.beq j j=true by simp]; rfl
  .rw[aI e] at h;have hb:Nat.beq j d=false:=by
    cases h:Nat.beq j d
    .rfl
    .exact absurd (kE h) e
   rw[hb,a2R h]; rfl
def cZ (E:AE) (dst:Option Nat) (p:PV) (K:ASt->R) (Z:ASt):R:=match ASt.put E dst p Z with | some Z'=>K Z' | none=>none
def QL (E:AE) (dst:Option Nat) (p:Option PV) (K:ASt->R) (Z:ASt):R:=match p with | some p=>cZ E dst p K Z | none=>none
def lV (X:XE) (o:Oper) (K:ASt->R) (Z:ASt):R:=match bP X.E o Z with | some (p,Z1)=>cZ X.E o.dst p K Z1 | none=>none
def Gl (X:XE) (dst:Option Nat) (sz:Nat) (es:List PV) (lo hi:Option Operand) (K:ASt->R) (Z:ASt):R :=
 match lo,hi with
 | none,none=>cZ X.E dst (.sl false sz es) K Z
 | some l,none=>(match Z.rd l with | some (.int _ a)=>chk (decide (0<=a)&&decide (a<=es.length)) (cZ X.E dst (.sl false sz (es.drop a.toNat)) K Z) | _=>none)
 | none,some h=>(match Z.rd h with | some (.int _ b)=>chk (decide (0<=b)&&decide (b<=es.length)) (cZ X.E dst (.sl false sz (es.take b.toNat)) K Z) | _=>none)
 | some l,some h=>(match Z.rd l,Z.rd h with | some (.int _ a),some (.int _ b)=>chk (decide (0<=a)&&decide (a<=b)&&decide (b<=es.length)) (cZ X.E dst (.sl false sz ((es.take b.toNat).drop a.toNat)) K Z) | _,_=>none)
def Gm (X:XE) (dst:Option Nat) (s:ByteArray) (lo hi:Option Operand) (K:ASt->R) (Z:ASt):R :=
 match lo,hi with
 | none,none=>cZ X.E dst (.str (s.extract 0 s.size)) K Z
 | some l,none=>(match Z.rd l with | some (.int _ a)=>chk (decide (0<=a)&&decide (a<=s.size)) (cZ X.E dst (.str (s.extract a.toNat s.size)) K Z) | _=>none)
 | none,some h=>(match Z.rd h with | some (.int _ b)=>chk (decide (0<=b)&&decide (b<=s.size)) (cZ X.E dst (.str (s.extract 0 b.toNat)) K Z) | _=>none)
 | some l,some h=>(match Z.rd l,Z.rd h with | some (.int _ a),some (.int _ b)=>chk (decide (0<=a)&&decide (a<=b)&&decide (b<=s.size)) (cZ X.E dst (.str (s.extract a.toNat b.toNat)) K Z) | _,_=>none)
def YH (X:XE) (dst:Option Nat) (t:TypeId) (sz:Nat) (es:List PV) (n:Int) (K:ASt->R) (Z:ASt):R :=
 match uO X.E.P t,iq X.E.P t with
 | some e,some I=>if I.size=sz then dH es n fun p=>X.V e p fun q=>cZ X.E dst (.cst q) K Z else none
 | _,_=>none
def Ji (X:XE) (dst:Option Nat) (k k':IntKind) (b:Int) (r:Int) (K:ASt->R) (Z:ASt):R:=if k=k' then chk (!(b==0)) (cZ X.E dst (.int k r) K Z) else none
def a8M (X:XE) (dst:Option Nat) (k:IntKind) (b:Int) (r:Int) (K:ASt->R) (Z:ASt):R:=chk (decide (0<=b)) (cZ X.E dst (.int k r) K Z)
def SK (P:Program) (t:TypeId):Option (Nat×TypeId):=match P.underlying t with
 | some (.array m e)=>(match ti P e with | some I=>(match Nat.beq I.size 1 && !I.agg with | true=>some (m,e) | false=>none) | none=>none)
 | _=>none
def aE9 (E:AE):Operand->Bool
 | .tmp t=>kW E.sy t
 | _=>false
def OM (X:XE) (dst:Option Nat) (t:TypeId) (i off n sz:Nat) (lo hi:Option Operand) (K:ASt->R) (Z:ASt):R :=
 match iq X.E.P t with
 | some I=>(match Nat.beq I.size sz&&Nat.blt 0 sz with
  | true=>(match lo,hi with
   | none,some h=>(match Z.rd h with | some (.int _ b)=>chk (decide (0<=b)&&decide (b<=(n:Int))&&decide (0<n)) (cZ X.E dst (.slh i off b.toNat sz) K Z) | _=>none)
   | some l,none=>(match Z.rd l with | some (.int _ a)=>chk (decide (0<=a)&&decide (a<=(n:Int))) (aA (decide (a<(n:Int))) (cZ X.E dst (.slh i (off+a.toNat*sz) (n-a.toNat) sz) K Z) (cZ X.E dst (.sl false sz []) K Z)) | _=>none)
   | _,_=>none)
  | false=>none)
 | none=>none
def Tt (X:XE) (dst:Option Nat) (t:TypeId) (l c:Operand) (K:ASt->R) (Z:ASt):R :=
 match iq X.E.P t,Z.rd l,Z.rd c with
 | some I,some (.int _ n),some (.int _ n')=>(match Nat.blt 0 I.size&&Nat.ble I.bytes 1024 with
  | true=>chk (decide (n=n')&&decide (0<=n)&&decide (n<=1073741824)) (match bn X.E.mu dst with
   | true=>cZ X.E dst (.slh Z.h.length 0 n.toNat I.size) K ⟨Z.s,Z.h ++ [some (tV n.toNat I)]⟩
   | false=>(match Nat.beq (rG I).size I.size&&(rG I).okE with | true=>cZ X.E dst (.sl true I.size (List.replicate n.toNat (rG I))) K Z | false=>none))
  | false=>none)
 | _,_,_=>none
def YF (X:XE) (dst:Option Nat) (t:TypeId) (x y:Operand) (K:ASt->R) (Z:ASt):R :=
 match iq X.E.P t,Z.rd x,Z.rd y with
 | some I,some (.slh i off n sz),some (.sl _ sz' es)=>(match Z.h[i]? with
  | some (some cs)=>(match Nat.beq I.size sz&&(Nat.blt 0 sz&&(Nat.beq sz' sz||Nat.beq sz' 0)) with
   | true=>chk (decide (off+n*sz<=cs.length)) (cZ X.E dst (.int .i64 ((Nat.min es.length n:Nat):Int)) K { Z with h:=Z.h.set i (some (cs.take off ++ (dG es).take (Nat.min es.length n*sz) ++ cs.drop (off+Nat.min es.length n*sz))) })
   | false=>none)
  | _=>none)
 | some I,some (.slh i off n sz),some (.slh j LU m sz')=>(match Z.h[i]?,Z.h[j]? with
  | some (some cs),some (some cs2)=>(match Nat.beq I.size sz&&(Nat.blt 0 sz&&Nat.beq sz' sz) with
   | true=>chk (decide (off+n*sz<=cs.length)&&decide (LU+m*sz<=cs2.length)) (cZ X.E dst (.int .i64 ((Nat.min m n:Nat):Int)) K { Z with h:=Z.h.set i (some (cs.take off ++ (((cs2.drop LU).take (m*sz)).map PV.un).take (Nat.min m n*sz) ++ cs.drop (off+Nat.min m n*sz))) })
   | false=>none)
  | _,_=>none)
 | _,_,_=>none
def Tn (X:XE) (dst:Option Nat) (t:TypeId) (x:Operand) (K:ASt->R) (Z:ASt):R :=
 match iq X.E.P t,Z.rd x,dst with
 | some I,some (.slh i off n sz),none=>(match Z.h[i]? with
  | some (some cs)=>(match Nat.beq I.size sz with
   | true=>chk (decide (off+n*sz<=cs.length)) (K { Z with h:=Z.h.set i (some (cs.take off ++ (tV n I).map PV.un ++ cs.drop (off+n*sz))) })
   | false=>none)
  | _=>none)
 | some _,some (.sl _ _ []),none=>K Z
 | _,_,_=>none
def Jj (X:XE) (dst:Option Nat) (t:TypeId) (p:PV) (pos:Bool) (K:ASt->R) (Z:ASt):R:=match KR X.E.P t with
 | true=>OU p fun b=>cZ X.E dst (.bool (b==pos)) K Z
 | false=>none
def YE (X:XE) (dst:Option Nat) (ts:List TypeId) (s:Operand) (n sz:Nat) (cs:List PV) (sz':Nat) (es':List PV) (K:ASt->R) (Z:ASt):R:=match ts with
 | [t,u]=>(match iq X.E.P t with
  | some I=>(match Nat.beq t u&&(Nat.blt 0 I.size&&(Nat.ble I.bytes 1024&&(Nat.beq sz I.size&&(Nat.beq sz' I.size||Nat.beq sz' 0)))) with
   | true=>chk (decide (n+es'.length<=aV)&&(dG es').all PV.lit) (cZ X.E dst (.eH true (n+es'.length) sz (cs ++ dG es')) K (Z.clr s))
   | false=>none)
  | none=>none)
 | _=>none
def a0N (b:Bool) (off:Nat) (n:Int) (sz:Nat):Nat:=match b with
 | true=>off+n.toNat*sz
 | false=>(match off,sz with | 0,1=>n.toNat | _,_=>off+n.toNat*sz)
theorem b7F (b:Bool) (off:Nat) (n:Int) (sz:Nat):a0N b off n sz=off+n.toNat*sz:=by
 unfold a0N;split
 .rfl
 .split
  .omega
  .rfl
def b6F (P:Program) (t:TypeId):TypeId:=match P.underlying t with | some (.map _ e)=>e | _=>0
def Tq (X:XE) (dst:Option Nat) (t:TypeId) (ok:Bool) (m q:PV) (K:ASt->R) (Z:ASt):R :=
 match zK X.E.P t,m with
 | some (s,z),.bf 0 i=>(match Z.h[i]? with
  | some (some cs)=>(match xw cs with
   | some (_,L)=>(match vO s q with
    | true=>(match bn X.E.sy dst with
     | true=>I7 s L q (fun p=>cZ X.E dst (zH ok z (some p)) K Z) (cZ X.E dst (zH ok z none) K Z)
     | false=>LJ s L q (fun p=>X.V (b6F X.E.P t) p fun p'=>cZ X.E dst (zH ok z (some p')) K Z) (cZ X.E dst (zH ok z none) K Z))
    | false=>none)
   | none=>none)
  | _=>none)
 | _,_=>none
def Jl (X:XE) (dst:Option Nat) (t:TypeId) (m q x:PV) (K:ASt->R) (Z:ASt):R :=
 match zK X.E.P t,m,dst with
 | some (s,_),.bf 0 i,none=>(match Z.h[i]? with
  | some (some cs)=>(match xw cs with
   | some (b,L)=>(match vO s q with
    | true=>chk (nP s L q&&(!b||x.flat)) (K { Z with h:=Z.h.set i (some [lI b (iL s L q x)]) })
    | false=>none)
   | none=>none)
  | _=>none)
 | _,_,_=>none
def Tu (X:XE) (dst:Option Nat) (b:Bool) (q:Option PV) (K:ASt->R) (Z:ASt):R:=match b,q with
 | true,some (.bf T i)=>(match Z.h[i]? with
  | some (some cs)=>(match KU cs with
   | some (s,p)=>(match Nat.beq T AB with
    | true=>chk (decide (0<=p)) (aA (decide (p<(s.size:Int))) (cZ X.E dst (.tuple [.bool true,.int .i64 p,.int .i32 (VC s p)]) K { Z with h:=Z.h.set i (some [wY s (KW s p)]) }) (cZ X.E dst (.tuple [.bool false]) K Z))
    | false=>none)
   | none=>none)
  | _=>none)
 | _,_=>none
def Jk (X:XE) (o:Oper) (K:ASt->R) (Z:ASt):R :=
 match o.op with
 | .convert s d x=>(match Z.rd x with
  | some (.sl _ _ es)=>(match KQ X.E.P s&&qC X.E.P d with | true=>chk (Xv es) (cZ X.E o.dst (.str (strOf es)) K Z) | false=>none)
  | _=>lV X o K Z)
 | .indexAddr t x i=>(match Z.rd x,Z.rd i with
  | some (.sl _ sz es),some (.int _ n)=>YH X o.dst t sz es n K Z
  | some (.slh i off m sz),some (.int _ n)=>(match bn X.E.sy o.dst with
   | true=>(match iq X.E.P t with
    | some I=>(match Nat.beq I.size sz with | true=>chk (decide (0<=n)&&decide (n<(m:Int))) (cZ X.E o.dst (.ptr i (a0N (bn X.E.sy (o.dst.map (8000000 + ·))) off n sz)) K Z) | false=>none)
    | none=>none)
   | false=>lV X o K Z)
  | some (.ptr i off),some (.int _ n)=>(match bn X.E.sy o.dst with
   | true=>(match CB X.E.P t with
    | some (m,I)=>chk (decide (0<=n)&&decide (n<(m:Int))) (cZ X.E o.dst (.ptr i (off+n.toNat*I.size)) K Z)
    | none=>none)
   | false=>lV X o K Z)
  | some (.cst (.agg cs)),some (.int _ n)=>(match SK X.E.P t with
   | some (m,e)=>chk (decide (n<(m:Int))) (dH cs n fun p=>X.V e p fun q=>(match q.one with | true=>cZ X.E o.dst (.cst q.un) K Z | false=>none))
   | none=>lV X o K Z)
  | _,_=>lV X o K Z)
 | .load t a=>(match aE9 X.E a && !bn X.E.ln o.dst with
  | true=>(match ti X.E.P t,Z.rd a with
   | some I,some (.ptr i off)=>(match Z.h[i]? with
    | some (some cs)=>(match I.agg with
     | true=>chk (decide (off+I.size<=cs.length)) (X.V t (.agg (((cs.drop off).take I.size).map PV.un)) fun q=>cZ X.E o.dst q K Z)
     | false=>(match !bn X.E.mv o.dst with | true=>Q7 cs off fun p=>X.V t p fun q=>cZ X.E o.dst q.un K Z | false=>none))
    | _=>none)
   | _,_=>none)
  | false=>(match Z.rd a,ti X.E.P t with
   | some (.cst e),some I=>chk (decide (e.isAgg=I.agg)&&decide (e.size=I.size)) (cZ X.E o.dst e.un K Z)
   | _,_=>lV X o K Z))
 | .store t a x=>(match aE9 X.E a && !bn X.E.mu (xB a) with
  | true=>(match ti X.E.P t,Z.rd a,Z.ev x,o.dst with
   | some I,some (.ptr i off),some p,none=>(match Z.h[i]? with
    | some (some cs)=>(match p with
     | .agg ds=>(match Nat.beq ds.length I.size&&ds.all PV.one with | true=>chk (decide (off+I.size<=cs.length)) (K { Z.clr x with h:=(Z.clr x).h.set i (some (cs.take off ++ ds.map PV.un ++ cs.drop (off+I.size))) }) | false=>none)
     | p=>(match p.one&&Nat.beq I.size 1 with | true=>chk (decide (off<cs.length)) (K { Z.clr x with h:=(Z.clr x).h.set i (some (cs.set off p)) }) | false=>none))
    | _=>none)
   | _,_,_,_=>none)
  | false=>(match Z.ev x with
   | some (.agg ds)=>(match ti X.E.P t,Z.rd a,o.dst with
    | some I,some (.ptr i off),none=>(match Z.h[i]? with
     | some (some cs)=>(match MH X.E.mu X.E.ln (xB a) (Z.rd a)&&(Nat.beq ds.length I.size&&Nat.ble (off+I.size) cs.length) with
      | true=>chk (ds.all PV.one) (K { Z.clr x with h:=(Z.clr x).h.set i (some (cs.take off ++ ds.map PV.un ++ cs.drop (off+I.size))) })
      | false=>none)
     | _=>none)
    | _,_,_=>none)
   | _=>lV X o K Z))
 | .index t x i=>(match Z.rd x,Z.rd i with
  | some (.str s),some (.int _ n)=>(match qC X.E.P t with | true=>ry s n fun b=>cZ X.E o.dst (.int .u8 b) K Z | false=>none)
  | some (.agg cs),some (.int _ n)=>(match bn X.E.sy o.dst with
   | true=>(match SK X.E.P t with
    | some (m,_)=>chk (decide (0<=n)&&decide (n<(m:Int))) (Nr cs 0 n fun p=>(match p.one with | true=>cZ X.E o.dst p.un K Z | false=>none))
    | none=>none)
   | false=>lV X o K Z)
  | _,_=>lV X o K Z)
 | .pick c a b=>(match Z.rd c with
  | some (.bool v)=>aA v (QL X.E o.dst (Z.rd a) K Z) (QL X.E o.dst (Z.rd b) K Z)
  | _=>none)
 | .slice t x lo hi none=>(match Z.rd x with
  | some (.sl _ sz es)=>(match iq X.E.P t with | some I=>if I.size=sz then Gl X o.dst sz es lo hi K Z else none | none=>none)
  | some (.str s)=>(match qC X.E.P t with | true=>Gm X o.dst s lo hi K Z | false=>none)
  | some (.slh i off n sz)=>OM X o.dst t i off n sz lo hi K Z
  | _=>lV X o K Z)
 | .slice t x (some l) (some u) (some m)=>(match Z.rd x,Z.rd l,Z.rd u,Z.rd m with
  | some (.sl _ sz es),some (.int _ a),some (.int _ b),some (.int _ c)=>(match iq X.E.P t with
   | some I=>(match Nat.beq I.size sz with | true=>chk (decide (0<=a)&&decide (a<=b)&&decide (b<=c)&&decide (c<=(es.length:Int))) (cZ X.E o.dst (.sl false sz ((es.take b.toNat).drop a.toNat)) K Z) | false=>none)
   | none=>none)
  | _,_,_,_=>none)
 | .makeSlice t l c=>Tt X o.dst t l c K Z
 | .lookup t m k ok=>(match Z.rd m,Z.rd k with
  | some pm,some q=>Tq X o.dst t ok pm q K Z
  | _,_=>none)
 | .mapUpdate t m k x=>(match Z.rd m,Z.rd k,Z.rd x with
  | some pm,some q,some y=>Jl X o.dst t pm q y K Z
  | _,_,_=>none)
 | .insert t m k x=>(match Qh X.E.mu X.E.ln (xB m) (Z.rd m) with
  | false=>none
  | true=>(match Z.rd m,Z.rd k,Z.rd x with
   | some pm,some q,some y=>Jl X o.dst t pm q y K Z
   | _,_,_=>none))
 | .next x b=>Tu X o.dst b (Z.rd x) K Z
 | .fieldAddr s x f=>(match Z.rd x,fieldsOf X.E.P s with
  | some (.cst (.agg cs)),some fs=>(match fs[f]? with
   | some (off,z,false)=>(match Nat.beq z 0,cs[off]? with
    | false,some p=>chk p.one (cZ X.E o.dst (.cst p.un) K Z)
    | _,_=>none)
   | _=>lV X o K Z)
  | _,_=>lV X o K Z)
 | .box t x=>(match bn X.E.fz o.dst,Z.rd x with
  | true,some (.agg ds)=>chk (ds.all PV.one&&PV.flats ds) (cZ X.E o.dst (.cst (.agg (ds.map PV.un))) K Z)
  | _,_=>lV X o K Z)
 | .binOp op t x y _=>(match op,Z.rd x,Z.rd y with
  | .quo,some (.int k a),some (.int k' b)=>Ji X o.dst k k' b (k.wrap (a.tdiv b)) K Z
  | .rem,some (.int k a),some (.int k' b)=>Ji X o.dst k k' b (a.tmod b) K Z
  | .shl,some (.int k a),some (.int _ b)=>a8M X o.dst k b (k.wrap (a*2 ^ min b.toNat k.bits)) K Z
  | .shr,some (.int k a),some (.int _ b)=>a8M X o.dst k b (a.fdiv (2 ^ min b.toNat k.bits)) K Z
  | .add,some (.str a),some (.str b)=>chk (decide (a.size+b.size<=aV)) (cZ X.E o.dst (.str (a ++ b)) K Z)
  | .eql,some p,some (.raw .nilFunc)=>Jj X o.dst t p true K Z
  | .neq,some p,some (.raw .nilFunc)=>Jj X o.dst t p false K Z
  | _,_,_=>lV X o K Z)
 | .call c=>(match c.callee with
  | .builtin .clear=>(match c.args.toList,c.argTypes.toList with
   | [x],[t]=>Tn X o.dst t x K Z
   | _,_=>none)
  | .builtin .copy=>(match c.args.toList,c.argTypes.toList with
   | [x,y],[t,_]=>YF X o.dst t x y K Z
   | _,_=>none)
  | .builtin .append=>(match c.args.toList with
   | [s,x]=>(match Z.ev s,Z.rd x with
    | some (.sl _ _ es),some (.sl _ _ es')=>chk (decide (es.length+es'.length<=aV)) (lV X o K Z)
    | some (.sl _ _ es),some (.str b)=>chk (decide (es.length+b.size<=aV)) (lV X o K Z)
    | some (.eH true n sz cs),some (.sl _ sz' es')=>YE X o.dst c.argTypes.toList s n sz cs sz' es' K Z
    | some (.bg l),some (.str b)=>chk (decide (l.length+b.size<=aV)) (lV X o K Z)
    | some (.bg l),some (.sl _ _ es')=>(match QD es' with
     | some c=>chk (decide (l.length+1<=aV)&&decide (0<=c)&&decide (c<256)) (lV X o K Z)
     | none=>none)
    | _,_=>none)
   | _=>none)
  | .builtin _=>lV X o K Z
  | _=>none)
 | _=>lV X o K Z
def WG (zs:List Nat) (p:PV):PV:=match zs.all (Nat.beq · 0) with | true=>p | false=>p.xI zs
def lw (P:Program):List TypeId->List PV->List PV
 | t::ts,p::ps=>WG (JY P 8 t) p::lw P ts ps
 | _,ps=>ps
def pI (E:AE) (o:Oper):List TypeId:=match bn E.sy (o.dst.map (9000000 + ·)) with | true => [] | false=>(match o.op with | .call c=>c.argTypes.toList | _ => [])
mutual
def PV.ids:PV->List Nat
 | .ptr i _ => [i]
 | .bf _ i => [i]
 | .slh i _ _ _ => [i]
 | .func _ a c=>PV.uV a ++ PV.uV c
 | .agg cs=>PV.uV cs
 | .tuple cs=>PV.uV cs
 | _ => []
def PV.uV:List PV->List Nat
 | [] => []
 | p::ps=>p.ids ++ PV.uV ps
end
def uI (l:List Nat):List Nat->List Nat
 | []=>l
 | i::is=>uI (match kW l i with | true=>l | false=>l ++ [i]) is
def a7J (H:aF):List Nat->List Nat
 | [] => []
 | i::l=>(match mO H i with | some cs=>PV.uV cs | none => []) ++ a7J H l
def EK (H:aF):Nat->List Nat->List Nat
 | 0,l=>l
 | n+1,l=>EK H n (uI l (a7J H l))
def aKI (ids:List Nat) (H:aF) (full:List PV):Bool :=nodupB ids&&(ids.all (fun i=>Nat.blt i H.length)&&(PV.kR (kW ids) full&&ids.all fun i=>match mO H i with | some cs=>PV.kR (kW ids) cs | none=>true))
def wS (X:XE) (dst:Option Nat) (g:FuncId) (full:List PV) (ids:List Nat) (K:ASt->R) (Z:ASt):R :=
 match aKI ids Z.h full with
 | true=>xg X.C g (jC (oQ ids) full) ((ids.map (mO Z.h)).map (jV (oQ ids))) fun r h'=>X.W g ((ids.map (mO Z.h)).map (jV (oQ ids))) r h' fun r' h''=>cZ X.E dst (iQ (nK ids Z.h.length) r') K ⟨Z.s,rq ids Z.h h''⟩
 | false=>none
def nZ (p:PV):Bool:=p.one&&p.flat
def IL:Option (List PV)->Bool
 | some cs=>cs.all nZ
 | none=>true
def a2N (ids:List Nat) (H h':aF):aF:=lZ ids (h'.take ids.length) H ++ h'.drop ids.length
def Gj (X:XE) (dst:Option Nat) (g:FuncId) (full:List PV) (ids:List Nat) (K:ASt->R) (Z:ASt):R :=
 match nodupB ids&&(ids.all (fun i=>Nat.blt i Z.h.length)&&PV.kR (kW ids) full) with
 | true=>chk ((ids.map (mO Z.h)).all IL) (xg X.C g (jC (oQ ids) full) (ids.map (mO Z.h)) fun r h'=>X.W g (ids.map (mO Z.h)) r h' fun r' h''=>chk (h''.all IL) (cZ X.E dst (iQ (nK ids Z.h.length) r') K ⟨Z.s,a2N ids Z.h h''⟩))
 | false=>none
def YL (X:XE) (dst:Option Nat) (r:PV) (K:ASt->R) (Z:ASt):R:=match r with
 | .sl true 1 es=>chk (decide (0<es.length)&&es.all qJ) (cZ X.E dst (.slh Z.h.length 0 es.length 1) K ⟨Z.s,Z.h ++ [some es]⟩)
 | .sl true sz es=>aA (decide (0<es.length)) (chk (es.all (vY sz)) (cZ X.E dst (.slh Z.h.length 0 es.length sz) K ⟨Z.s,Z.h ++ [some (dG es)]⟩)) (cZ X.E dst (.sl true sz []) K Z)
 | _=>none
def YI (X:XE) (dst:Option Nat) (g:FuncId) (full:List PV) (K:ASt->R) (Z:ASt):R :=chk (Pj Z.h full) (iI X.C g (VU Z.h full) fun r=>X.W g [] r [] fun r' _=>(match r'.qp with | true=>cZ X.E dst r' K Z | false=>none))
def aIO (l ids:List Nat) (n:Nat):Bool:=l.all fun k=>match Nat.ble 1000000 k with
 | true=>Nat.blt (k-1000000) n && !kW ids (k-1000000)
 | false=>true
def Gi (X:XE) (draw:Bool) (o:Oper) (f:Operand) (args:List Operand) (K:ASt->R) (Z:ASt):R :=
 match Z.rd f,iJ (args.map Z.rd) with
 | some (.func (.func g) first caps),some az=>(match !draw&&(bn X.E.ln o.dst&&bn X.E.sy o.dst) with
  | true=>(match bn X.E.sy (o.dst.map (6000000 + ·)) with
   | true=>Gj X o.dst g (first ++ lw X.E.P (pI X.E o) az ++ caps) (uI [] (PV.uV (first ++ lw X.E.P (pI X.E o) az ++ caps))) K Z
   | false=>wS X o.dst g (first ++ lw X.E.P (pI X.E o) az ++ caps) (EK Z.h 3 (uI [] (PV.uV (first ++ lw X.E.P (pI X.E o) az ++ caps)))) K Z)
  | false=>match PV.flats (first ++ lw X.E.P (pI X.E o) az ++ caps) with
   | true=>iI X.C g (first ++ lw X.E.P (pI X.E o) az ++ caps) fun r=>X.W g [] r [] fun r' _=>(match !draw&&bn X.E.mu o.dst with
    | true=>YL X o.dst r' K Z
    | false=>(match PV.flat r' with | true=>cZ X.E o.dst r' K Z | false=>none))
   | false=>(match draw with
    | true=>match bn X.E.sy o.dst&&aIO X.E.ln (EK Z.h 3 (uI [] (PV.uV (first ++ lw X.E.P (pI X.E o) az ++ caps)))) Z.h.length with
     | true=>wS X o.dst g (first ++ lw X.E.P (pI X.E o) az ++ caps) (EK Z.h 3 (uI [] (PV.uV (first ++ lw X.E.P (pI X.E o) az ++ caps)))) K Z
     | false=>none
    | false=>match bn X.E.ln o.dst with
     | true=>YI X o.dst g (first ++ lw X.E.P (pI X.E o) az ++ caps) K Z
     | false=>match bn X.E.sy o.dst with
     | true=>Gj X o.dst g (first ++ lw X.E.P (pI X.E o) az ++ caps) (uI [] (PV.uV (first ++ lw X.E.P (pI X.E o) az ++ caps))) K Z
     | false=>wS X o.dst g (first ++ lw X.E.P (pI X.E o) az ++ caps) (EK Z.h 3 (uI [] (PV.uV (first ++ lw X.E.P (pI X.E o) az ++ caps)))) K Z))
 | _,_=>none
def Tj (X:XE) (o:Oper) (f:Operand) (args:List Operand) (K:ASt->R) (Z:ASt):R :=
 match Z.rd f,iJ (args.map Z.rd) with
 | some p,some az=>Jp p fun g first caps=>chk (PV.flats (first ++ lw X.E.P (pI X.E o) az ++ caps)) (iI X.C g (first ++ lw X.E.P (pI X.E o) az ++ caps) fun r=>X.V o.type r fun r'=>(match PV.flat r' with | true=>cZ X.E o.dst r' K Z | false=>none))
 | _,_=>none
def EM (X:XE) (draw:Bool) (o:Oper) (K:ASt->R) (Z:ASt):R :=
 match qi o with
 | some (f,args)=>(match bn X.E.sy (o.dst.map (2000000 + ·)) with | true=>Tj X o f args K Z | false=>Gi X draw o f args K Z)
 | none=>match draw with
  | true=>Jk X o K Z
  | false=>match a0H X.E o Z with
   | some (es,pos)=>F5 es fun b=>cZ X.E o.dst (.bool (b==pos)) K Z
   | none=>Jk X o K Z
def EN (X:XE) (draw:Bool) (o:Oper) (d:Nat) (want v:Bool) (K:ASt->R) (Z:ASt):R :=
 match v==want with
 | true=>EM X draw o K (Z.lit d v)
 | false=>cZ X.E o.dst (.tuple []) K (Z.lit d v)
def iy (X:XE) (draw:Bool) (ops:Array Oper):List Oper->(ASt->R)->ASt->R
 | [],K,Z=>K Z
 | o::l,K,Z=>match o.guard with
  | none=>EM X draw o (iy X draw ops l K) Z
  | some (j,want)=>match (ops[j]?).bind (·.dst) with
   | none=>cZ X.E o.dst (.tuple []) (iy X draw ops l K) Z
   | some d=>match bK d Z.s with
    | some (.bool b)=>aA b (EN X draw o d want true (iy X draw ops l K) Z) (EN X draw o d want false (iy X draw ops l K) Z)
    | some (.tuple [])=>cZ X.E o.dst (.tuple []) (iy X draw ops l K) Z
    | _=>none
def tK (k:ASt->R) (K:AX->ASt->R):AX->ASt->R
 | .normal,Z=>k Z
 | .ret,Z=>K .ret Z
 | .exit i,Z=>K (.exit i) Z
def au (id:Nat) (K:AX->ASt->R):AX->ASt->R
 | .exit i,Z=>if i=id then K .normal Z else K (.exit i) Z
 | .normal,Z=>K .normal Z
 | .ret,Z=>K .ret Z
def ASt.keys (E:AE) (Z:ASt):List Nat:=(Z.keep E.vars).s.map (·.1)
def zU:Code->Nat
 | .region id _ _=>id+1
 | .seq .skip y=>zU y
 | .seq (.label _) y=>zU y
 | .seq x _=>zU x
 | .block _ x=>zU x
 | .scope x=>zU x
 | .loop x=>zU x
 | _=>0
mutual
def PV.aKR:PV->Nat
 | .ptr i _=>i+1
 | .bf _ i=>i+1
 | .slh i _ _ _=>i+1
 | .func _ f c=>Nat.max (PV.Dh f) (PV.Dh c)
 | .agg cs=>PV.Dh cs
 | .tuple cs=>PV.Dh cs
 | _=>0
def PV.Dh:List PV->Nat
 | []=>0
 | p::ps=>Nat.max p.aKR (PV.Dh ps)
end
def aKS:dw->Nat
 | []=>0
 | (_,p)::l=>Nat.max p.aKR (aKS l)
def a3E:Nat->aF->Nat
 | 0,_=>0
 | _,[]=>0
 | n+1,o::h=>Nat.max (match o with | some cs=>PV.Dh cs | none=>0) (a3E n h)
def aJR:PV->List Nat
 | .slh i _ _ _ => [i]
 | _ => []
def Ah:List PV->List Nat
 | [] => []
 | p::ps=>uI (aJR p) (Ah ps)
def a0L:List Nat->List Nat
 | [] => []
 | k::l=>(match Nat.ble 8500000 k with | true=>(k-8500000)::a0L l | false=>a0L l)
def OO (l:List Nat):dw->List Nat
 | []=>a0L l
 | (k,p)::s=>(match kW l k with | true=>uI (match kW l (7000000+k) with | true=>p.ids | false=>aJR p) (OO l s) | false=>OO l s)
def FT (fl:List Nat):Nat->aF->aF
 | _,[] => []
 | j,o::h=>(match kW fl j with | true=>none | false=>o)::FT fl (j+1) h
def plainO (h:aF):List Nat->Bool
 | []=>true
 | i::is=>(match h[i]? with | some (some cs)=>cs.all nZ | _=>true)&&plainO h is
def Q4 (m0:Nat) (l:List Nat) (Z:ASt):Nat :=
 let h:=FT (OO l Z.s) 0 Z.h
 let a:=Nat.max m0 (aKS (Z.keep l).s)
 let b:=Nat.max a (a3E a h)
 Nat.max b (a3E b h)
def DF (l:List Nat) (m:Nat) (Z:ASt):Bool:=plainO (Z.gc l m).h (OO l (Z.gc l m).s)
def Ap (l:List Nat) (m:Nat) (Z:ASt):Bool:=(Z.gc l m).s.all (fun kp=>kp.2.blw m)&&xZ m (FT (OO l (Z.gc l m).s) 0 (Z.gc l m).h)
theorem aJO (fl:List Nat):∀ (h:aF) (j k:Nat) (o:Option (List PV)),h[k]? = some o->(FT fl j h)[k]? = some (match kW fl (j+k) with | true=>none | false=>o)
 | [],_,_,_,h=>by simp at h
 | a::h,j,0,o,e=>by simp at e; subst e; simp[FT]
 | a::h,j,k+1,o,e=>by rw[FT,X3,aJO fl h (j+1) k o (by simpa using e),show j+1+k=j+(k+1) by omega]
theorem aH' {h:aF}:∀ {fl:List Nat} {i:Nat} {cs:List PV},plainO h fl=true->i∈fl->h[i]? = some (some cs)->cs.all nZ=true
 | a::fl,i,cs,hp,hi,e=>by
  simp only[plainO,aY] at hp;rcases fQ.1 hi with rfl | hi
  .have:=hp.1; rw[e] at this; exact this
  .exact aH' hp.2 hi e
theorem aI0 (m:Nat):∀ {cs:List PV},cs.all nZ=true->PV.blws m cs=true
 | [],_=>rfl
 | p::cs,h=>by simp only[rM,aY,nZ] at h;simp only[PV.blws,a96 m p h.1.2,aI0 m h.2,wF]
theorem a6W {m:Nat} {h:aF} {fl:List Nat} (hp:plainO h fl=true) (hb:xZ m (FT fl 0 h)=true):xZ m h=true:=by
 unfold xZ at hb ⊢;rw[fH] at hb ⊢;intro o ho;obtain ⟨k,hk⟩:=wH.1 ho;have h1:=aJO fl h 0 k o hk;rw[jW] at h1;cases hi:kW fl k with
 | true =>
  cases o with
  | none=>rfl
  | some cs=>exact aI0 m (aH' hp (VA.1 hi) hk)
 | false =>rw[hi] at h1;exact hb o (iV h1)
theorem Yo {l:List Nat} {m:Nat} {Z:ASt} (hp:DF l m Z=true) (hg:Ap l m Z=true):yw l m Z=true:=by unfold Ap at hg;unfold yw;rw[aY] at hg ⊢;exact ⟨hg.1,a6W hp hg.2⟩
def Aw (E:AE) (m0:Nat) (y:Code) (k:ASt->R) (Z:ASt):R:=match E.jt.lookup (zU y) with
 | some l=>chk (DF l (Q4 m0 l Z) Z) (match decide (m0<=Q4 m0 l Z)&&Ap l (Q4 m0 l Z) Z with | true=>k (Z.gc l (Q4 m0 l Z)) | false=>none)
 | none=>k Z
def kV (k:ASt->R):List Nat->ASt->R
 | [],Z=>k Z
 | d::ds,Z=>match Nat.ble 9000000 d with
  | true=>(match bK (d-9000000) Z.s with
   | some (.ptr i 0)=>(match Z.h[i]? with
    | some (some cs)=>chk (decide (0<cs.length)&&cs.all fun p=>p.one&&p.flat) (kV k ds ⟨gK (d-9000000) (.cst ((kT cs.length cs 1).headD .nilp)) Z.s,Z.h.set i none⟩)
    | _=>kV k ds Z)
   | _=>kV k ds Z)
  | false=>match Nat.ble 5000000 d with
  | true=>(match bK ((d-5000000) / 100) Z.s with
   | some (.ptr i2 0)=>(match Z.h[i2]? with
    | some (some cs0)=>(match cs0[(d-5000000) % 100]? with
     | some (.slh i 0 n sz)=>(match Z.h[i]? with
      | some (some cs)=>chk (decide (n*sz<=cs.length)&&decide (0<sz)&&cs.all (fun p=>p.one&&p.flat) && !Nat.beq i i2) (kV k ds ⟨Z.s,(Z.h.set i none).set i2 (some (cs0.set ((d-5000000) % 100) (.sl false sz (kT sz cs n))))⟩)
      | _=>kV k ds Z)
     | _=>kV k ds Z)
    | _=>kV k ds Z)
   | _=>kV k ds Z)
  | false=>match Nat.ble 4000000 d with
  | true=>(match bK ((d-4000000) / 100) Z.s with
   | some (.ptr i 0)=>(match Z.h[i]? with
    | some (some cs0)=>(match cs0[(d-4000000) % 100]? with
     | some (.eH true n sz cs)=>aA (Nat.ble 1 n) (kV k ds ⟨Z.s,Z.h.set i (some (cs0.set ((d-4000000) % 100) (.slh Z.h.length 0 n sz))) ++ [some cs]⟩) (kV k ds ⟨Z.s,Z.h.set i (some (cs0.set ((d-4000000) % 100) (.sl false sz [])))⟩)
     | _=>kV k ds Z)
    | _=>kV k ds Z)
   | _=>kV k ds Z)
  | false=>match Nat.ble 3000000 d with
  | true=>(match bK ((d-3000000) % 500000) Z.s with
   | some (.eH true n sz cs)=>(match Nat.ble 3500000 d with
    | true=>chk (Nat.ble 1 n) (kV k ds ⟨gK ((d-3000000) % 500000) (.slh Z.h.length 0 n sz) Z.s,Z.h ++ [some cs]⟩)
    | false=>aA (Nat.ble 1 n) (kV k ds ⟨gK ((d-3000000) % 500000) (.slh Z.h.length 0 n sz) Z.s,Z.h ++ [some cs]⟩) (kV k ds ⟨gK ((d-3000000) % 500000) (.sl false sz []) Z.s,Z.h⟩))
   | _=>kV k ds Z)
  | false=>match Nat.ble 1000000 d with
   | true=>(match bK (d-1000000) Z.s with
    | some (.slh i 0 n sz)=>(match Z.h[i]? with
     | some (some cs)=>chk (decide (n*sz<=cs.length)&&decide (0<sz)&&cs.all fun p=>p.one&&p.flat) (kV k ds ⟨gK (d-1000000) (.sl false sz (kT sz cs n)) Z.s,Z.h.set i none⟩)
     | _=>kV k ds Z)
    | _=>kV k ds Z)
   | false=>kV k ds (uS d Z)
def qj (E:AE) (m0:Nat) (y:Code) (k:ASt->R) (Z:ASt):R:=match E.ft.lookup (zU y) with
 | some ks=>kV (Aw E m0 y k) ks Z
 | none=>Aw E m0 y k Z
def sU (E:AE) (m0:Nat) (x:Code) (Z:ASt):List Nat×Nat:=match E.lt.lookup (zU x) with
 | some l=>(l,Q4 m0 l Z)
 | none=>(Z.keys E,Z.h.length)
open Classical in
def nG (a b:R):R:=match a with
 | some (r,h)=>(match b with | some (r',h')=>(match PV.mG r r'&&Ag h h' with | true=>some (r,h) | false=>if r=r'/\h=h' then some (r,h) else none) | none=>none)
 | none=>none
theorem Xg (a:R):nG a a=a:=by
 unfold nG;cases a with
 | none=>rfl
 | some v =>
  obtain ⟨r,h⟩:=v;dsimp only;split
  .rfl
  .simp
theorem aM5 {a b:R} {v:PV×aF} (h:nG a b=some v):a=some v/\b=some v:=by
 unfold nG at h;split at h
 .split at h
  .split at h
   .rename_i r1 h1 r2 h2 hc;simp only[aY] at hc;obtain rfl:=PV.Tc hc.1;obtain rfl:=TZ hc.2;exact ⟨h,h⟩
   .split at h
    .rename_i hc; obtain ⟨rfl,rfl⟩:=hc; exact ⟨h,h⟩
    .cases h
  .cases h
 .cases h
def Nk:List R->R
 | []=>none
 | x::l=>match l with | []=>x | _::_=>nG x (Nk l)
def CO (X:XE) (ops:Array Oper) (K:ASt->R):Nat->Array Bool->ASt->R
 | 0,L,Z=>(match Region.ready .any ops L with | []=>K Z | _::_=>none)
 | fuel+1,L,Z=>(match Region.ready .any ops L with
  | []=>K Z
  | i::is=>Nk ((match EQ X.E ops L (i::is) with | some j => [j] | none=>i::is).map fun i=>match ops[i]? with
   | none=>none
   | some o=>iy X true ops [o] (CO X ops K fuel (L.setIfInBounds i true)) Z))
def a8F (X:XE) (ops:Array Oper) (K:ASt->R) (Z:ASt):R:=CO X ops K ops.size (Array.replicate ops.size false) Z
theorem a5' {v:PV×aF}:∀ {l:List R},Nk l=some v->∀ x,x∈l->x=some v
 | [],_,x,hx=>by cases hx
 | y::l,h,x,hx=>by
  unfold Nk at h;cases l with
  | nil=>rw[Bj] at hx; subst hx; exact h
  | cons z l' =>
   obtain ⟨h1,h2⟩:=aM5 h;rcases fQ.1 hx with hx | hx
   .subst hx; exact h1
   .exact a5' h2 x hx
def bI (X:XE):Code->(AX->ASt->R)->ASt->R
 | .skip,K,Z=>K .normal Z
 | .label _,K,Z=>K .normal Z
 | .exit id,K,Z=>K (.exit id) Z
 | .ret,K,Z=>K .ret Z
 | .region _ ops draw,K,Z=>(match draw with
  | true=>(match okD X.E ops with | true=>iy X true ops ops.toList (K .normal) (Z.head X.E) | false=>a8F X ops (K .normal) (Z.head X.E))
  | false=>iy X false ops ops.toList (K .normal) (Z.head X.E))
 | .seq x y,K,Z=>bI X x (tK (qj X.E X.m0 y (bI X y K)) K) Z
 | .cond c x y,K,Z=>(match Z.rd c with
  | some (.bool b)=>(match c with
   | .tmp d=>aA b (bI X x K (Z.lit d true)) (bI X y K (Z.lit d false))
   | _=>aA b (bI X x K Z) (bI X y K Z))
  | _=>none)
 | .block id x,K,Z=>bI X x (au id K) Z
 | .scope x,K,Z=>bI X x K Z
 | .loop x,K,Z=>X.L (sU X.E X.m0 x Z).1 (sU X.E X.m0 x Z).2 x K (Z.gc (sU X.E X.m0 x Z).1 (sU X.E X.m0 x Z).2)
 | _,_,_=>none
section
variable {ι:Type} (Good:(ι->R)->Prop)
structure GL:Prop where
 const:∀ c:R,Good fun _=>c
 bind:∀ (c:ι->R) (k:ι->PV->aF->R),Good c->(∀ r h,Good fun i=>k i r h)->Good fun i=>match c i with | some (r,h)=>k i r h | none=>none
variable {Good} (F:GL Good)
theorem GL.no (F:GL Good):Good fun _=>none:=F.const none
include F
theorem fZ {b:Bool} {A:ι->R} (h:Good A):Good fun i=>chk b (A i):=by
 cases b
 .exact F.no
 .exact h
theorem xn {b:Bool} {A B:ι->R} (h:Good A) (h':Good B):Good fun i=>aA b (A i) (B i):=by
 cases b
 .exact h'
 .exact h
open Classical in
theorem b1I {A B:ι->R} (h:Good A) (h':Good B):Good fun i=>nG (A i) (B i) :=
 F.bind A (fun i r h1=>match B i with | some (r',h')=>(match PV.mG r r'&&Ag h1 h' with | true=>some (r,h1) | false=>if r=r'/\h1=h' then some (r,h1) else none) | none=>none) h
  (fun r h1=>F.bind B (fun _ r' h'=>(match PV.mG r r'&&Ag h1 h' with | true=>some (r,h1) | false=>if r=r'/\h1=h' then some (r,h1) else none)) h' fun r' h'=>F.const _)
theorem aD4 {α:Type} {f:ι->α->R} (h:∀ a,Good fun i=>f i a):∀ l:List α,Good fun i=>Nk (l.map (f i))
 | []=>F.no
 | x::l=>by
  cases l with
  | nil=>exact h x
  | cons y l=>exact b1I F (h x) (aD4 h (y::l))
theorem fA {E:AE} {dst:Option Nat} {p:PV} {K:ι->ASt->R} {Z:ASt} (h:∀ Z,Good fun i=>K i Z):Good fun i=>cZ E dst p (K i) Z:=by
 unfold cZ; split
 .exact h _
 .exact F.no
theorem aDE {E:AE} {dst:Option Nat} {p:Option PV} {K:ι->ASt->R} {Z:ASt} (h:∀ Z,Good fun i=>K i Z):Good fun i=>QL E dst p (K i) Z:=by
 cases p
 .exact F.no
 .exact fA F h
theorem aDB {es:List PV} {n:Int} {K:ι->PV->R} (h:∀ p,Good fun i=>K i p):Good fun i=>dH es n (K i):=by
 unfold dH; split
 .split
  .exact h _
  .exact F.no
 .exact F.no
theorem b1T {es:List PV} {n:Nat} {K:ι->PV->R} (h:∀ p,Good fun i=>K i p):Good fun i=>Q7 es n (K i):=by
 unfold Q7; split
 .exact h _
 .exact F.no
theorem b1R {s:Option IntKind} {l:List PV} {q:PV} {A:ι->PV->R} {B:ι->R} (h:∀ p,Good fun i=>A i p) (h':Good B):Good fun i=>LJ s l q (A i) (B i):=by
 unfold LJ; split
 .exact h _
 .exact h'
 .exact F.no
theorem aDC {s:Option IntKind} {q:PV} {A:ι->PV->R} {B:ι->R} (h:∀ p,Good fun i=>A i p) (h':Good B):∀ (l:List PV),Good fun i=>I7 s l q (A i) (B i)
 | k::v::L=>by
  simp only[I7];split
  .exact xn F (h _) (aDC h h' L)
  .exact F.no
 | []=>h'
 | [_]=>F.no
theorem b1U {es:List PV} {K:ι->Bool->R} (h:∀ b,Good fun i=>K i b):Good fun i=>F5 es (K i):=by
 have:=F.bind (fun i=>K i false) (fun i r hh=>match es.isEmpty with | false=>some (r,hh) | true=>match K i true with | some (r',h')=>Gg (r,hh) (r',h') | none=>none) (h false) (fun r hh=>by
  cases es.isEmpty
  .exact F.const _
  .exact F.bind (fun i=>K i true) (fun _ r' h'=>Gg (r,hh) (r',h')) (h true) fun r' h'=>F.const _)
 exact this
theorem b1J {s:ByteArray} {n:Int} {K:ι->Int->R} (h:∀ p,Good fun i=>K i p):Good fun i=>ry s n (K i):=by
 unfold ry; split
 .split
  .exact h _
  .exact F.no
 .exact F.no
theorem Yu {C:ι->Cal} {g:FuncId} {args:List PV} {K:ι->PV->R} (hC:∀ g args h,Good fun i=>C i g args h) (h:∀ p,Good fun i=>K i p):Good fun i=>iI (C i) g args (K i):=by
 have:=F.bind (fun i=>C i g args []) (fun i r h=>match h with | []=>K i r | _=>none) (hC _ _ _) (fun r hh=>by
  cases hh
  .exact h r
  .exact F.no)
 refine cast (congrArg Good (funext fun i => ?_)) this;unfold iI;cases C i g args [] with
 | none=>rfl
 | some x=>obtain ⟨r,hh⟩:=x; cases hh<;>rfl
theorem Uz {C:ι->Cal} {g:FuncId} {args:List PV} {hh:aF} {K:ι->PV->aF->R} (hC:∀ g args h,Good fun i=>C i g args h) (h:∀ p q,Good fun i=>K i p q):Good fun i=>xg (C i) g args hh (K i) :=F.bind (fun i=>C i g args hh) K (hC _ _ _) h
def XE.up (X:XE) (C:Cal) (L:List Nat->Nat->Code->(AX->ASt->R)->ASt->R):XE := { X with C:=C,L:=L }
def vz (V:TypeId->PV->(PV->R)->R):Prop:=∀ t p,(∀ K,V t p K=K p)\/(∀ K,V t p K=none)
def qG (W:FuncId->aF->PV->aF->(PV->aF->R)->R):Prop:=∀ g h r h',(∀ K,W g h r h' K=K r h')\/(∀ K,W g h r h' K=none)
variable {X:XE} {C:ι->Cal} {L:ι->List Nat->Nat->Code->(AX->ASt->R)->ASt->R} (hV:vz X.V) (hW:qG X.W) (hC:∀ g args h,Good fun i=>C i g args h)
 (hL:∀ (l:List Nat) (m:Nat) (x:Code) (K:ι->AX->ASt->R) (Z:ASt),(∀ e Z,Good fun i=>K i e Z)->Good fun i=>L i l m x (K i) Z)
theorem aD9 {p:PV} {K:ι->Bool->R} (h:∀ b,Good fun i=>K i b):Good fun i=>OU p (K i):=by
 unfold OU;split
 .exact h _
 .exact h _
 .exact F.no
theorem b1O {p:PV} {K:ι->FuncId->List PV->List PV->R} (h:∀ g a b,Good fun i=>K i g a b):Good fun i=>Jp p (K i):=by
 unfold Jp;split
 .exact h _ _ _
 .exact F.no
theorem aD5 {n:Int} {K:ι->PV->R} (h:∀ p,Good fun i=>K i p):∀ (cs:List PV) (k:Nat),Good fun i=>Nr cs k n (K i)
 | [],_=>F.no
 | p::r,k=>xn F (h p) (aD5 h r (k+1))
theorem b1N {o:Oper} {K:ι->ASt->R} {Z:ASt} (h:∀ Z,Good fun i=>K i Z):Good fun i=>lV (X.up (C i) (L i)) o (K i) Z:=by
 unfold lV;show Good fun i=>match bP X.E o Z with | some (p,Z1)=>cZ X.E o.dst p (K i) Z1 | none=>none
 split
 .exact fA F h
 .exact F.no
include hV in
theorem KJ {t:TypeId} {p:PV} {K:ι->PV->R} (h:∀ p,Good fun i=>K i p):Good fun i=>X.V t p (K i):=by
 rcases hV t p with e | e
 .simp only[e]; exact h p
 .simp only[e]; exact F.no
include hW in
theorem KL {g:FuncId} {hh h':aF} {r:PV} {K:ι->PV->aF->R} (h:∀ p q,Good fun i=>K i p q):Good fun i=>X.W g hh r h' (K i):=by
 rcases hW g hh r h' with e | e
 .simp only[e]; exact h _ _
 .simp only[e]; exact F.no
theorem b1X {dst:Option Nat} {sz:Nat} {es:List PV} {lo hi:Option Operand} {K:ι->ASt->R} {Z:ASt} (h:∀ Z,Good fun i=>K i Z):Good fun i=>Gl (X.up (C i) (L i)) dst sz es lo hi (K i) Z:=by
 cases lo<;>cases hi<;>simp only[Gl,XE.up]
 .exact fA F h
 all_goals
  split
  .exact fZ F (fA F h)
  .exact F.no
theorem b1Y {dst:Option Nat} {s:ByteArray} {lo hi:Option Operand} {K:ι->ASt->R} {Z:ASt} (h:∀ Z,Good fun i=>K i Z):Good fun i=>Gm (X.up (C i) (L i)) dst s lo hi (K i) Z:=by
 cases lo<;>cases hi<;>simp only[Gm,XE.up]
 .exact fA F h
 all_goals
  split
  .exact fZ F (fA F h)
  .exact F.no
theorem b1W {dst:Option Nat} {t:TypeId} {i off n sz:Nat} {lo hi:Option Operand} {K:ι->ASt->R} {Z:ASt} (h:∀ Z,Good fun i=>K i Z):Good fun j=>OM (X.up (C j) (L j)) dst t i off n sz lo hi (K j) Z:=by
 simp only[OM,XE.up];split
 .split
  .split
   .split
    .exact fZ F (fA F h)
    .exact F.no
   .split
    .exact fZ F (xn F (fA F h) (fA F h))
    .exact F.no
   .exact F.no
  .exact F.no
 .exact F.no
theorem b1Q {dst:Option Nat} {t:TypeId} {l c:Operand} {K:ι->ASt->R} {Z:ASt} (h:∀ Z,Good fun i=>K i Z):Good fun j=>Tt (X.up (C j) (L j)) dst t l c (K j) Z:=by
 simp only[Tt,XE.up];split
 .split
  .refine fZ F ?_;split
   .exact fA F h
   .split
    .exact fA F h
    .exact F.no
  .exact F.no
 .exact F.no
theorem b1K {dst:Option Nat} {t:TypeId} {x:Operand} {K:ι->ASt->R} {Z:ASt} (h:∀ Z,Good fun i=>K i Z):Good fun j=>Tn (X.up (C j) (L j)) dst t x (K j) Z:=by
 simp only[Tn,XE.up];split
 .split
  .split
   .exact fZ F (h _)
   .exact F.no
  .exact F.no
 .exact h _
 .exact F.no
theorem aDF {dst:Option Nat} {t:TypeId} {m q x:PV} {K:ι->ASt->R} {Z:ASt} (h:∀ Z,Good fun i=>K i Z):Good fun j=>Jl (X.up (C j) (L j)) dst t m q x (K j) Z:=by
 simp only[Jl,XE.up];split
 .split
  .split
   .split
    .exact fZ F (h _)
    .exact F.no
   .exact F.no
  .exact F.no
 .exact F.no
theorem b1S {dst:Option Nat} {b:Bool} {q:Option PV} {K:ι->ASt->R} {Z:ASt} (h:∀ Z,Good fun i=>K i Z):Good fun j=>Tu (X.up (C j) (L j)) dst b q (K j) Z:=by
 simp only[Tu,XE.up];split
 .split
  .split
   .split
    .exact fZ F (xn F (fA F h) (fA F h))
    .exact F.no
   .exact F.no
  .exact F.no
 .exact F.no
include hV in
theorem b1P {dst:Option Nat} {t:TypeId} {ok:Bool} {m q:PV} {K:ι->ASt->R} {Z:ASt} (h:∀ Z,Good fun i=>K i Z):Good fun j=>Tq (X.up (C j) (L j)) dst t ok m q (K j) Z:=by
 simp only[Tq,XE.up];split
 .split
  .split
   .split
    .split
     .exact aDC F (fun p=>fA F h) (fA F h) _
     .exact b1R F (fun p=>KJ F hV fun q=>fA F h) (fA F h)
    .exact F.no
   .exact F.no
  .exact F.no
 .exact F.no
include hV in
theorem aD7 {o:Oper} {K:ι->ASt->R} {Z:ASt} (h:∀ Z,Good fun i=>K i Z):Good fun i=>Jk (X.up (C i) (L i)) o (K i) Z:=by
 have hg:=fun {Z:ASt}=>b1N F (X:=X) (C:=C) (L:=L) (o:=o) (Z:=Z) h
 unfold Jk;simp only[XE.up];split
 .split
  .split
   .exact fZ F (fA F h)
   .exact F.no
  .exact hg
 .split
  .simp only[YH];split
   .split
    .exact aDB F fun p=>KJ F hV fun q=>fA F h
    .exact F.no
   .exact F.no
  .split
   .split
    .split
     .exact fZ F (fA F h)
     .exact F.no
    .exact F.no
   .exact hg
  .split
   .split
    .exact fZ F (fA F h)
    .exact F.no
   .exact hg
  .split
   .refine fZ F (aDB F fun p=>KJ F hV fun q => ?_);split
    .exact fA F h
    .exact F.no
   .exact hg
  .exact hg
 .split
  .split
   .split
    .split
     .exact fZ F (KJ F hV fun q=>fA F h)
     .split
      .exact b1T F fun p=>KJ F hV fun q=>fA F h
      .exact F.no
    .exact F.no
   .exact F.no
  .split
   .exact fZ F (fA F h)
   .exact hg
 .split
  .split
   .split
    .split
     .split
      .exact fZ F (h _)
      .exact F.no
     .split
      .exact fZ F (h _)
      .exact F.no
    .exact F.no
   .exact F.no
  .split
   .split
    .split
     .split
      .exact fZ F (h _)
      .exact F.no
     .exact F.no
    .exact F.no
   .exact hg
 .split
  .split
   .exact b1J F fun p=>fA F h
   .exact F.no
  .split
   .split
    .refine fZ F (aD5 F (fun p => ?_) _ _);split
     .exact fA F h
     .exact F.no
    .exact F.no
   .exact hg
  .exact hg
 .split
  .exact xn F (aDE F h) (aDE F h)
  .exact F.no
 .split
  .split
   .split
    .exact b1X F h
    .exact F.no
   .exact F.no
  .split
   .exact b1Y F h
   .exact F.no
  .exact b1W F h
  .exact hg
 .split
  .split
   .split
    .exact fZ F (fA F h)
    .exact F.no
   .exact F.no
  .exact F.no
 .exact b1Q F h
 .split
  .exact b1P F hV h
  .exact F.no
 .split
  .exact aDF F h
  .exact F.no
 .split
  .exact F.no
  .split
   .exact aDF F h
   .exact F.no
 .exact b1S F h
 .split
  .split
   .split
    .exact fZ F (fA F h)
    .exact F.no
   .exact hg
  .exact hg
 .split
  .exact fZ F (fA F h)
  .exact hg
 .split
  .simp only[Ji]; split
   .exact fZ F (fA F h)
   .exact F.no
  .simp only[Ji]; split
   .exact fZ F (fA F h)
   .exact F.no
  .exact fZ F (fA F h)
  .exact fZ F (fA F h)
  .exact fZ F (fA F h)
  .simp only[Jj]; split
   .exact aD9 F fun b=>fA F h
   .exact F.no
  .simp only[Jj]; split
   .exact aD9 F fun b=>fA F h
   .exact F.no
  .exact hg
 .split
  .split
   .exact b1K F h
   .exact F.no
  .split
   .simp only[YF];split
    .split
     .split
      .exact fZ F (fA F h)
      .exact F.no
     .exact F.no
    .split
     .split
      .exact fZ F (fA F h)
      .exact F.no
     .exact F.no
    .exact F.no
   .exact F.no
  .split
   .split
    .exact fZ F hg
    .exact fZ F hg
    .simp only[YE];split
     .split
      .split
       .exact fZ F (fA F h)
       .exact F.no
      .exact F.no
     .exact F.no
    .exact fZ F hg
    .split
     .exact fZ F hg
     .exact F.no
    .exact F.no
   .exact F.no
  .exact hg
  .exact F.no
 .exact hg
include hW hC in
theorem b1M {draw:Bool} {o:Oper} {f:Operand} {args:List Operand} {K:ι->ASt->R} {Z:ASt} (h:∀ Z,Good fun i=>K i Z):Good fun i=>Gi (X.up (C i) (L i)) draw o f args (K i) Z:=by
 have hH:∀ {dst:Option Nat} {g:FuncId} {full:List PV} {ids:List Nat},Good fun i=>wS (X.up (C i) (L i)) dst g full ids (K i) Z:=fun {dst g full ids}=>by
  simp only[wS];split
  .exact Uz F hC fun r h'=>KL F hW fun p q=>fA F h
  .exact F.no
 unfold Gi;simp only[XE.up] at hH ⊢;have hP:∀ {dst:Option Nat} {g:FuncId} {full:List PV} {ids:List Nat},Good fun i=>Gj (X.up (C i) (L i)) dst g full ids (K i) Z:=fun {dst g full ids}=>by
  simp only[Gj];split
  .exact fZ F (Uz F hC fun r h'=>KL F hW fun p q=>fZ F (fA F h))
  .exact F.no
 simp only[XE.up] at hP;split
 .split
  .split
   .exact hP
   .exact hH
  split
  .refine Yu F hC fun r=>KL F hW fun p q => ?_
   cases (!draw&&bn X.E.mu o.dst)
   .cases PV.flat p
    .exact F.no
    .exact fA F h
   .simp only[YL];split
    .exact fZ F (fA F h)
    .exact xn F (fZ F (fA F h)) (fA F h)
    .exact F.no
  .cases draw
   .cases bn X.E.ln o.dst
    .cases bn X.E.sy o.dst
     .exact hH
     .simp only[Gj];split
      .exact fZ F (Uz F hC fun r h'=>KL F hW fun p q=>fZ F (fA F h))
      .exact F.no
    .simp only[YI];refine fZ F (Yu F hC fun r=>KL F hW fun p q => ?_);cases PV.qp p
     .exact F.no
     .exact fA F h
   .dsimp only;split
    .exact hH
    .exact F.no
 .exact F.no
include hV hW hC in
theorem aD6 {draw:Bool} {o:Oper} {K:ι->ASt->R} {Z:ASt} (h:∀ Z,Good fun i=>K i Z):Good fun i=>EM (X.up (C i) (L i)) draw o (K i) Z:=by
 unfold EM;split
 .simp only[XE.up];split
  .simp only[Tj];split
   .refine b1O F fun g a b=>fZ F (Yu F hC fun r=>KJ F hV fun r' => ?_)
    split
    .exact fA F h
    .exact F.no
   .exact F.no
  .exact b1M F hW hC h
 .cases draw
  .simp only[XE.up];split
   .exact b1U F fun b=>fA F h
   .exact aD7 F hV h
  .exact aD7 F hV h
include hV hW hC in
theorem PG {draw:Bool} {ops:Array Oper}:∀ (l:List Oper) {K:ι->ASt->R} {Z:ASt},(∀ Z,Good fun i=>K i Z)->Good fun i=>iy (X.up (C i) (L i)) draw ops l (K i) Z
 | [],K,Z,h=>h Z
 | o::l,K,Z,h=>by
  have ih:∀ Z,Good fun i=>iy (X.up (C i) (L i)) draw ops l (K i) Z:=fun Z=>PG l h
  have hp:∀ {p:PV} {Z:ASt},Good fun i=>cZ X.E o.dst p (iy (X.up (C i) (L i)) draw ops l (K i)) Z:=fA F ih
  have hgd:∀ (d:Nat) (want v:Bool),Good fun i=>EN (X.up (C i) (L i)) draw o d want v (iy (X.up (C i) (L i)) draw ops l (K i)) Z:=fun d want v=>by
   unfold EN;split
   .exact aD6 F hV hW hC ih
   .exact hp
  simp only[iy];split
  .exact aD6 F hV hW hC ih
  .split
   .exact hp
   .split
    .exact xn F (hgd _ _ _) (hgd _ _ _)
    .exact hp
    .exact F.no
omit F in
theorem PH {k:ι->ASt->R} {K:ι->AX->ASt->R} (h:∀ Z,Good fun i=>k i Z) (h':∀ e Z,Good fun i=>K i e Z) (e:AX) (Z:ASt):Good fun i=>tK (k i) (K i) e Z:=by
 cases e
 .exact h Z
 .exact h' _ _
 .exact h' _ _
omit F in
theorem Yt {id:Nat} {K:ι->AX->ASt->R} (h':∀ e Z,Good fun i=>K i e Z) (e:AX) (Z:ASt):Good fun i=>au id (K i) e Z:=by
 cases e with
 | normal=>exact h' _ _
 | ret=>exact h' _ _
 | exit j =>
  simp only[au]; split
  .exact h' _ _
  .exact h' _ _
theorem mP {k:ι->ASt->R} (h:∀ Z,Good fun i=>k i Z):∀ (ks:List Nat) {Z:ASt},Good fun i=>kV (k i) ks Z
 | [],Z=>h Z
 | d::ds,Z=>by
  simp only[kV];split
  .split
   .split
    .exact fZ F (mP h ds)
    .exact mP h ds
   .exact mP h ds
  split
  .split
   .split
    .split
     .split
      .exact fZ F (mP h ds)
      .exact mP h ds
     .exact mP h ds
    .exact mP h ds
   .exact mP h ds
  split
  .split
   .split
    .split
     .exact xn F (mP h ds) (mP h ds)
     .exact mP h ds
    .exact mP h ds
   .exact mP h ds
  split
  .split
   .split
    .exact fZ F (mP h ds)
    .exact xn F (mP h ds) (mP h ds)
   .exact mP h ds
  split
  .split
   .split
    .exact fZ F (mP h ds)
    .exact mP h ds
   .exact mP h ds
  .exact mP h ds
include hV hW hC in
theorem aD8 {ops:Array Oper} {K:ι->ASt->R} (h:∀ Z,Good fun i=>K i Z):∀ (fuel:Nat) (B:Array Bool) (Z:ASt),Good fun i=>CO (X.up (C i) (L i)) ops (K i) fuel B Z
 | 0,B,Z=>by
  unfold CO;cases Region.ready .any ops B with
  | nil=>exact h Z
  | cons _ _=>exact F.no
 | fuel+1,B,Z=>by
  unfold CO;cases Region.ready .any ops B with
  | nil=>exact h Z
  | cons j js =>
   refine aD4 F (f:=fun i k=>match ops[k]? with
    | none=>none
    | some o=>iy (X.up (C i) (L i)) true ops [o] (CO (X.up (C i) (L i)) ops (K i) fuel (B.setIfInBounds k true)) Z) (fun k => ?_) (match EQ X.E ops B (j::js) with | some j => [j] | none=>j::js)
   cases ops[k]? with
   | none=>exact F.no
   | some o=>exact PG F hV hW hC [o] fun Z=>aD8 h fuel _ Z
include hV hW hC hL in
theorem Aq:∀ (c:Code) {K:ι->AX->ASt->R} {Z:ASt},(∀ e Z,Good fun i=>K i e Z)->Good fun i=>bI (X.up (C i) (L i)) c (K i) Z
 | .skip,K,Z,h=>h _ _
 | .label _,K,Z,h=>h _ _
 | .exit _,K,Z,h=>h _ _
 | .ret,K,Z,h=>h _ _
 | .region _ ops draw,K,Z,h=>by
  simp only[bI];cases draw
  .exact PG F hV hW hC ops.toList (Z:=Z.head X.E) fun Z=>h .normal Z
  .show Good fun i=>match okD X.E ops with | true=>iy (X.up (C i) (L i)) true ops ops.toList (K i .normal) (Z.head X.E) | false=>a8F (X.up (C i) (L i)) ops (K i .normal) (Z.head X.E)
   split
   .exact PG F hV hW hC ops.toList (Z:=Z.head X.E) fun Z=>h .normal Z
   .exact aD8 F hV hW hC (fun Z=>h .normal Z) _ _ _
 | .seq x y,K,Z,h=>by
  simp only[bI];refine Aq x fun e Z=>PH (fun Z => ?_) h e Z
  show Good fun i=>qj X.E X.m0 y (bI (X.up (C i) (L i)) y (K i)) Z
  have hj:∀ Z,Good fun i=>Aw X.E X.m0 y (bI (X.up (C i) (L i)) y (K i)) Z:=fun Z=>by
   unfold Aw;split
   .refine fZ F ?_;split
    .exact Aq y h
    .exact F.no
   .exact Aq y h
  unfold qj;split
  .exact mP F hj _
  .exact hj _
 | .cond c x y,K,Z,h=>by
  simp only[bI];split
  .split
   .exact xn F (Aq x h) (Aq y h)
   .exact xn F (Aq x h) (Aq y h)
  .exact F.no
 | .block id x,K,Z,h=>by simp only[bI]; exact Aq x fun e Z=>Yt h e Z
 | .scope x,K,Z,h=>by simp only[bI]; exact Aq x h
 | .loop x,K,Z,h=>hL (sU X.E X.m0 x Z).1 (sU X.E X.m0 x Z).2 x K (Z.gc (sU X.E X.m0 x Z).1 (sU X.E X.m0 x Z).2) h
 | .rangeFunc _ _ _ _,K,Z,h=>F.no
 | .goto _,K,Z,h=>F.no
 | .refuse _,K,Z,h=>F.no
end
section
variable {X:XE} {K:ASt->R} {Z:ASt} {v:PV×aF} {o:Oper} {ops:Array Oper}
theorem qL {E:AE} {dst:Option Nat} {p:PV} (h:cZ E dst p K Z=some v):gz E dst p Z fun Z'=>K Z'=some v:=by
 unfold cZ at h; unfold gz;split at h
 .rename_i e; rw[e]; exact h
 .cases h
theorem eu {b:Bool} {A:R} (h:chk b A=some v):b=true/\A=some v:=by
 cases b
 .cases h
 .exact ⟨rfl,h⟩
theorem gX {E:AE} {p:PV} {Z1:ASt} (h:bP E o Z=some (p,Z1)) (hs:iM E o Z) (hp:cZ E o.dst p K Z1=some v):vg E o (fun Z'=>K Z'=some v) Z:=by unfold vg; rw[h]; exact ⟨hs,qL hp⟩
theorem oL (hs:iM X.E o Z) (h:lV X o K Z=some v):vg X.E o (fun Z'=>K Z'=some v) Z:=by
 unfold lV at h;split at h
 .rename_i p Z1 e; exact gX e hs h
 .cases h
theorem Vx {d:Nat} {b:Bool} (h:Z.rd (.tmp d)=some (.bool b)):Z.lit d b=Z:=by
 have:bK d Z.s=some (.bool b):=by
  simp only[ASt.rd,ASt.ev] at h;cases hp:bK d Z.s with
  | none=>rw[hp] at h; cases h
  | some p =>
   rw[hp] at h;cases p<;>simp[PV.un] at h
   rw[h]
 unfold ASt.lit; rw[a2R this]
theorem MQ {V:TypeId->PV->(PV->R)->R} (hV:vz V) {t:TypeId} {p:PV} {K:PV->R} (h:V t p K=some v):K p=some v:=by
 rcases hV t p with e | e
 .rw[e K] at h; exact h
 .rw[e K] at h; cases h
theorem QE {W:FuncId->aF->PV->aF->(PV->aF->R)->R} (hW:qG W) {g:FuncId} {hh h':aF} {r:PV} {K:PV->aF->R} (h:W g hh r h' K=some v):K r h'=some v:=by
 rcases hW g hh r h' with e | e
 .rw[e K] at h; exact h
 .rw[e K] at h; cases h
theorem aFY {es:List PV} {n:Int} {K:PV->R} (h:dH es n K=some v):0<=n/\∃ e,es[n.toNat]? = some e/\K e=some v:=by
 unfold dH at h;split at h
 .rename_i hn;split at h
  .rename_i e he; exact ⟨hn,e,he,h⟩
  .cases h
 .cases h
theorem b73 {es:List PV} {n:Nat} {K:PV->R} (h:Q7 es n K=some v):∃ e,es[n]? = some e/\K e=some v:=by
 unfold Q7 at h;split at h
 .rename_i e he; exact ⟨e,he,h⟩
 .cases h
theorem b76 {es:List PV} {K:Bool->R} (h:F5 es K=some v):K false=some v/\(es = []->K true=some v):=by
 unfold F5 at h;split at h
 .rename_i r hh h0;split at h
  .rename_i he;cases h;exact ⟨h0,fun e=>by subst e; simp at he⟩
  .split at h
   .rename_i r' h' h1;obtain ⟨e1,e2⟩:=aPP h;subst e1;exact ⟨h0,fun _=>by rw[h1,<- e2]⟩
   .cases h
 .cases h
theorem a99 {p:PV} {K:Bool->R} (h:OU p K=some v):∃ b,K b=some v/\((b=false/\∃ f a c,p = .func f a c)\/(b=true/\p = .raw .nilFunc)):=by
 unfold OU at h;split at h
 .exact ⟨_,h,.inl ⟨rfl,_,_,_,rfl⟩⟩
 .exact ⟨_,h,.inr ⟨rfl,rfl⟩⟩
 .cases h
theorem aQY {p:PV} {K:FuncId->List PV->List PV->R} (h:Jp p K=some v):∃ g a c,p = .func (.func g) a c/\K g a c=some v:=by
 unfold Jp at h;split at h
 .exact ⟨_,_,_,rfl,h⟩
 .cases h
theorem a6O {n:Int} {K:PV->R}:∀ {cs:List PV} {k:Nat},Nr cs k n K=some v->∃ j p,n=((k+j:Nat):Int)/\cs[j]? = some p/\K p=some v
 | [],_,h=>by cases h
 | p::r,k,h=>by
  rw[Nr] at h;cases hb:n==(k:Int) with
  | true=>rw[hb] at h; exact ⟨0,p,by simpa using hb,rfl,h⟩
  | false =>rw[hb] at h;obtain ⟨j,q,e1,e2,e3⟩:=a6O (cs:=r) (k:=k+1) h;exact ⟨j+1,q,by rw[e1]; congr 1; omega,by simpa using e2,e3⟩
theorem a9A {t:TypeId} {p:PV} {P:Program} (ht:KR P t=true) {b:Bool} (hp:(b=false/\∃ f a c,p = .func f a c)\/(b=true/\p = .raw .nilFunc)) (pos:Bool):yg P (match pos with | true => .eql | false => .neq) t p (.raw .nilFunc)=some (.bool (b==pos)):=by rcases hp with ⟨rfl,f,a,c,rfl⟩ | ⟨rfl,rfl⟩<;>cases pos<;>simp[yg,ht,zN]
theorem aN2 {s:ByteArray} {n:Int} {K:Int->R} (h:ry s n K=some v):0<=n/\∃ b,s[n.toNat]? = some b/\K b.toNat=some v:=by
 unfold ry at h;split at h
 .rename_i hn;split at h
  .rename_i e he; exact ⟨hn,e,he,h⟩
  .cases h
 .cases h
theorem aGE {s:Option IntKind} {q:PV} {A:PV->R} {B:R} {v:PV×aF}:∀ {L:List PV},I7 s L q A B=some v->(∃ p,uY s L q=some (some p)/\A p=some v)\/(uY s L q=some none/\B=some v)
 | k::x::L,h=>by
  simp only[I7] at h;split at h
  .rename_i b hb;cases b with
   | true=>exact .inl ⟨x,by simp only[uY,hb],h⟩
   | false =>
    have h:I7 s L q A B=some v:=h;rcases aGE h with ⟨p,h1,h2⟩ | ⟨h1,h2⟩
    .exact .inl ⟨p,by simp only[uY,hb]; exact h1,h2⟩
    .exact .inr ⟨by simp only[uY,hb]; exact h1,h2⟩
  .cases h
 | [],h => .inr ⟨rfl,h⟩
 | [_],h=>by cases h
theorem bCL (hc:∀ c,o.op ≠ .call c) (E:AE):iM E o Z:=by obtain ⟨dst,op,ty,pos,af,g⟩:=o;cases op<;>first | trivial | (exfalso; exact hc _ rfl)
theorem bCR {t:TypeId} {dst:Option Nat} {sz:Nat} {es:List PV} {ow:Bool} {lo hi:Option Operand} {x:Operand} {I:TI} (ht:iq X.E.P t=some I) (hI:I.size=sz) (hx:Z.rd x=some (.sl ow sz es)) (h:Gl X dst sz es lo hi K Z=some v) :
 ∃ p,pop X.E.P Z.rd (.slice t x lo hi none)=some p/\cZ X.E dst p K Z=some v:=by
 have hsz:(iq X.E.P t).map TI.size=some sz:=by rw[ht]; simp[hI]
 cases lo with
 | none =>
  cases hi with
  | none=>exact ⟨_,by simp only[pop,hx,qy]; rw[aH ⟨hsz,by omega,by omega,by omega⟩]; simp,h⟩
  | some b =>
   simp only[Gl] at h;split at h
   .rename_i k n hb;obtain ⟨h1,h2⟩:=eu h;simp only[aY,gu] at h1;exact ⟨_,by simp only[pop,hx,hb,uB,qy]; rw[aH ⟨hsz,by omega,by omega,by omega⟩]; simp,h2⟩
   .cases h
 | some a =>
  cases hi with
  | none =>
   simp only[Gl] at h;split at h
   .rename_i k n hb;obtain ⟨h1,h2⟩:=eu h;simp only[aY,gu] at h1;exact ⟨_,by simp only[pop,hx,hb,uB,qy]; rw[aH ⟨hsz,by omega,by omega,by omega⟩]; simp,h2⟩
   .cases h
  | some b =>
   simp only[Gl] at h;split at h
   .rename_i k n k' n' ha hb;obtain ⟨h1,h2⟩:=eu h;simp only[aY,gu] at h1;exact ⟨_,by simp only[pop,hx,ha,hb,uB,qy]; rw[aH ⟨hsz,by omega,by omega,by omega⟩],h2⟩
   .cases h
theorem bCS {t:TypeId} {dst:Option Nat} {s:ByteArray} {lo hi:Option Operand} {x:Operand} (ht:qC X.E.P t=true) (hx:Z.rd x=some (.str s)) (h:Gm X dst s lo hi K Z=some v) :
 ∃ p,pop X.E.P Z.rd (.slice t x lo hi none)=some p/\cZ X.E dst p K Z=some v:=by
 cases lo with
 | none =>
  cases hi with
  | none=>exact ⟨_,by simp only[pop,hx,qy]; rw[aH ⟨ht,by omega,by omega,by omega⟩]; rfl,h⟩
  | some b =>
   simp only[Gm] at h;split at h
   .rename_i k n hb;obtain ⟨h1,h2⟩:=eu h;simp only[aY,gu] at h1;exact ⟨_,by simp only[pop,hx,hb,uB,qy]; rw[aH ⟨ht,by omega,by omega,by omega⟩]; rfl,h2⟩
   .cases h
 | some a =>
  cases hi with
  | none =>
   simp only[Gm] at h;split at h
   .rename_i k n hb;obtain ⟨h1,h2⟩:=eu h;simp only[aY,gu] at h1;exact ⟨_,by simp only[pop,hx,hb,uB,qy]; rw[aH ⟨ht,by omega,by omega,by omega⟩]; rfl,h2⟩
   .cases h
  | some b =>
   simp only[Gm] at h;split at h
   .rename_i k n k' n' ha hb;obtain ⟨h1,h2⟩:=eu h;simp only[aY,gu] at h1;exact ⟨_,by simp only[pop,hx,ha,hb,uB,qy]; rw[aH ⟨ht,by omega,by omega,by omega⟩],h2⟩
   .cases h
theorem bCQ {t:TypeId} {dst:Option Nat} {i off n sz:Nat} {lo hi:Option Operand} {x:Operand} (hx:Z.rd x=some (.slh i off n sz)) (h:OM X dst t i off n sz lo hi K Z=some v) :
 ∃ p,pop X.E.P Z.rd (.slice t x lo hi none)=some p/\cZ X.E dst p K Z=some v:=by
 unfold OM at h;split at h
 .rename_i I hT;split at h
  .rename_i hz;simp only[aY,tu] at hz;have hsz:=kE hz.1;have hm:(iq X.E.P t).map TI.size=some sz:=by rw[hT]; simp[hsz]
   split at h
   .rename_i hh;split at h
    .rename_i k b hb;obtain ⟨h1,h2⟩:=eu h;simp only[aY,gu] at h1;refine ⟨_,?_,h2⟩;simp only[pop,hx,hb,uB,qy,y7];rw[aH ⟨hm,Int.le_refl _,h1.1.1,h1.1.2,hz.2⟩,aH (by omega)];simp
    .cases h
   .rename_i l;split at h
    .rename_i k a ha;obtain ⟨h1,h2⟩:=eu h;simp only[aY,gu] at h1;simp only[pop,hx,ha,uB,qy,y7];rw[aH ⟨hm,h1.1,h1.2,Int.le_refl _,hz.2⟩];by_cases hl:a<(n:Int)
     .rw[decide_eq_true hl] at h2;exact ⟨_,by rw[aH hl]; simp,h2⟩
     .rw[decide_eq_false hl] at h2;exact ⟨_,by rw[aI hl],h2⟩
    .cases h
   .cases h
  .cases h
 .cases h
theorem a6P {P:Program} {t:TypeId} {m:Nat} {e:TypeId} (h:SK P t=some (m,e)):∃ I,CB P t=some (m,I)/\I.size=1/\I.agg=false:=by
 unfold SK at h;split at h
 .rename_i m' e' hu;split at h
  .rename_i I hI;split at h
   .rename_i hc;cases h;simp only[aY,tX] at hc;exact ⟨I,by simp[CB,hu,hI],kE hc.1,hc.2⟩
   .cases h
  .cases h
 .cases h
theorem YJ (hV:vz X.V) (hc:qi o=none) (h:Jk X o K Z=some v):vg X.E o (fun Z'=>K Z'=some v) Z:=by
 obtain ⟨dst,op,ty,pos,af,g⟩:=o;unfold Jk at h;simp only at h;split at h
 .rename_i s d x;have hs:iM X.E ⟨dst,.convert s d x,ty,pos,af,g⟩ Z:=trivial;split at h
  .rename_i ow sz es hx;split at h
   .rename_i ht;simp only[aY] at ht;obtain ⟨h1,h2⟩:=eu h;exact gX (by simp only[bP,pop,hx,uB,O3]; rw[aH ⟨ht.1,ht.2,h1⟩]; rfl) hs h2
   .cases h
  .exact oL hs h
 .rename_i t x i;have hs:iM X.E ⟨dst,.indexAddr t x i,ty,pos,af,g⟩ Z:=trivial;split at h
  .rename_i ow sz es k n hx hi;unfold YH at h;split at h
   .rename_i e I h1 h2;split at h
    .rename_i hI;obtain ⟨hn,p,hp,h⟩:=aFY h;have h:=MQ hV h;exact gX (by simp only[bP,pop,hx,hi,h2,o9]; rw[aH ⟨by rw[hI],hn⟩,hp]; try rfl) hs h
    .cases h
   .cases h
  .rename_i i0 off m sz k n hx hi;split at h
   .split at h
    .rename_i I hI;split at h
     .rename_i hz;rw[b7F] at h;obtain ⟨h1,h2⟩:=eu h;simp only[aY,gu] at h1;exact gX (p := .ptr i0 (off+n.toNat*sz)) (by simp only[bP,pop,hx,hi]; rw[aH ⟨by rw[hI]; simp[kE hz],h1.1,h1.2⟩]; simp) hs h2
     .cases h
    .cases h
   .exact oL hs h
  .rename_i i0 off k n hx hi;split at h
   .split at h
    .rename_i m I hI;obtain ⟨h1,h2⟩:=eu h;simp only[aY,gu] at h1;exact gX (p := .ptr i0 (off+n.toNat*I.size)) (by simp only[bP,pop,hx,hi,hI]; rw[aH ⟨h1.1,h1.2⟩]; simp) hs h2
    .cases h
   .exact oL hs h
  .rename_i cs k n hx hi;split at h
   .rename_i m e ht;obtain ⟨h1,h2⟩:=eu h;obtain ⟨hn,p,hp,h⟩:=aFY h2;have h:=MQ hV h;obtain ⟨I,hI,hsz,hag⟩:=a6P ht;split at h
    .rename_i ho;refine gX (p := .cst p.un) (by simp only[bP,pop,hx,hi,hI];rw[aH ⟨hn,by simpa using h1⟩];simp only[tJ,hsz,hag,Rf,hp,rJ,qV,uB,ho,fD,o9]) hs h
    .cases h
   .exact oL hs h
  .exact oL hs h
 .rename_i t a;have hs:iM X.E ⟨dst,.load t a,ty,pos,af,g⟩ Z:=trivial;split at h
  .rename_i hsy;have hln:bn X.E.ln dst=false:=by simp only[aY,tX] at hsy;exact hsy.2
   split at h
   .rename_i I i0 off hI ha;split at h
    .rename_i cs hcs;split at h
     .rename_i hag;obtain ⟨h1,h2⟩:=eu h;have h:=MQ hV h2;exact gX (Z1:=Z) (by simp only[bP,hI,ha,hln,RP,lF,hcs,hag,fD]; rw[aH (jP h1)]) hs h
     .rename_i hag;split at h
      .rename_i hc;simp only[tX] at hc;obtain ⟨q,hq,h⟩:=b73 h;have h:=MQ hV h;exact gX (p:=q.un) (Z1:=Z) (by simp only[bP,hI,ha,hln,RP,lF,hcs,hag,hc,hq,rJ,qV]) hs h
      .cases h
    .cases h
   .cases h
  .split at h
   .rename_i e I ha hI;obtain ⟨h1,h2⟩:=eu h;simp only[aY,gu] at h1;refine gX (p:=e.un) (Z1:=Z) ?_ hs h2;simp only[bP,hI,ha,aH9,lF];split<;>simp[h1.1,h1.2]
   .exact oL hs h
 .rename_i t a x;have hs:iM X.E ⟨dst,.store t a x,ty,pos,af,g⟩ Z:=trivial;split at h
  .rename_i hsy;have hso:∀ r,MH X.E.mu X.E.ln (xB a) r=true:=fun r=>by simp only[aY,tX] at hsy;unfold MH;rw[hsy.2]
   split at h
   .rename_i I i0 off q hI ha hx;split at h
    .rename_i cs hcs;have hcl:(Z.clr x).h=Z.h:=by cases x<;>simp only[ASt.clr]<;>split<;>rfl
     split at h
     .rename_i ds;split at h
      .rename_i hc;simp only[aY] at hc;obtain ⟨h1,h2⟩:=eu h;have hsv:rC I (.ptr i0 off) (.agg ds) (Z.clr x)=some { Z.clr x with h:=(Z.clr x).h.set i0 (some (cs.take off ++ ds.map PV.un ++ cs.drop (off+I.size))) }:=by simp only[rC,hcl,hcs];rw[aH ⟨kE hc.1,jP h1,hc.2⟩]
       exact gX (p := .tuple []) (Z1 := { Z.clr x with h:=(Z.clr x).h.set i0 (some (cs.take off ++ ds.map PV.un ++ cs.drop (off+I.size))) }) (by simp only[bP,hso,hI,ha,hx,hsv,o9]) hs (by unfold cZ; simp only[ASt.put]; exact h2)
      .cases h
     .rename_i q' hna;split at h
      .rename_i hc;simp only[aY] at hc;obtain ⟨h1,h2⟩:=eu h;have hsv:rC I (.ptr i0 off) q (Z.clr x)=some { Z.clr x with h:=(Z.clr x).h.set i0 (some (cs.set off q)) }:=by
        simp only[rC,hcl,hcs];have hlt:off<cs.length:=by simpa using h1
        cases q<;>first | exact (hna _ rfl).elim | (simp[PV.one] at hc; done) | (simp[PV.one,kE hc.2,hlt])
       exact gX (p := .tuple []) (Z1 := { Z.clr x with h:=(Z.clr x).h.set i0 (some (cs.set off q)) }) (by simp only[bP,hso,hI,ha,hx,hsv,o9]) hs (by unfold cZ; simp only[ASt.put]; exact h2)
      .cases h
    .cases h
   .cases h
  .split at h
   .rename_i ds hx;split at h
    .rename_i I i0 off hI ha;split at h
     .rename_i cs hcs;split at h
      .rename_i hc;simp only[aY,NI] at hc;obtain ⟨hso,hc1,hc2⟩:=hc;obtain ⟨h1,h2⟩:=eu h;have hcl:(Z.clr x).h=Z.h:=by cases x<;>simp only[ASt.clr]<;>split<;>rfl
       have hsv:rC I (.ptr i0 off) (.agg ds) (Z.clr x)=some { Z.clr x with h:=(Z.clr x).h.set i0 (some (cs.take off ++ ds.map PV.un ++ cs.drop (off+I.size))) }:=by simp only[rC,hcl,hcs];rw[aH ⟨kE hc1,hc2,h1⟩]
       exact gX (p := .tuple []) (Z1 := { Z.clr x with h:=(Z.clr x).h.set i0 (some (cs.take off ++ ds.map PV.un ++ cs.drop (off+I.size))) }) (by simp only[bP]; rw[hso]; simp only[hI,ha,hx,hsv,o9]) hs (by unfold cZ; simp only[ASt.put]; exact h2)
      .cases h
     .cases h
    .cases h
   .exact oL hs h
 .rename_i t x i;have hs:iM X.E ⟨dst,.index t x i,ty,pos,af,g⟩ Z:=trivial;split at h
  .rename_i s k n hx hi;split at h
   .rename_i ht;obtain ⟨hn,b,hb,h⟩:=aN2 h;exact gX (by simp only[bP,pop,hx,hi]; rw[aH ⟨ht,hn⟩,hb]; try rfl) hs h
   .cases h
  .rename_i cs k n hx hi;split at h
   .split at h
    .rename_i m e hm;obtain ⟨c1,h⟩:=eu h;simp only[aY,gu] at c1;obtain ⟨I,h1,h2,h3⟩:=a6P hm;obtain ⟨j,p,e1,e2,h⟩:=a6O h;split at h
     .rename_i ho;have ej:n.toNat=j:=by omega
      exact gX (p:=p.un) (Z1:=Z) (by simp only[bP,pop,hx,hi,h1]; rw[aH c1,h2,h3,tJ,Rf,ej,e2]; simp[ho]) hs h
     .cases h
    .cases h
   .exact oL hs h
  .exact oL hs h
 .rename_i c a b;have hs:iM X.E ⟨dst,.pick c a b,ty,pos,af,g⟩ Z:=trivial;split at h
  .rename_i w hw;cases w with
   | true =>
    have h:QL X.E dst (Z.rd a) K Z=some v:=h;cases ha:Z.rd a with
    | none=>rw[ha] at h; cases h
    | some p =>rw[ha] at h;exact gX (by simp only[bP,pop,hw,ha]; try rfl) hs h
   | false =>
    have h:QL X.E dst (Z.rd b) K Z=some v:=h;cases ha:Z.rd b with
    | none=>rw[ha] at h; cases h
    | some p =>rw[ha] at h;exact gX (by simp only[bP,pop,hw,ha]; try rfl) hs h
  .cases h
 .rename_i t x lo hi;have hs:iM X.E ⟨dst,.slice t x lo hi none,ty,pos,af,g⟩ Z:=trivial;split at h
  .rename_i ow sz es hx;split at h
   .rename_i I hI;split at h
    .rename_i hz;obtain ⟨p,h1,h2⟩:=bCR hI hz hx h;exact gX (by simp only[bP,h1,o9]; try rfl) hs h2
    .cases h
   .cases h
  .rename_i s hx;split at h
   .rename_i ht;obtain ⟨p,h1,h2⟩:=bCS ht hx h;exact gX (by simp only[bP,h1,o9]; try rfl) hs h2
   .cases h
  .rename_i i0 off m sz hx;obtain ⟨p,h1,h2⟩:=bCQ hx h;exact gX (by simp only[bP,h1,o9]; try rfl) hs h2
  .exact oL hs h
 .rename_i t x l u m;have hs:iM X.E ⟨dst,.slice t x (some l) (some u) (some m),ty,pos,af,g⟩ Z:=trivial;split at h
  .rename_i ow sz es k1 a k2 b k3 c hx hl hu hm;split at h
   .rename_i I hI;split at h
    .rename_i hz;obtain ⟨h1,h2⟩:=eu h;simp only[aY,gu] at h1;obtain ⟨⟨⟨b1,b2⟩,b3⟩,b4⟩:=h1;exact gX (Z1:=Z) (by simp only[bP,pop,hx,hl,hu,hm,WQ]; rw[aH ⟨by rw[hI,o9,kE hz],b1,b2,b3,b4⟩]; rfl) hs h2
    .cases h
   .cases h
  .cases h
 .rename_i t l c;have hs:iM X.E ⟨dst,.makeSlice t l c,ty,pos,af,g⟩ Z:=trivial;unfold Tt at h;split at h
  .rename_i I k n k' n' hT hl hc;split at h
   .rename_i hz;simp only[aY,tu,NI] at hz;obtain ⟨h1,h2⟩:=eu h;simp only[aY,gu] at h1;have hcond:n=n'/\0<=n/\n<=1073741824/\0<I.size/\I.bytes<=1024:=⟨h1.1.1,h1.1.2,h1.2,hz.1,hz.2⟩;split at h2
    .rename_i hm;exact gX (Z1:=⟨Z.s,Z.h ++ [some (tV n.toNat I)]⟩) (by simp only[bP,hT,hl,hc]; rw[aH hcond,aH hm]) hs h2
    .rename_i hm;split at h2
     .rename_i hze;simp only[aY] at hze;exact gX (Z1:=Z) (by simp only[bP,hT,hl,hc]; rw[aH hcond,aI (by rw[hm]; simp),aH ⟨kE hze.1,hze.2⟩]) hs h2
     .cases h2
   .cases h
  .cases h
 .rename_i t m k ok;have hs:iM X.E ⟨dst,.lookup t m k ok,ty,pos,af,g⟩ Z:=trivial;split at h
  .rename_i pm q hm hq;unfold Tq at h;split at h
   .rename_i s z i ht;split at h
    .rename_i cs hcs;split at h
     .rename_i b L hin;split at h
      .rename_i hik;split at h
       .rcases aGE h with ⟨p,hg,h⟩ | ⟨hg,h⟩
        .exact gX (Z1:=Z) (p:=zH ok z (some p)) (by simp only[bP,ht,hm,hq,hcs,hin,hik,hg]) hs h
        .exact gX (Z1:=Z) (p:=zH ok z none) (by simp only[bP,ht,hm,hq,hcs,hin,hik,hg]) hs h
       .unfold LJ at h;split at h
        .rename_i p hg;have h:=MQ hV h;exact gX (Z1:=Z) (p:=zH ok z (some p)) (by simp only[bP,ht,hm,hq,hcs,hin,hik,hg]) hs h
        .rename_i hg;exact gX (Z1:=Z) (p:=zH ok z none) (by simp only[bP,ht,hm,hq,hcs,hin,hik,hg]) hs h
        .cases h
      .cases h
     .cases h
    .cases h
   .cases h
  .cases h
 .rename_i t m k x;have hs:iM X.E ⟨dst,.mapUpdate t m k x,ty,pos,af,g⟩ Z:=trivial;split at h
  .rename_i pm q y hm hq hy;unfold Jl at h;split at h
   .rename_i s z i ht;split at h
    .rename_i cs hcs;split at h
     .rename_i b L hin;split at h
      .rename_i hik;obtain ⟨h1,h2⟩:=eu h;exact gX (p := .tuple []) (Z1 := { Z with h:=Z.h.set i (some [lI b (iL s L q y)]) }) (by simp only[bP,ht,hm,hq,hy,hcs,hin,hik,h1,wF]) hs (by simpa[cZ,ASt.put] using h2)
      .cases h
     .cases h
    .cases h
   .cases h
  .cases h
 .rename_i t m k x;have hs:iM X.E ⟨dst,.insert t m k x,ty,pos,af,g⟩ Z:=trivial;split at h
  .cases h
  rename_i hso;split at h
  .rename_i pm q y hm hq hy;unfold Jl at h;split at h
   .rename_i s z i ht;split at h
    .rename_i cs hcs;split at h
     .rename_i b L hin;split at h
      .rename_i hik;obtain ⟨h1,h2⟩:=eu h;exact gX (p := .tuple []) (Z1 := { Z with h:=Z.h.set i (some [lI b (iL s L q y)]) }) (by rw[hm] at hso; simp only[bP,hso,ht,hm,hq,hy,hcs,hin,hik,h1,wF]) hs (by simpa[cZ,ASt.put] using h2)
      .cases h
     .cases h
    .cases h
   .cases h
  .cases h
 .rename_i x b;have hs:iM X.E ⟨dst,.next x b,ty,pos,af,g⟩ Z:=trivial;unfold Tu at h;split at h
  .rename_i T i hx;split at h
   .rename_i cs hcs;split at h
    .rename_i s p hin;split at h
     .rename_i hT;obtain ⟨h1,h2⟩:=eu h;cases hp:decide (p<(s.size:Int)) with
      | true =>rw[hp] at h2;exact gX (p := .tuple [.bool true,.int .i64 p,.int .i32 (VC s p)]) (Z1 := { Z with h:=Z.h.set i (some [wY s (KW s p)]) }) (by simp only[bP,hx,hcs,hin,hT,h1,hp,wF]) hs h2
      | false =>rw[hp] at h2;exact gX (p := .tuple [.bool false]) (Z1:=Z) (by simp only[bP,hx,hcs,hin,hT,h1,hp,wF]) hs h2
     .cases h
    .cases h
   .cases h
  .cases h
 .rename_i s x f;have hs:iM X.E ⟨dst,.fieldAddr s x f,ty,pos,af,g⟩ Z:=trivial;split at h
  .rename_i cs fs hx hfs;split at h
   .rename_i off z hf;split at h
    .rename_i p hz hp;obtain ⟨h1,h2⟩:=eu h;have hz:z≠0:=fun e=>by subst e; exact absurd hz (by decide)
     exact gX (p := .cst p.un) (Z1:=Z) (by simp only[bP,pop,hfs,hx,hf,uB,aI hz,Qk,tJ,hp,h1,fD,rJ,qV,o9]) hs h2
    .cases h
   .exact oL hs h
  .exact oL hs h
 .rename_i t x;have hs:iM X.E ⟨dst,.box t x,ty,pos,af,g⟩ Z:=trivial;split at h
  .rename_i ds hf hx;obtain ⟨h1,h2⟩:=eu h;rw[aY] at h1;exact gX (p := .cst (.agg (ds.map PV.un))) (Z1:=Z) (by simp only[bP,hf,hx,uB,fD]; rw[show Jo (.agg ds)=some (.agg (ds.map PV.un)) by simp only[Jo,PV.newCells,h1.1,fD,PV.flat,h1.2]]; rfl) hs h2
  .exact oL hs h
 .rename_i Sz t x y t';have hs:iM X.E ⟨dst,.binOp Sz t x y t',ty,pos,af,g⟩ Z:=trivial;split at h
  .rename_i k a k' b hx hy;unfold Ji at h;split at h
   .rename_i e;obtain ⟨h1,h2⟩:=eu h;have h1:b≠0:=by simpa using h1
    exact gX (by simp only[bP,pop,hx,hy,yg,aH e,KP,aI h1]; try rfl) hs h2
   .cases h
  .rename_i k a k' b hx hy;unfold Ji at h;split at h
   .rename_i e;obtain ⟨h1,h2⟩:=eu h;have h1:b≠0:=by simpa using h1
    exact gX (by simp only[bP,pop,hx,hy,yg,aH e,KP,aI h1]; try rfl) hs h2
   .cases h
  .rename_i k a k' b hx hy;obtain ⟨h1,h2⟩:=eu h;have h1:¬ b<0:=by simpa using h1
   exact gX (by simp only[bP,pop,hx,hy,yg,Ls,aI h1]; try rfl) hs h2
  .rename_i k a k' b hx hy;obtain ⟨h1,h2⟩:=eu h;have h1:¬ b<0:=by simpa using h1
   exact gX (by simp only[bP,pop,hx,hy,yg,Ls,aI h1]; try rfl) hs h2
  .rename_i a b hx hy;obtain ⟨h1,h2⟩:=eu h;have h1:=jP h1;exact gX (by simp only[bP,pop,hx,hy,yg,Qj,aH h1]; try rfl) hs h2
  .rename_i p hx hy;unfold Jj at h;split at h
   .rename_i ht;obtain ⟨b,h1,h2⟩:=a99 h;exact gX (Z1:=Z) (by simp only[bP,pop,hx,hy]; rw[a9A ht h2 true]; rfl) hs h1
   .cases h
  .rename_i p hx hy;unfold Jj at h;split at h
   .rename_i ht;obtain ⟨b,h1,h2⟩:=a99 h;exact gX (Z1:=Z) (by simp only[bP,pop,hx,hy]; rw[a9A ht h2 false]; rfl) hs h1
   .cases h
  .exact oL hs h
 .rename_i c;split at h
  .rename_i hca;split at h
   .rename_i x t h1 h2;have hs:iM X.E ⟨dst,.call c,ty,pos,af,g⟩ Z:=by simp only[iM,hca]
    unfold Tn at h;split at h
    .rename_i I i0 off m sz hT hx;split at h
     .rename_i cs hcs;split at h
      .rename_i hz;obtain ⟨c1,c2⟩:=eu h;exact gX (p := .tuple []) (Z1 := { Z with h:=Z.h.set i0 (some (cs.take off ++ (tV m I).map PV.un ++ cs.drop (off+m*sz))) }) (by simp only[bP,hca,h1,h2,hT,hx,hcs]; rw[aH ⟨kE hz,jP c1⟩]) hs (by unfold cZ; simp only[ASt.put]; exact c2)
      .cases h
     .cases h
    .rename_i I o' z' hT hx;exact gX (p := .tuple []) (Z1:=Z) (by simp only[bP,hca,h1,h2,hT,hx]) hs (by unfold cZ; simp only[ASt.put]; exact h)
    .cases h
   .cases h
  .rename_i hca;split at h
   .rename_i x y t u h1 h2;have hs:iM X.E ⟨dst,.call c,ty,pos,af,g⟩ Z:=by simp only[iM,hca]
    unfold YF at h;split at h
    .rename_i I i0 off n sz o' sz' es hT hx hy;split at h
     .rename_i cs hcs;split at h
      .rename_i hz;simp only[aY,tu] at hz;obtain ⟨z1,z2,z3⟩:=hz;obtain ⟨c1,c2⟩:=eu h;exact gX (p := .int .i64 ((Nat.min es.length n:Nat):Int)) (Z1 := { Z with h:=Z.h.set i0 (some (cs.take off ++ (dG es).take (Nat.min es.length n*sz) ++ cs.drop (off+Nat.min es.length n*sz))) }) (by simp only[bP,hca,h1,h2,hT,hx,hy,hcs,Ac,z3]; rw[aH ⟨kE z1,z2,jP c1⟩]) hs c2
      .cases h
     .cases h
    .rename_i I i0 off n sz j0 LU m sz' hT hx hy;split at h
     .rename_i cs cs2 hcs hcs2;split at h
      .rename_i hz;simp only[aY,tu] at hz;obtain ⟨z1,z2,z3⟩:=hz;have z3:=kE z3;subst z3;obtain ⟨c1,c2⟩:=eu h;simp only[aY,gu] at c1;exact gX (p := .int .i64 ((Nat.min m n:Nat):Int)) (Z1 := { Z with h:=Z.h.set i0 (some (cs.take off ++ (((cs2.drop LU).take (m*sz')).map PV.un).take (Nat.min m n*sz') ++ cs.drop (off+Nat.min m n*sz'))) }) (by
        have e1:Ac Z sz' (.slh j0 LU m sz')=some (m,((cs2.drop LU).take (m*sz')).map PV.un):=by simp only[Ac,hcs2]; rw[aH ⟨trivial,c1.2⟩]
        simp only[bP,hca,h1,h2,hT,hx,hy,hcs,e1]; rw[aH ⟨kE z1,z2,c1.1⟩]) hs c2
      .cases h
     .cases h
    .cases h
   .cases h
  .rename_i hca;split at h
   .rename_i s x hxs;split at h
    .rename_i o1 z1 es o2 z2 es' he hx;obtain ⟨h1,h2⟩:=eu h;exact oL (by simp only[iM,hca,hxs,he,hx]; exact jP h1) h2
    .rename_i o1 z1 es b he hx;obtain ⟨h1,h2⟩:=eu h;exact oL (by simp only[iM,hca,hxs,he,hx]; exact jP h1) h2
    .rename_i n1 z1 cs o2 z2 es' he hx;unfold YE at h;split at h
     .rename_i t u hts;split at h
      .rename_i I hT;split at h
       .rename_i hc;simp only[aY,ut,tu,NI] at hc;obtain ⟨c1,c2,c3,c4,c5⟩:=hc;obtain ⟨h1,h2⟩:=eu h;simp only[aY] at h1;have c1:=kE c1;have c4:=kE c4;have c5:z2=I.size\/z2=0:=c5.imp (fun e=>kE e) fun e=>kE e
        subst c1; subst c4;exact gX (Z1:=Z.clr s) (by simp only[bP,hca,hxs,hts,hT,he,hx]; rw[aH ⟨trivial,c2,c3,trivial,c5,h1.2⟩]) (by simp only[iM,hca,hxs,he,hx]; exact jP h1.1) h2
       .cases h
      .cases h
     .cases h
    .rename_i l b he hx;obtain ⟨h1,h2⟩:=eu h;exact oL (by simp only[iM,hca,hxs,he,hx]; exact jP h1) h2
    .rename_i l o2 z2 es' he hx;split at h
     .rename_i c hob;obtain ⟨h1,h2⟩:=eu h;simp only[aY,gu] at h1;exact oL (by simp only[iM,hca,hxs,he,hx,hob]; exact ⟨h1.1.1,h1.1.2,h1.2⟩) h2
     .cases h
    .cases h
   .cases h
  .rename_i hnot hca;refine oL ?_ h;simp only[iM,hca];split
   .rename_i e; injection e with e; exact absurd e hnot
   .trivial
  .cases h
 .refine oL (bCL (fun c e => ?_) _) h;rename_i hnc;exact hnc c e
def lU (P:Program) (C:Cal):Prop:=∀ g args h r h',C g args h=some (r,h')->Ev P g args h r h'
theorem SI {M:Mem} {B:aQ} {P:Program}:∀ {ts:List TypeId} {ps:List PV} {vs:List Value},ag M B ps vs->ag M B (lw P ts ps) vs
 | [],ps,vs,h=>by cases ps<;>exact h
 | t::ts,[],vs,h=>h
 | t::ts,p::ps,vs,h=>by obtain ⟨u,us,rfl,h1,h2⟩:=bY.1 h;exact bY.2 ⟨u,us,rfl,by unfold WG; split<;>first | exact h1 | exact QS _ h1,SI h2⟩
theorem IQ {M:Mem} {B:aQ}:∀ {ps qs:List PV} {vs:List Value},ag M B (ps ++ qs) vs->∃ us ws,vs=us ++ ws/\ag M B ps us/\ag M B qs ws
 | [],qs,vs,h=>⟨[],vs,rfl,dC.2 rfl,h⟩
 | p::ps,qs,vs,h=>by obtain ⟨u,us,rfl,h1,h2⟩:=bY.1 h;obtain ⟨a,b,rfl,h3,h4⟩:=IQ h2;exact ⟨u::a,b,rfl,bY.2 ⟨u,a,rfl,h1,h3⟩,h4⟩
theorem oq.args {P:Program} {cp:CP} {g:FuncId} {az as':List PV} {h:aF} {r:PV} {h':aF} (k:oq P cp g as' h r h') (hr:∀ (M:Mem) (B:aQ) (vs:List Value),ag M B az vs->ag M B as' vs):oq P cp g az h r h' :=⟨k.1,fun out M B w vals h1 h2 h3 h4 h5=>k.2 out M B w vals h1 h2 h3 h4 (hr _ _ _ h5)⟩
theorem Ev.args {P:Program} {g:FuncId} {az as':List PV} {h:aF} {r:PV} {h':aF} (k:Ev P g as' h r h') (hr:∀ (M:Mem) (B:aQ) (vs:List Value),ag M B az vs->ag M B as' vs):Ev P g az h r h':=oq.args k hr
theorem Nq {P:Program}:∀ {ts:List TypeId} {ps:List PV},PV.flats (lw P ts ps)=PV.flats ps
 | [],ps=>by cases ps<;>rfl
 | t::ts,[]=>rfl
 | t::ts,p::ps=>by
  have h1:∀ z (p:PV),(p.BN z).flat=p.flat:=fun z p=>by
   cases p with
   | sl o s es =>
    rw[PV.BN];split
    .unfold D5; split<;>rfl
    .rfl
   | _=>rfl
  have h2:∀ zs (cs:List PV),PV.flats (QY zs cs)=PV.flats cs:=by
   intro zs;induction zs with
   | nil=>intro cs; cases cs<;>rfl
   | cons z zs ih =>
    intro cs;cases cs with
    | nil=>rfl
    | cons c cs=>rw[QY,PV.flats,PV.flats,h1,ih]
  have h3:(p.xI (JY P 8 t)).flat=p.flat:=by
   cases p with
   | agg cs=>simp only[PV.xI,PV.flat,h2]
   | _=>simp only[PV.xI,h1]
  have h4:(WG (JY P 8 t) p).flat=p.flat:=by unfold WG; split<;>first | rfl | exact h3
  rw[lw,PV.flats,PV.flats,h4,Nq]
theorem qg:∀ {a b:List PV},PV.flats (a ++ b)=(PV.flats a&&PV.flats b)
 | [],b=>by simp[PV.flats]
 | p::a,b=>by simp[PV.flats,qg (a:=a),Bool.and_assoc]
theorem a8I {cp:CP} (hcm:NR cp) (hW:qG X.W) (hC:∀ g args h r h',X.C g args h=some (r,h')->oq X.E.P cp g args h r h') {dst:Option Nat} {g:FuncId} {full full':List PV} {ids:List Nat} (hconv:∀ (M:Mem) (B:aQ) (vs:List Value),ag M B full' vs->ag M B full vs) (h:wS X dst g full ids K Z=some v) :
 ∃ r h',oq X.E.P cp g full' Z.h r (rq ids Z.h h')/\gz X.E dst r { Z with h:=rq ids Z.h h' } (fun Z'=>K Z'=some v):=by
 simp only[wS] at h;split at h
 .rename_i hok;unfold xg at h;split at h
  .rename_i r h' hr;have h:=QE hW h;simp only[aKI,aY] at hok;obtain ⟨k1,k2,k3,k4⟩:=hok;have he:=(oq.sub hcm (hC _ _ _ _ _ hr) k1 (fun i hi=>by
    have:=fH.1 k2 i hi;simpa[tu] using this) k3 (fun i cs hi hcs=>by
    have:=fH.1 k4 i hi;rw[Yr.2 hcs] at this; exact this)).args (az:=full') hconv
   exact ⟨_,_,he,qL h⟩
  .cases h
 .cases h
theorem a8H (hW:qG X.W) (hC:lU X.E.P X.C) {dst:Option Nat} {g:FuncId} {full full':List PV} {ids:List Nat} (hconv:∀ (M:Mem) (B:aQ) (vs:List Value),ag M B full' vs->ag M B full vs) (h:wS X dst g full ids K Z=some v) :
 ∃ r h',Ev X.E.P g full' Z.h r (rq ids Z.h h')/\gz X.E dst r { Z with h:=rq ids Z.h h' } (fun Z'=>K Z'=some v):=a8I (Xx _) hW hC hconv h
theorem a8J (hW:qG X.W) (hC:lU X.E.P X.C) {dst:Option Nat} {g:FuncId} {full full':List PV} {ids:List Nat} (hconv:∀ (M:Mem) (B:aQ) (vs:List Value),ag M B full' vs->ag M B full vs) (h:wS X dst g full ids K Z=some v) :
 JX X.E g full' dst (fun Z'=>K Z'=some v) Z:=by
 obtain ⟨r,h',h1,h2⟩:=a8H hW hC hconv h;exact ⟨r,_,h1,h2⟩
theorem bB6 {E:AE} {ids:List Nat} {H:aF} (h:aIO E.ln ids H.length=true) (h':aF):BO E (rq ids H h') H:=by
 intro i hi;have hm:1000000+i∈E.ln:=by simpa[bn] using hi
 have:=fH.1 h _ hm;rw[show Nat.ble 1000000 (1000000+i)=true by rw[NI]; omega,NH] at this;simp only[aY,tX] at this;obtain ⟨h1,h2⟩:=this;have hlt:i<H.length:=by simpa[tu] using h1
 have hni:i∉ids:=fun hc=>by rw[VA.2 hc] at h2; cases h2
 unfold rq;rw[jM (by rw[IZ]; exact hlt),Qb hni]
theorem aQ2 (hW:qG X.W) (hC:lU X.E.P X.C) {f:Operand} {args:List Operand} (h:Gi X true o f args K Z=some v) :
 ∃ g first caps az,Z.rd f=some (.func (.func g) first caps)/\iJ (args.map Z.rd)=some az/\TF X.E g (first ++ az ++ caps) o.dst (fun Z'=>K Z'=some v) Z:=by
 unfold Gi at h;split at h
 .rename_i g first caps az hf ha
  try simp only[uq,RP] at h
  have hconv:∀ (M:Mem) (B:aQ) (vs:List Value),ag M B (first ++ az ++ caps) vs->ag M B (first ++ lw X.E.P (pI X.E o) az ++ caps) vs:=fun M B vs hv=>by obtain ⟨a1,a2,rfl,h1,h2⟩:=IQ hv;obtain ⟨a3,a4,rfl,h3,h4⟩:=IQ h1;exact xH (xH h3 (SI h4)) h2
  split at h
  .rename_i hfl;unfold iI at h;split at h
   .rename_i r hr;have h:=QE hW h;try simp only[uq,RP] at h
    split at h
    .rename_i hrf;exact ⟨g,first,caps,az,hf,ha,a7A ((hC _ _ _ _ _ hr).args hconv) hrf (by rw[qg,qg,Nq] at hfl; rw[qg,qg]; exact hfl) (qL h)⟩
    .cases h
   .cases h
  .split at h
   .rename_i hsy;rw[aY] at hsy;obtain ⟨r,h',h1,h2⟩:=a8H hW hC hconv h;exact ⟨g,first,caps,az,hf,ha,.inr ⟨hsy.1,r,_,h1,bB6 hsy.2 h',h2⟩⟩
   .cases h
 .cases h
theorem aI9 (f:Nat->Nat):∀ {cs:List PV},cs.all nZ=true->jC f cs=cs
 | [],_=>by simp[jC]
 | p::cs,h=>by rw[rM,aY] at h;have h1:=h.1;unfold nZ at h1;rw[aY] at h1;rw[jC,aI8 f p h1.2,aI9 f h.2]
theorem bAJ (f:Nat->Nat) {o:Option (List PV)} (h:IL o=true):jV f o=o:=by
 cases o with
 | none=>rfl
 | some cs=>simp only[jV]; rw[aI9 f h]
theorem Vz (f:Nat->Nat):∀ {h:aF},h.all IL=true->h.map (jV f)=h
 | [],_=>rfl
 | o::h,e=>by rw[rM,aY] at e;rw[o8,bAJ f e.1,Vz f e.2]
theorem a6B (D:Nat->Bool):∀ {cs:List PV},cs.all nZ=true->PV.kR D cs=true
 | [],_=>by simp[PV.kR]
 | p::cs,h=>by rw[rM,aY] at h;have h1:=h.1;unfold nZ at h1;rw[aY] at h1;rw[PV.kR,a6C p h1.2,a6B D h.2]; rfl
theorem aMS (ids:List Nat) (H:aF) {h':aF} (e:h'.all IL=true):rq ids H h'=a2N ids H h':=by
 unfold rq a2N;have e1:(h'.take ids.length).all IL=true:=fH.2 fun x hx=>fH.1 e x (NG hx)
 have e2:(h'.drop ids.length).all IL=true:=fH.2 fun x hx=>fH.1 e x (List.mem_of_mem_drop hx)
 rw[Vz _ e1,Vz _ e2]
theorem a8K (hW:qG X.W) (hC:lU X.E.P X.C) {dst:Option Nat} {g:FuncId} {full full':List PV} {ids:List Nat} (hconv:∀ (M:Mem) (B:aQ) (vs:List Value),ag M B full' vs->ag M B full vs) (h:Gj X dst g full ids K Z=some v):JX X.E g full' dst (fun Z'=>K Z'=some v) Z:=by
 simp only[Gj] at h;split at h
 .rename_i hok;obtain ⟨c1,h⟩:=eu h;unfold xg at h;split at h
  .rename_i r h' hr;have h:=QE hW h;obtain ⟨c2,h⟩:=eu h;simp only[aY] at hok;obtain ⟨k1,k2,k3⟩:=hok;rw[<- Vz (oQ _) c1] at hr;have he:=(Ev.sub (hC _ _ _ _ _ hr) k1 (fun i hi=>by
    have:=fH.1 k2 i hi;simpa[tu] using this) k3 (fun i cs hi hcs=>by
    have:=fH.1 c1 (mO Z.h i) (a4S hi);rw[Yr.2 hcs] at this;exact a6B _ this)).args (az:=full') hconv
   rw[aMS _ _ c2] at he;exact ⟨_,_,he,qL h⟩
  .cases h
 .cases h
theorem aQ1 (hW:qG X.W) (hC:lU X.E.P X.C) {f:Operand} {args:List Operand} (h:Gi X false o f args K Z=some v) :
 ∃ g first caps az,Z.rd f=some (.func (.func g) first caps)/\iJ (args.map Z.rd)=some az/\JX X.E g (first ++ az ++ caps) o.dst (fun Z'=>K Z'=some v) Z:=by
 unfold Gi at h;split at h
 .rename_i g first caps az hf ha
  have hconv:∀ (M:Mem) (B:aQ) (vs:List Value),ag M B (first ++ az ++ caps) vs->ag M B (first ++ lw X.E.P (pI X.E o) az ++ caps) vs:=fun M B vs hv=>by obtain ⟨a1,a2,rfl,h1,h2⟩:=IQ hv;obtain ⟨a3,a4,rfl,h3,h4⟩:=IQ h1;exact xH (xH h3 (SI h4)) h2
  split at h
  .split at h
   .exact ⟨g,first,caps,az,hf,ha,a8K hW hC hconv h⟩
   .exact ⟨g,first,caps,az,hf,ha,a8J hW hC hconv h⟩
  split at h
  .rename_i hfl;unfold iI at h;split at h
   .rename_i r hr;have h:=QE hW h;split at h
    .unfold YL at h;split at h
     .rename_i es;obtain ⟨h1,h2⟩:=eu h;simp only[aY,gu] at h1;exact ⟨g,first,caps,az,hf,ha,_,_,(Ev.thaw (H:=Z.h) (hC _ _ _ _ _ hr) hfl h1.1 h1.2).args hconv,qL h2⟩
     .rename_i sz es _ _;by_cases hpos:0<es.length
      .rw[decide_eq_true hpos] at h;obtain ⟨h1,h2⟩:=eu h;exact ⟨g,first,caps,az,hf,ha,_,_,(Ev.bDJ (H:=Z.h) (hC _ _ _ _ _ hr) hfl hpos h1).args hconv,qL h2⟩
      .rw[decide_eq_false hpos] at h;have e0:es = []:=iU (by omega);subst e0;exact ⟨g,first,caps,az,hf,ha,Xw ((hC _ _ _ _ _ hr).args hconv) rfl (by rw[qg,qg,Nq] at hfl; rw[qg,qg]; exact hfl) (qL h)⟩
     .cases h
    .split at h
     .rename_i hrf;exact ⟨g,first,caps,az,hf,ha,Xw ((hC _ _ _ _ _ hr).args hconv) hrf (by rw[qg,qg,Nq] at hfl; rw[qg,qg]; exact hfl) (qL h)⟩
     .cases h
   .cases h
  .split at h
   .rename_i e; cases e
   .split at h
    .unfold YI at h;obtain ⟨h1,h2⟩:=eu h;unfold iI at h2;split at h2
     .rename_i r hr;have h2:=QE hW h2;split at h2
      .rename_i hrn;exact ⟨g,first,caps,az,hf,ha,_,_,(Ev.b5P (hC _ _ _ _ _ hr) hrn h1).args hconv,qL h2⟩
      .cases h2
     .cases h2
    .split at h
     .exact ⟨g,first,caps,az,hf,ha,a8K hW hC hconv h⟩
     exact ⟨g,first,caps,az,hf,ha,a8J hW hC hconv h⟩
 .cases h
theorem a8G (hV:vz X.V) (hC:lU X.E.P X.C) {f:Operand} {args:List Operand} (h:Tj X o f args K Z=some v) :
 ∃ g first caps az r,Z.rd f=some (.func (.func g) first caps)/\iJ (args.map Z.rd)=some az/\Ev X.E.P g (first ++ az ++ caps) [] r []/\r.flat=true/\PV.flats (first ++ az ++ caps)=true/\gz X.E o.dst r Z (fun Z'=>K Z'=some v):=by
 unfold Tj at h;split at h
 .rename_i p az hf ha;obtain ⟨g,first,caps,rfl,h⟩:=aQY h;obtain ⟨hfl,h⟩:=eu h;have hconv:∀ (M:Mem) (B:aQ) (vs:List Value),ag M B (first ++ az ++ caps) vs->ag M B (first ++ lw X.E.P (pI X.E o) az ++ caps) vs:=fun M B vs hv=>by obtain ⟨a1,a2,rfl,h1,h2⟩:=IQ hv;obtain ⟨a3,a4,rfl,h3,h4⟩:=IQ h1;exact xH (xH h3 (SI h4)) h2
  unfold iI at h;split at h
  .rename_i r hr;have h:=MQ hV h;split at h
   .rename_i hrf;exact ⟨g,first,caps,az,r,hf,ha,(hC _ _ _ _ _ hr).args hconv,hrf,by rw[qg,qg,Nq] at hfl; rw[qg,qg]; exact hfl,qL h⟩
   .cases h
  .cases h
 .cases h
theorem a8D (hV:vz X.V) (hW:qG X.W) (hC:lU X.E.P X.C) (h:EM X false o K Z=some v):uK X.E o (fun Z'=>K Z'=some v) Z:=by
 unfold EM at h;split at h
 .rename_i f args hc;obtain ⟨g,first,caps,az,hf,ha,h2⟩:∃ g first caps az,Z.rd f=some (.func (.func g) first caps)/\iJ (args.map Z.rd)=some az/\JX X.E g (first ++ az ++ caps) o.dst (fun Z'=>K Z'=some v) Z:=by
   split at h
   .obtain ⟨g,first,caps,az,r,h1,h2,h3,h4,h5,h6⟩:=a8G hV hC h;exact ⟨g,first,caps,az,h1,h2,Xw h3 h4 h5 h6⟩
   .exact aQ1 hW hC h
  clear h;obtain ⟨dst,op,type,pos,after,guard⟩:=o;cases op<;>simp[qi] at hc
  rename_i c;obtain ⟨callee,GY,ts⟩:=c;cases callee<;>simp at hc
  obtain ⟨rfl,rfl⟩:=hc;simp only[uK,hf,ha];exact h2
 .rename_i hc;rw[aMM hc];split at h
  .exact .inl (YJ hV hc h)
  .split at h
   .rename_i es pos hn;refine .inr ?_;unfold Q8;rw[hn];intro b hb;obtain ⟨h1,h2⟩:=b76 h;cases b
    .exact qL h1
    .exact qL (h2 (hb rfl))
   .exact .inl (YJ hV hc h)
theorem a8E (hV:vz X.V) (hW:qG X.W) (hC:lU X.E.P X.C) (h:EM X true o K Z=some v):yf X.E o (fun Z'=>K Z'=some v) Z:=by
 unfold EM at h;unfold yf;split at h
 .rename_i f args hc;obtain ⟨g,first,caps,az,hf,ha,h⟩:∃ g first caps az,Z.rd f=some (.func (.func g) first caps)/\iJ (args.map Z.rd)=some az/\TF X.E g (first ++ az ++ caps) o.dst (fun Z'=>K Z'=some v) Z:=by
   split at h
   .obtain ⟨g,first,caps,az,r,h1,h2,h3,h4,h5,h6⟩:=a8G hV hC h;exact ⟨g,first,caps,az,h1,h2,a7A h3 h4 h5 h6⟩
   .exact aQ2 hW hC h
  simp only[hc,hf,ha];exact h
 .rename_i hc;simp only[hc];exact YJ hV hc h
theorem VZ {d:Nat} {b:Bool} (h:bK d Z.s=some (.bool b)):Z.lit d b=Z:=by unfold ASt.lit; rw[a2R h]
theorem OL (hV:vz X.V) (hW:qG X.W) (hC:lU X.E.P X.C):∀ (l:List Oper) {K:ASt->R} {Z:ASt},iy X false ops l K Z=some v->jY X.E ops l (fun Z'=>K Z'=some v) Z
 | [],K,Z,h=>h
 | o::l,K,Z,h=>by
  have ih:∀ Z,iy X false ops l K Z=some v->jY X.E ops l (fun Z'=>K Z'=some v) Z:=fun Z h=>OL hV hW hC l h
  rw[iy] at h;rw[jY];split at h
  .rename_i hg;simp only[hg];exact SY ih (a8D hV hW hC h)
  .rename_i j want hg;simp only[hg,xq];split at h
   .rename_i hd;simp only[hd];exact uj ih (qL h)
   .rename_i d hd;simp only[hd];split at h
    .rename_i b hb;simp only[hb];have key:EN X false o d want b (iy X false ops l K) Z=some v:=by
      cases b
      .exact h
      .exact h
     unfold EN at key;split at key
     .rename_i e;have e:b=want:=by simpa using e
      rw[VZ hb] at key;exact ⟨fun _=>SY ih (a8D hV hW hC key),fun h=>absurd e h⟩
     .rename_i e;have e:b≠want:=by simpa using e
      rw[VZ hb] at key;exact ⟨fun h=>absurd h e,fun _=>uj ih (qL key)⟩
    .rename_i hb;simp only[hb];exact uj ih (qL h)
    .cases h
theorem YK (hV:vz X.V) (hW:qG X.W) (hC:lU X.E.P X.C):∀ (l:List Oper) {K:ASt->R} {Z:ASt},iy X true ops l K Z=some v->pG X.E ops l (fun Z'=>K Z'=some v) Z
 | [],K,Z,h=>h
 | o::l,K,Z,h=>by
  have ih:∀ Z,iy X true ops l K Z=some v->pG X.E ops l (fun Z'=>K Z'=some v) Z:=fun Z h=>YK hV hW hC l h
  rw[iy] at h;rw[pG];split at h
  .rename_i hg;simp only[hg];exact SX ih (a8E hV hW hC h)
  .rename_i j want hg;simp only[hg,xq];split at h
   .rename_i hd;simp only[hd];exact uj ih (qL h)
   .rename_i d hd;simp only[hd];split at h
    .rename_i b hb;simp only[hb];have key:EN X true o d want b (iy X true ops l K) Z=some v:=by
      cases b
      .exact h
      .exact h
     unfold EN at key;split at key
     .rename_i e;have e:b=want:=by simpa using e
      rw[VZ hb] at key;exact ⟨fun _=>SX ih (a8E hV hW hC key),fun h=>absurd e h⟩
     .rename_i e;have e:b≠want:=by simpa using e
      rw[VZ hb] at key;exact ⟨fun h=>absurd h e,fun _=>uj ih (qL key)⟩
    .rename_i hb;simp only[hb];exact uj ih (qL h)
    .cases h
def Ew (X:XE):Prop:=∀ l m x (K:AX->ASt->R) Z v,X.L l m x K (Z.gc l m)=some v->aG8 X.m0 (cO X.E X.m0 x) (fun e Z'=>K e Z'=some v) Z
theorem a8L (hV:vz X.V) (hW:qG X.W) (hC:lU X.E.P X.C) {K:ASt->R}:∀ (fuel:Nat) {L:Array Bool} {Z:ASt},CO X ops K fuel L Z=some v->GI X.E ops (fun Z'=>K Z'=some v) fuel L Z
 | 0,L,Z,h=>by
  unfold CO at h;split at h
  .rename_i hr; exact ⟨hr,h⟩
  .cases h
 | fuel+1,L,Z,h=>by
  unfold CO at h;split at h
  .rename_i hr; exact ⟨fun _=>h,fun i hi=>by rw[hr] at hi; simp[EQ] at hi⟩
  .rename_i a l hr;refine ⟨fun e=>(by rw[hr] at e; cases e),fun i hi => ?_⟩;rw[hr] at hi;have h1:=a5' h _ (kP.2 ⟨i,hi,rfl⟩);cases ho:ops[i]? with
   | none=>rw[ho] at h1; cases h1
   | some o =>rw[ho] at h1;obtain ⟨Z',h2,h3⟩:=aMN (YK hV hW hC [o] h1);exact ⟨o,rfl,Z',h2,a8L hV hW hC fuel h3⟩
theorem mM {k:ASt->R}:∀ (ks:List Nat) {Z:ASt} {v:PV×aF},kV k ks Z=some v->∃ ks',k (vN ks' Z)=some v
 | [],Z,v,h=>⟨[],h⟩
 | d::ds,Z,v,h=>by
  unfold kV at h;split at h
  .rename_i hd;split at h
   .rename_i i hs;split at h
    .rename_i p hc;obtain ⟨h1,h2⟩:=eu h;obtain ⟨ks',h3⟩:=mM ds h2;refine ⟨d::ks',?_⟩;have:uS d Z=⟨gK (d-9000000) (.cst ((kT p.length p 1).headD .nilp)) Z.s,Z.h.set i none⟩:=by simp only[uS,hd,UA,hs,hc,h1]
     rw[vN,this]; exact h3
    .exact mM ds h
   .exact mM ds h
  rename_i hd9;split at h
  .rename_i hd;split at h
   .rename_i i2 hs;split at h
    .rename_i cs0 hc;split at h
     .rename_i i n sz hj;split at h
      .rename_i cs hi;obtain ⟨h1,h2⟩:=eu h;obtain ⟨ks',h3⟩:=mM ds h2;refine ⟨d::ks',?_⟩;have:uS d Z=⟨Z.s,(Z.h.set i none).set i2 (some (cs0.set ((d-5000000) % 100) (.sl false sz (kT sz cs n))))⟩:=by simp only[uS,hd9,hd,U8,hs,hc,hj,hi,h1]
       rw[vN,this]; exact h3
      .exact mM ds h
     .exact mM ds h
    .exact mM ds h
   .exact mM ds h
  rename_i hd5;split at h
  .rename_i hd;split at h
   .rename_i i hs;split at h
    .rename_i cs0 hc;split at h
     .rename_i n sz cs hj;cases hn:Nat.ble 1 n with
      | true =>rw[hn,aA] at h;obtain ⟨ks',h3⟩:=mM ds h;refine ⟨d::ks',?_⟩;rw[vN];simp only[uS,hd9,hd5,hd,Qn,hs,hc,hj,hn];exact h3
      | false =>rw[hn,aA] at h;obtain ⟨ks',h3⟩:=mM ds h;refine ⟨d::ks',?_⟩;rw[vN];simp only[uS,hd9,hd5,hd,Qn,hs,hc,hj,hn];exact h3
     .exact mM ds h
    .exact mM ds h
   .exact mM ds h
  rename_i hd4;split at h
  .rename_i hd;split at h
   .rename_i n sz cs hs;split at h
    .obtain ⟨hn,h⟩:=eu h;obtain ⟨ks',h3⟩:=mM ds h;refine ⟨d::ks',?_⟩;rw[vN];simp only[uS,hd9,hd5,hd4,hd,MJ,hs,hn];exact h3
    cases hn:Nat.ble 1 n with
    | true =>rw[hn,aA] at h;obtain ⟨ks',h3⟩:=mM ds h;refine ⟨d::ks',?_⟩;rw[vN];simp only[uS,hd9,hd5,hd4,hd,MJ,hs,hn];exact h3
    | false =>rw[hn,aA] at h;obtain ⟨ks',h3⟩:=mM ds h;refine ⟨d::ks',?_⟩;rw[vN];simp only[uS,hd9,hd5,hd4,hd,MJ,hs,hn];exact h3
   .exact mM ds h
  rename_i hd3;split at h
  .rename_i hd;split at h
   .rename_i i n sz hs;split at h
    .rename_i cs hc;obtain ⟨h1,h2⟩:=eu h;obtain ⟨ks',h3⟩:=mM ds h2;refine ⟨d::ks',?_⟩;have:uS d Z=⟨gK (d-1000000) (.sl false sz (kT sz cs n)) Z.s,Z.h.set i none⟩:=by simp only[uS,hd9,hd5,hd4,hd3,hd,UB,hs,hc,h1]
     rw[vN,this]; exact h3
    .exact mM ds h
   .exact mM ds h
  .obtain ⟨ks',h3⟩:=mM ds h;exact ⟨d::ks',h3⟩
theorem sN (hV:vz X.V) (hW:qG X.W) (hC:lU X.E.P X.C) (hL:Ew X):∀ (c:Code) {K:AX->ASt->R} {Z:ASt},bI X c K Z=some v->cO X.E X.m0 c (fun e Z'=>K e Z'=some v) Z
 | .skip,K,Z,h=>h
 | .label _,K,Z,h=>h
 | .exit _,K,Z,h=>h
 | .ret,K,Z,h=>h
 | .region _ ops draw,K,Z,h=>by
  simp only[bI] at h;rw[cO];cases draw with
  | false=>exact OL hV hW hC _ h
  | true =>
   cases hok:okD X.E ops with
   | true =>simp only[hok] at h;exact .inl ⟨hok,YK hV hW hC _ h⟩
   | false =>simp only[hok] at h;exact .inr (a8L hV hW hC _ h)
 | .seq x y,K,Z,h=>by
  simp only[bI] at h;rw[cO];refine uM x (fun e Z' he => ?_) (sN hV hW hC hL x h);cases e with
  | normal =>
   have he:qj X.E X.m0 y (bI X y K) Z'=some v:=he;have hj:∀ Z',Aw X.E X.m0 y (bI X y K) Z'=some v->cO X.E X.m0 y (fun e Z=>K e Z=some v) Z'\/∃ l m,X.m0<=m/\yw l m Z'=true/\cO X.E X.m0 y (fun e Z=>K e Z=some v) (Z'.gc l m):=fun Z' he=>by
    unfold Aw at he;cases hl:X.E.jt.lookup (zU y) with
    | none=>rw[hl] at he; exact .inl (sN hV hW hC hL y he)
    | some l =>
     rw[hl] at he;simp only at he;obtain ⟨hpl,he⟩:=eu he;split at he
     .rename_i hg;simp only[aY,gu] at hg;exact .inr ⟨l,_,hg.1,Yo hpl hg.2,sN hV hW hC hL y he⟩
     .cases he
   unfold qj at he;split at he
   .obtain ⟨ks,he⟩:=mM _ he;exact ⟨ks,hj _ he⟩
   .exact ⟨[],hj _ he⟩
  | ret=>exact he
  | exit i=>exact he
 | .cond c x y,K,Z,h=>by
  simp only[bI] at h;rw[cO];split at h
  .rename_i b hb;simp only[hb];split at h
   .rename_i d;cases b with
    | true =>have h:bI X x K (Z.lit d true)=some v:=h;rw[Vx hb] at h;exact ⟨fun _=>sN hV hW hC hL x h,fun e=>by cases e⟩
    | false =>have h:bI X y K (Z.lit d false)=some v:=h;rw[Vx hb] at h;exact ⟨fun e=>(by cases e),fun _=>sN hV hW hC hL y h⟩
   .cases b with
    | true=>exact ⟨fun _=>sN hV hW hC hL x h,fun e=>by cases e⟩
    | false=>exact ⟨fun e=>(by cases e),fun _=>sN hV hW hC hL y h⟩
  .cases h
 | .block id x,K,Z,h=>by
  simp only[bI] at h;rw[cO];refine uM x (fun e Z' he => ?_) (sN hV hW hC hL x h);cases e with
  | normal=>exact he
  | ret=>exact he
  | exit i =>
   simp only[au] at he;simp only[JV];split at he
   .rename_i e; rw[aH e]; exact he
   .rename_i e; rw[aI e]; exact he
 | .scope x,K,Z,h=>by simp only[bI] at h;rw[cO];exact sN hV hW hC hL x h
 | .loop x,K,Z,h=>by simp only[bI] at h;rw[cO];exact hL _ _ _ _ _ _ h
 | .rangeFunc _ _ _ _,K,Z,h=>by simp[bI] at h
 | .goto _,K,Z,h=>by simp[bI] at h
 | .refuse _,K,Z,h=>by simp[bI] at h
end
structure Rq where
 vars:List Nat
 mv:List Nat
 mu:List Nat
 sz:List (Nat×List Nat)
 jt:List (Nat×List Nat)
 lt:List (Nat×List Nat)
 pt:List (Nat×List Nat)
 fz:List Nat
 ro:List (List Nat×Bool)
 ft:List (Nat×List Nat) := []
 sy:List Nat := []
 ln:List Nat := []
 df:Bool:=false
abbrev uw:=AE->Nat->List Nat->Nat->Code->(AX->ASt->R)->ASt->R
structure SE where
 P:Program
 gU:FuncId->Rq
 V:TypeId->PV->(PV->R)->R
 W:FuncId->aF->PV->aF->(PV->aF->R)->R
 C0:Cal
def SE.ae (S:SE) (g:FuncId) (n:Nat):AE:=⟨S.P,n,(S.gU g).vars,(S.gU g).mv,(S.gU g).mu,(S.gU g).sz,(S.gU g).jt,(S.gU g).lt,(S.gU g).pt,(S.gU g).fz,(S.gU g).ft,(S.gU g).sy,(S.gU g).ln⟩
def SE.xe (S:SE) (C:Cal) (L:uw) (E:AE) (m0:Nat):XE:=⟨E,C,S.V,S.W,L E m0,m0⟩
def Ib:PV->Nat
 | .ptr i _=>i+1
 | .tuple ps=>PV.Dh ps
 | _=>0
def aIM (P:Program) (rs:List ResultVar) (Z:ASt):Option PV:=match rs with
 | [x]=>resV P Z x
 | rs=>(iJ (rs.map (resV P Z))).map fun ps=>PV.tuple (ps.map PV.un)
def aJS:PV->List Nat
 | .tuple ps=>Ah ps
 | _ => []
def DU (P:Program) (rs:List ResultVar) (ro:List (List Nat×Bool)) (m0:Nat) (fl:List Nat) (Z:ASt):R:=match aIM P rs Z with
 | some r=>chk (plainO (Z.h.take (Nat.max m0 (Ib r))) (uI fl (aJS r))) (match decide (Nat.max m0 (Ib r)<=Z.h.length)&&(r.blw (Nat.max m0 (Ib r))&&xZ (Nat.max m0 (Ib r)) (FT (uI fl (aJS r)) 0 (Z.h.take (Nat.max m0 (Ib r))))) with
  | true=>some (uQ ro r,Z.h.take (Nat.max m0 (Ib r)))
  | false=>none)
 | none=>none
def DT (P:Program) (rs:List ResultVar) (ro:List (List Nat×Bool)) (m0:Nat) (fl:List Nat):AX->ASt->R
 | .normal,Z=>DU P rs ro m0 fl Z
 | .ret,Z=>DU P rs ro m0 fl Z
 | .exit _,_=>none
def b3E (o:Oper):Bool:=match o.op with | .defer _=>true | _=>false
def Au:Code->Bool
 | .region _ ops draw => !draw&&ops.toList.any b3E
 | .seq x y=>Au x||Au y
 | .cond _ x y=>Au x||Au y
 | .block _ x=>Au x
 | _=>false
def WU:List Oper->Option (List Oper×Oper×Call×List Oper)
 | []=>none
 | o::l=>match o.op with
  | .defer c=>some ([],o,c,l)
  | _=>(match WU l with | some (a,o',c,b)=>some (o::a,o',c,b) | none=>none)
abbrev JK:=Nat->FuncId->List PV->AX->ASt->R
def TR (m0:Nat) (o:Oper) (c:Call) (K:Nat->FuncId->List PV->ASt->R) (Z:ASt):R:=match o.guard,o.dst,c.callee with
 | none,none,.value f=>(match Z.rd f,iJ (c.args.toList.map Z.rd) with
  | some (.func (.func g) first caps),some az=>(match PV.blws (Nat.max m0 (PV.Dh (first ++ az ++ caps))) (first ++ az ++ caps) with
   | true=>K (Nat.max m0 (PV.Dh (first ++ az ++ caps))) g (first ++ az ++ caps) Z
   | false=>none)
  | _,_=>none)
 | _,_,_=>none
def SE.pK (S:SE) (C:Cal) (L:uw) (E:AE) (m0:Nat):Code->(AX->ASt->R)->JK->ASt->R
 | .seq x y,K0,KD,Z=>(match Au x with
  | true=>S.pK C L E m0 x (tK (qj E m0 y (bI (S.xe C L E m0) y K0)) K0) (fun m g ps=>tK (qj E m y (bI (S.xe C L E m) y (KD m g ps))) (KD m g ps)) Z
  | false=>bI (S.xe C L E m0) x (tK (S.pK C L E m0 y K0 KD) K0) Z)
 | .cond c x y,K0,KD,Z=>(match Z.rd c with
  | some (.bool b)=>(match c with
   | .tmp d=>aA b (match Au x with | true=>S.pK C L E m0 x K0 KD (Z.lit d true) | false=>bI (S.xe C L E m0) x K0 (Z.lit d true)) (match Au y with | true=>S.pK C L E m0 y K0 KD (Z.lit d false) | false=>bI (S.xe C L E m0) y K0 (Z.lit d false))
   | _=>none)
  | _=>none)
 | .block id x,K0,KD,Z=>S.pK C L E m0 x (au id K0) (fun m g ps=>au id (KD m g ps)) Z
 | .region _ ops draw,_,KD,Z=>(match draw with
  | true=>none
  | false=>(match WU ops.toList with
   | some (pre,o,c,post)=>iy (S.xe C L E m0) false ops pre (TR m0 o c fun m g ps=>iy (S.xe C L E m0) false ops post (KD m g ps .normal)) (Z.head E)
   | none=>none))
 | _,_,_,_=>none
def SE.CD (S:SE) (C:Cal):Cal:=fun g args h=>match S.C0 g args h with
 | some _=>none
 | none=>(match (S.gU g).df with | true=>none | false=>C g args h)
def SE.QZ (S:SE) (C:Cal) (L:uw) (E:AE) (rs:List ResultVar) (ro:List (List Nat×Bool)) (m0:Nat) (fl:List Nat):JK:=fun _ g ps e Z=>match e with
 | .exit _=>none
 | _=>wS (S.xe (S.CD C) L E m0) none g ps (EK Z.h 3 (uI [] (PV.uV ps))) (DU S.P rs ro m0 fl) Z
def SE.run (S:SE) (C:Cal) (L:uw) (g:FuncId) (args:List PV) (h:aF):R:=match S.P.funcs[g]? with
 | some fn=>(match fn.body with
  | some c=>(match decide (args.length<=fn.ntmps)&&(fn.name != "runtime.NumGoroutine") with
   | true=>(match (S.gU g).df with
    | false=>bI (S.xe C L (S.ae g fn.ntmps) h.length) c (DT S.P fn.results.toList (S.gU g).ro h.length (Ah args)) ⟨jr 0 args,h⟩
    | true=>S.pK C L (S.ae g fn.ntmps) h.length c (DT S.P fn.results.toList (S.gU g).ro h.length (Ah args)) (S.QZ C L (S.ae g fn.ntmps) fn.results.toList (S.gU g).ro h.length (Ah args)) ⟨jr 0 args,h⟩)
   | false=>none)
  | none=>none)
 | none=>none
def SE.wp (S:SE) (E:AE):AE := { E with P:=S.P }
def SE.turn (S:SE) (C:Cal) (L:uw):uw:=fun E m0 l m x K Z =>
 chk (DF l m Z) (match decide (m0<=m)&&Ap l m Z with
 | true=>bI (S.xe C L (S.wp E) m0) x (tK (fun Z'=>L E m0 l m x K (Z'.gc l m)) K) (Z.gc l m)
 | false=>none)
def D7 (a b:R):R:=match a with | some x=>some x | none=>b
def SE.aW (S:SE):Nat->Cal×uw
 | 0=>(S.C0,fun _ _ _ _ _ _ _=>none)
 | n+1=>(fun g args h=>D7 (S.C0 g args h) (S.run (S.aW n).1 (S.aW n).2 g args h),S.turn (S.aW n).1 (S.aW n).2)
open Classical in
def lim (f:Nat->R):R:=if h:∃ n v,f n=some v then some (Classical.choose (N9 h)) else none
def SE.CC (S:SE):Cal:=fun g args h=>lim fun n=>(S.aW n).1 g args h
def SE.LL (S:SE):uw:=fun E m0 l m x K Z=>lim fun n=>(S.aW n).2 E m0 l m x K Z
structure SE.OK (S:SE):Prop where
 V:vz S.V
 W:qG S.W
section
variable {S:SE}
theorem Yp (l:List Nat) (m:Nat) (Z:ASt):(Z.gc l m).gc l m=Z.gc l m:=by simp only[ASt.gc,List.filter_filter,wF,List.take_take,Nat.min_self]
theorem b1E (l:List Nat) (m:Nat) (Z:ASt):Ap l m (Z.gc l m)=Ap l m Z:=by unfold Ap; rw[Yp]
theorem b9Y (l:List Nat) (m:Nat) (Z:ASt):DF l m (Z.gc l m)=DF l m Z:=by unfold DF; rw[Yp]
theorem bDW (C:Cal) (L:uw) (E:AE) (m0:Nat) (l:List Nat) (m:Nat) (x:Code) (K:AX->ASt->R) (Z:ASt):S.turn C L E m0 l m x K (Z.gc l m)=S.turn C L E m0 l m x K Z:=by unfold SE.turn; rw[b1E,b9Y,Yp]
variable {ι:Type} {Good:(ι->R)->Prop} (F:GL Good) (hS:S.OK) {C:ι->Cal} {L:ι->uw} (hC:∀ g args h,Good fun i=>C i g args h)
 (hL:∀ (E:AE) (m0:Nat) (l:List Nat) (m:Nat) (x:Code) (K:ι->AX->ASt->R) (Z:ASt),(∀ e Z,Good fun i=>K i e Z)->Good fun i=>L i E m0 l m x (K i) Z)
include F hS hC hL in
theorem H8 {E:AE} {m0:Nat} (c:Code) {K:ι->AX->ASt->R} {Z:ASt} (h:∀ e Z,Good fun i=>K i e Z):Good fun i=>bI (S.xe (C i) (L i) E m0) c (K i) Z :=Aq F (X:=S.xe (fun _ _ _=>none) (fun _ _ _ _ _ _ _=>none) E m0) (C:=C) (L:=fun i=>L i E m0) hS.V hS.W hC (fun l m x K Z h=>hL E m0 l m x K Z h) c h
include F hS hC hL in
theorem aDD {E:AE} {m0:Nat} {ops:Array Oper} (l:List Oper) {K:ι->ASt->R} {Z:ASt} (h:∀ Z,Good fun i=>K i Z):Good fun i=>iy (S.xe (C i) (L i) E m0) false ops l (K i) Z :=PG F (X:=S.xe (fun _ _ _=>none) (fun _ _ _ _ _ _ _=>none) E m0) (C:=C) (L:=fun i=>L i E m0) hS.V hS.W hC l h
include F hS hC hL in
theorem aDA {E:AE} {m0:Nat} {y:Code} {K:ι->AX->ASt->R} {Z:ASt} (h:∀ e Z,Good fun i=>K i e Z):Good fun i=>qj E m0 y (bI (S.xe (C i) (L i) E m0) y (K i)) Z:=by
 have hj:∀ Z,Good fun i=>Aw E m0 y (bI (S.xe (C i) (L i) E m0) y (K i)) Z:=fun Z=>by
  unfold Aw;split
  .refine fZ F ?_;split
   .exact H8 F hS hC hL y h
   .exact F.no
  .exact H8 F hS hC hL y h
 unfold qj;split
 .exact mP F hj _
 .exact hj _
include F in
theorem b1L {m0:Nat} {o:Oper} {c:Call} {K:ι->Nat->FuncId->List PV->ASt->R} {Z:ASt} (h:∀ m g ps Z,Good fun i=>K i m g ps Z):Good fun i=>TR m0 o c (K i) Z:=by
 unfold TR;split
 .split
  .split
   .exact h _ _ _ _
   .exact F.no
  .exact F.no
 .exact F.no
include F hS hC hL in
theorem KN {E:AE} {m0:Nat}:∀ (c:Code) {K0:ι->AX->ASt->R} {KD:ι->JK} {Z:ASt},(∀ e Z,Good fun i=>K0 i e Z)->(∀ m g ps e Z,Good fun i=>KD i m g ps e Z)->Good fun i=>S.pK (C i) (L i) E m0 c (K0 i) (KD i) Z
 | .seq x y,K0,KD,Z,h,h'=>by
  simp only[SE.pK];split
  .exact KN x (fun e Z=>PH (fun Z=>aDA F hS hC hL h) h e Z) (fun m g ps e Z=>PH (fun Z=>aDA F hS hC hL (h' m g ps)) (h' m g ps) e Z)
  .exact H8 F hS hC hL x fun e Z=>PH (fun Z=>KN y h h') h e Z
 | .cond c x y,K0,KD,Z,h,h'=>by
  simp only[SE.pK];split
  .split
   .refine xn F ?_ ?_
    .split
     .exact KN x h h'
     .exact H8 F hS hC hL x h
    .split
     .exact KN y h h'
     .exact H8 F hS hC hL y h
   .exact F.no
  .exact F.no
 | .block id x,K0,KD,Z,h,h'=>by simp only[SE.pK];exact KN x (fun e Z=>Yt h e Z) (fun m g ps e Z=>Yt (h' m g ps) e Z)
 | .region _ ops draw,K0,KD,Z,h,h'=>by
  simp only[SE.pK];split
  .exact F.no
  .split
   .exact aDD F hS hC hL _ fun Z=>b1L F fun m g ps Z=>aDD F hS hC hL _ fun Z=>h' m g ps .normal Z
   .exact F.no
 | .skip,K0,KD,Z,h,h'=>F.no
 | .label _,K0,KD,Z,h,h'=>F.no
 | .exit _,K0,KD,Z,h,h'=>F.no
 | .ret,K0,KD,Z,h,h'=>F.no
 | .scope _,K0,KD,Z,h,h'=>F.no
 | .loop _,K0,KD,Z,h,h'=>F.no
 | .rangeFunc _ _ _ _,K0,KD,Z,h,h'=>F.no
 | .goto _,K0,KD,Z,h,h'=>F.no
 | .refuse _,K0,KD,Z,h,h'=>F.no
include F hS hC in
theorem b1V {E:AE} {rs:List ResultVar} {ro:List (List Nat×Bool)} {m0:Nat} {fl:List Nat} (m:Nat) (g:FuncId) (ps:List PV) (e:AX) (Z:ASt):Good fun i=>S.QZ (C i) (L i) E rs ro m0 fl m g ps e Z:=by
 have hC':∀ g args h,Good fun i=>S.CD (C i) g args h:=fun g args h=>by
  unfold SE.CD;split
  .exact F.no
  .split
   .exact F.no
   .exact hC _ _ _
 have hH:Good fun i=>wS (S.xe (S.CD (C i)) (L i) E m0) none g ps (EK Z.h 3 (uI [] (PV.uV ps))) (DU S.P rs ro m0 fl) Z:=by
  simp only[wS];split
  .exact Uz F hC' fun r h'=>KL (X:=S.xe (fun _ _ _=>none) (fun _ _ _ _ _ _ _=>none) E m0) F hS.W fun p q=>fA F fun Z=>F.const _
  .exact F.no
 unfold SE.QZ;cases e
 .exact hH
 .exact hH
 .exact F.no
include F hS hC hL in
theorem Yw {g:FuncId} {args:List PV} {h:aF}:Good fun i=>S.run (C i) (L i) g args h:=by
 unfold SE.run;split
 .split
  .split
   .split
    .exact H8 F hS hC hL _ fun e Z=>F.const _
    .exact KN F hS hC hL _ (fun e Z=>F.const _) fun m g ps e Z=>b1V F hS hC m g ps e Z
   .exact F.no
  .exact F.no
 .exact F.no
include F hS hC hL in
theorem V3 {E:AE} {m0:Nat} {l:List Nat} {m:Nat} {x:Code} {K:ι->AX->ASt->R} {Z:ASt} (h:∀ e Z,Good fun i=>K i e Z):Good fun i=>S.turn (C i) (L i) E m0 l m x (K i) Z:=by
 unfold SE.turn;refine fZ F ?_;split
 .exact H8 F hS hC hL _ fun e Z=>PH (fun Z=>hL _ _ _ _ _ _ _ h) h e Z
 .exact F.no
include F in
theorem Yv {a:R} {f:ι->R} (h:Good f):Good fun i=>D7 a (f i):=by
 cases a
 .exact h
 .exact F.const _
theorem Yx (F:GL Good) (hS:S.OK):∀ (n:Nat) (E:AE) (m0:Nat) (l:List Nat) (m:Nat) (x:Code) (K:ι->AX->ASt->R) (Z:ASt),(∀ e Z,Good fun i=>K i e Z)->Good fun i=>(S.aW n).2 E m0 l m x (K i) Z
 | 0,_,_,_,_,_,_,_,_=>F.no
 | n+1,_,_,_,_,_,_,_,h=>V3 F hS (C:=fun _=>(S.aW n).1) (L:=fun _=>(S.aW n).2) (fun _ _ _=>F.const _) (Yx F hS n) h
def AA (F:Bool->R):Prop:=∀ v,F false=some v->F true=some v
theorem Gp:GL AA:=⟨fun _ _ h=>h,fun c k hc hk v h=>by
 have h:(match c false with | some (r,h)=>k false r h | none=>none)=some v:=h;show (match c true with | some (r,h)=>k true r h | none=>none)=some v;cases hf:c false with
 | none=>rw[hf] at h; cases h
 | some x =>obtain ⟨r,hh⟩:=x;rw[hf] at h;rw[hc _ hf];exact hk r hh v h⟩
theorem DW (hS:S.OK):∀ n,(∀ g args h v,(S.aW n).1 g args h=some v->(S.aW (n+1)).1 g args h=some v) /\
 (∀ E m0 l m x (K K':AX->ASt->R) Z v,(∀ e Z v,K e Z=some v->K' e Z=some v)->(S.aW n).2 E m0 l m x K Z=some v->(S.aW (n+1)).2 E m0 l m x K' Z=some v)
 | 0=>⟨fun g args h v hv=>by show D7 (S.C0 g args h) _=some v; rw[show S.C0 g args h=some v from hv]; rfl,fun _ _ _ _ _ _ _ _ _ _ h=>by cases h⟩
 | n+1=>by
  obtain ⟨ih1,ih2⟩:=DW hS n;have hC:∀ g args h,AA fun i=>(bif i then (S.aW (n+1)).1 else (S.aW n).1) g args h:=fun g args h v hv=>ih1 g args h v hv
  have hL:∀ (E:AE) (m0:Nat) (l:List Nat) (m:Nat) (x:Code) (K:Bool->AX->ASt->R) (Z:ASt),(∀ e Z,AA fun i=>K i e Z)->AA fun i=>(bif i then (S.aW (n+1)).2 else (S.aW n).2) E m0 l m x (K i) Z :=fun E m0 l m x K Z hK v hv=>ih2 E m0 l m x _ _ Z v (fun e Z v h=>hK e Z v h) hv
  refine ⟨fun g args h v hv => ?_,fun E m0 l m x K K' Z v hK hv => ?_⟩
  .exact Yv Gp (Yw Gp hS hC hL) v hv
  .exact V3 Gp hS hC hL (K:=fun i=>bif i then K' else K) (fun e Z v h=>hK e Z v h) v hv
theorem b65 (hS:S.OK) {E:AE} {m0:Nat} {l:List Nat} {m:Nat} {x:Code} {K:AX->ASt->R} {Z:ASt} {v:PV×aF} {n k:Nat} (hk:n<=k) (hv:(S.aW n).2 E m0 l m x K Z=some v):(S.aW k).2 E m0 l m x K Z=some v:=by
 induction hk with
 | refl=>exact hv
 | step _ ih=>exact (DW hS _).2 _ _ _ _ _ _ _ _ _ (fun _ _ _ h=>h) ih
theorem aGA (hS:S.OK) (n:Nat) {E:AE} {m0:Nat} {l:List Nat} {m:Nat} {x:Code} {K K':AX->ASt->R} {Z:ASt} {v:PV×aF} (hK:∀ e Z v,K e Z=some v->K' e Z=some v) (hv:(S.aW n).2 E m0 l m x K Z=some v):(S.aW n).2 E m0 l m x K' Z=some v :=Yx Gp hS n E m0 l m x (fun i=>bif i then K' else K) Z (fun e Z v h=>hK e Z v h) v hv
theorem a04 {f:Nat->R} (hm:∀ n v,f n=some v->f (n+1)=some v) {v:PV×aF}:lim f=some v↔∃ n,f n=some v:=by
 have hle:∀ {n k:Nat} {v:PV×aF},n<=k->f n=some v->f k=some v:=fun hk hv=>by
  induction hk with
  | refl=>exact hv
  | step _ ih=>exact hm _ _ ih
 have hu:∀ {n k:Nat} {v u:PV×aF},f n=some v->f k=some u->v=u:=fun {n k v u} h1 h2=>by have a:=hle (X9 n k) h1;have b:=hle (Nat.le_max_right n k) h2;rw[a] at b; injection b
 unfold lim;constructor
 .intro h;split at h
  .rename_i hx;injection h with h
   exact ⟨_,by rw[<- h]; exact N9 (N9 hx)⟩
  .cases h
 .intro ⟨n,hn⟩;have hx:∃ n v,f n=some v:=⟨n,v,hn⟩;rw[dif_pos hx];exact congrArg some (hu (N9 (N9 hx)) hn)
structure JH (F:Option Nat->R):Prop where
 mono:∀ n v,F (some n)=some v->F (some (n+1))=some v
 lim:∀ v,F none=some v↔∃ n,F (some n)=some v
theorem JH.le {F:Option Nat->R} (h:JH F) {n k:Nat} {v:PV×aF} (hk:n<=k) (hv:F (some n)=some v):F (some k)=some v:=by
 induction hk with
 | refl=>exact hv
 | step _ ih=>exact h.mono _ _ ih
theorem Jm:GL JH:=⟨fun c=>⟨fun _ _ h=>h,fun v=>⟨fun h=>⟨0,h⟩,fun ⟨_,h⟩=>h⟩⟩,fun c k hc hk=>by
 refine ⟨fun n v h => ?_,fun v=>⟨fun h => ?_,fun ⟨n,h⟩ => ?_⟩⟩
 .cases hf:c (some n) with
  | none=>rw[hf] at h; cases h
  | some x =>obtain ⟨r,hh⟩:=x;rw[hf] at h;rw[hc.mono _ _ hf];exact (hk r hh).mono _ _ h
 .cases hf:c none with
  | none=>rw[hf] at h; cases h
  | some x =>obtain ⟨r,hh⟩:=x;rw[hf] at h;obtain ⟨n1,h1⟩:=(hc.lim _).1 hf;obtain ⟨n2,h2⟩:=((hk r hh).lim v).1 h;refine ⟨max n1 n2,?_⟩;rw[hc.le (X9 n1 n2) h1];exact (hk r hh).le (Nat.le_max_right n1 n2) h2
 .cases hf:c (some n) with
  | none=>rw[hf] at h; cases h
  | some x =>obtain ⟨r,hh⟩:=x;rw[hf] at h;rw[(hc.lim _).2 ⟨n,hf⟩];exact ((hk r hh).lim v).2 ⟨n,h⟩⟩
def SE.aNR (S:SE):Option Nat->Cal | none=>S.CC | some n=>(S.aW n).1
def SE.b66 (S:SE):Option Nat->uw | none=>S.LL | some n=>(S.aW n).2
theorem Nz (hS:S.OK) (g:FuncId) (args:List PV) (h:aF):JH fun i=>S.aNR i g args h :=⟨fun n v hv=>(DW hS n).1 g args h v hv,fun _=>a04 fun n v hv=>(DW hS n).1 g args h v hv⟩
theorem a0B (hS:S.OK) (E:AE) (m0:Nat) (l:List Nat) (m:Nat) (x:Code) (K:Option Nat->AX->ASt->R) (Z:ASt) (hK:∀ e Z,JH fun i=>K i e Z):JH fun i=>S.b66 i E m0 l m x (K i) Z:=by
 have hl:∀ v,S.LL E m0 l m x (K none) Z=some v↔∃ n,(S.aW n).2 E m0 l m x (K none) Z=some v:=fun v=>a04 fun n v hv=>(DW hS n).2 _ _ _ _ _ _ _ _ _ (fun _ _ _ h=>h) hv
 refine ⟨fun n v hv=>(DW hS n).2 _ _ _ _ _ _ _ _ _ (fun e Z v h=>(hK e Z).mono n v h) hv,fun v=>⟨fun h => ?_,fun ⟨n,h⟩ => ?_⟩⟩
 .obtain ⟨n,hn⟩:=(hl v).1 h;obtain ⟨k,hk⟩:=((Yx Jm hS n E m0 l m x K Z hK).lim v).1 hn;refine ⟨max n k,?_⟩;exact b65 hS (X9 n k) (aGA hS n (fun e Z v h=>(hK e Z).le (Nat.le_max_right n k) h) hk)
 .exact (hl v).2 ⟨n,aGA hS n (fun e Z v h=>((hK e Z).lim v).2 ⟨n,h⟩) h⟩
theorem JD (hS:S.OK) (g:FuncId) (args:List PV) (h:aF):S.CC g args h=D7 (S.C0 g args h) (S.run S.CC S.LL g args h):=by
 have hg:=Yv Jm (a:=S.C0 g args h) (Yw Jm hS (Nz hS) (a0B hS) (g:=g) (args:=args) (h:=h));refine Option.ext fun v => ?_
 have h1:S.CC g args h=some v↔∃ n,(S.aW n).1 g args h=some v:=(Nz hS g args h).lim v;have h2:D7 (S.C0 g args h) (S.run S.CC S.LL g args h)=some v↔∃ n,(S.aW (n+1)).1 g args h=some v:=hg.lim v;rw[h1,h2];exact ⟨fun ⟨n,hn⟩=>⟨n,(DW hS n).1 _ _ _ _ hn⟩,fun ⟨n,hn⟩=>⟨n+1,hn⟩⟩
theorem a5N (hS:S.OK) (E:AE) (m0:Nat) (l:List Nat) (m:Nat) (x:Code) (K:AX->ASt->R) (Z:ASt):S.LL E m0 l m x K Z=S.turn S.CC S.LL E m0 l m x K Z:=by
 have hg:=V3 Jm hS (Nz hS) (a0B hS) (E:=E) (m0:=m0) (l:=l) (m:=m) (x:=x) (K:=fun _=>K) (Z:=Z) fun e Z=>Jm.const _
 refine Option.ext fun v => ?_
 have h1:S.LL E m0 l m x K Z=some v↔∃ n,(S.aW n).2 E m0 l m x K Z=some v:=(a0B hS E m0 l m x (fun _=>K) Z fun e Z=>Jm.const _).lim v;have h2:S.turn S.CC S.LL E m0 l m x K Z=some v↔∃ n,(S.aW (n+1)).2 E m0 l m x K Z=some v:=hg.lim v;rw[h1,h2];exact ⟨fun ⟨n,hn⟩=>⟨n,(DW hS n).2 _ _ _ _ _ _ _ _ _ (fun _ _ _ h=>h) hn⟩,fun ⟨n,hn⟩=>⟨n+1,hn⟩⟩
theorem AC (hS:S.OK) {E:AE} {m0:Nat} {l:List Nat} {m:Nat} {x:Code} {K:AX->ASt->R} {Z:ASt} (hm:m0<=m) (hg:Ap l m Z=true) (hP:S.wp E=E) :
 S.LL E m0 l m x K Z=chk (DF l m Z) (bI (S.xe S.CC S.LL E m0) x (tK (fun Z'=>S.LL E m0 l m x K (Z'.gc l m)) K) (Z.gc l m)):=by
 rw[a5N hS]; unfold SE.turn; rw[decide_eq_true hm,hg,hP]; rfl
theorem pg (hS:S.OK) {g:FuncId} {args:List PV} {h:aF} (h0:S.C0 g args h=none):S.CC g args h=S.run S.CC S.LL g args h:=by rw[JD hS,h0]; rfl
theorem a1T {P:Program} {rs:List ResultVar} {ro:List (List Nat×Bool)} {m0:Nat} {fl:List Nat} {Z:ASt} {r:PV} {h':aF} (h:DU P rs ro m0 fl Z=some (r,h')):∃ r0,IR P rs m0 r0 h' Z/\uQ ro r0=r:=by
 unfold DU at h;split at h
 .rename_i q hq;obtain ⟨hpl,h⟩:=eu h;split at h
  .rename_i hb;injection h with h
   injection h with h1 h2
   subst h1;simp only[aY,gu] at hb;obtain ⟨b1,b2,b3⟩:=hb;have hlen:h'.length=Nat.max m0 (Ib q):=by rw[<- h2,kz]; omega
   refine ⟨q,⟨by rw[hlen]; exact X9 _ _,by rw[hlen]; exact h2,by rw[hlen]; exact b2,by rw[hlen,<- h2]; exact a6W hpl b3,?_⟩,rfl⟩;unfold aIM at hq;split at hq
   .exact hq
   .rename_i hne;split
    .rename_i x; exact absurd rfl (hne x)
    .exact hq
  .cases h
 .cases h
theorem aJ':∀ {l:List Oper} {a:List Oper} {o:Oper} {c:Call} {b:List Oper},WU l=some (a,o,c,b)->l=a ++ o::b/\o.op = .defer c
 | [],_,_,_,_,h=>by cases h
 | x::l,a,o,c,b,h=>by
  unfold WU at h;split at h
  .rename_i hx; cases h; exact ⟨rfl,hx⟩
  .split at h
   .rename_i a' o' c' b' hs;cases h;obtain ⟨h1,h2⟩:=aJ' hs;exact ⟨by rw[h1]; rfl,h2⟩
   .cases h
def NT (M:Mem) (B:aQ) (m:Nat) (g:FuncId) (ps:List PV) (d:Deferred):Prop:=∃ cap vals,d.target = .fn (.func g) cap/\d.args ++ cap=vals/\ag M (B.take m) ps vals.toList
section
variable {n:Nat} {out:Nat->Nat} {m m0:Nat} {M M':Mem} {B B':aQ} {Z Z':ASt} {t t':Array Value} {w w':World} {g:FuncId} {ps:List PV} {d:Deferred}
theorem NT.mono (h:NT M B m g ps d) (hG:bZ n out m M B Z t w M' B' Z' t' w'):NT M' B' m g ps d:=by
 obtain ⟨cap,vals,h1,h2,h3⟩:=h;refine ⟨cap,vals,h1,h2,h3.mono ⟨hG.mem,fun i c hi => ?_⟩⟩;rw[gY] at hi ⊢;split at hi
 .rename_i hlt; rw[aH hlt]; exact hG.pre i c hlt hi
 .cases hi
theorem bZ.lessM (h:bZ n out m M B Z t w M' B' Z' t' w') (hm:m0<=m):bZ n out m0 M B Z t w M' B' Z' t' w':=⟨h.inv,h.mem,fun i c hi e=>h.pre i c (NJ hi hm) e,h.fr,h.own⟩
end
def Pv (E:AE) (out:Nat->Nat) (m0:Nat) (M:Mem) (B:aQ) (Z:ASt) (t:Array Value) (w:World) (v:PV×aF) (K0:AX->ASt->R) (KD:JK) (e:Exit) (a':Act) (w':World):Prop :=∃ ax Z' M' B',e=ax.toExit/\bZ E.n out m0 M B Z t w M' B' Z' a'.tmps w'/\((K0 ax Z'=some v/\a'.defers = [])\/∃ m g ps d,m0<=m/\a'.defers = [d]/\NT M' B' m g ps d/\KD m g ps ax Z'=some v)
theorem b5T {E:AE} {out:Nat->Nat} {m0:Nat} {M M1:Mem} {B B1:aQ} {Z Z1:ASt} {t t1:Array Value} {w w1:World} {v:PV×aF} {K0:AX->ASt->R} {KD:JK} (h:bZ E.n out m0 M B Z t w M1 B1 Z1 t1 w1) {e:Exit} {a':Act} {w':World} (k:Pv E out m0 M1 B1 Z1 t1 w1 v K0 KD e a' w'):Pv E out m0 M B Z t w v K0 KD e a' w':=by obtain ⟨ax,Z',M',B',h1,h2,h3⟩:=k;exact ⟨ax,Z',M',B',h1,h.trans h2,h3⟩
theorem aEF {E:AE} {n:Nat} {out:Nat->Nat} {m0:Nat} {M:Mem} {B:aQ} {Z:ASt} {t:Array Value} {w:World} {y:Code} {k:ASt->R} {v:PV×aF} (hI:Inv n M B out Z t w) (h:qj E m0 y k Z=some v) :
 ∃ M2 B2 Z2,bZ n out m0 M B Z t w M2 B2 Z2 t w/\k Z2=some v:=by
 have hj:∀ {M1:Mem} {B1:aQ} {Z1:ASt},bZ n out m0 M B Z t w M1 B1 Z1 t w->Aw E m0 y k Z1=some v->∃ M2 B2 Z2,bZ n out m0 M B Z t w M2 B2 Z2 t w/\k Z2=some v:=fun {M1 B1 Z1} hG he=>by
  unfold Aw at he;cases hl:E.jt.lookup (zU y) with
  | none=>rw[hl] at he; exact ⟨M1,B1,Z1,hG,he⟩
  | some l =>
   rw[hl] at he;simp only at he;obtain ⟨hpl,he⟩:=eu he;split at he
   .rename_i hg;simp only[aY,gu] at hg;exact ⟨_,_,_,hG.trans (CZ hG.inv hg.1 (Yo hpl hg.2)),he⟩
   .cases he
 unfold qj at h;split at h
 .obtain ⟨ks,he⟩:=mM _ h;obtain ⟨M2,B2,hz⟩:=U9 (m0:=m0) ks hI;exact hj hz he
 .exact hj (bZ.refl hI) h
theorem Jh {C:Cal} {L:uw} {E:AE} {out:Nat->Nat} {m0:Nat} {v:PV×aF} (hm:E.P.follows .mixedOrders=true) (hS:S.OK) (hC:lU E.P C) (hL:∀ m,Ew (S.xe C L E m)):∀ (c:Code) {K0:AX->ASt->R} {KD:JK} {M:Mem} {B:aQ} {Z:ASt} {a:Act} {w:World},
 S.pK C L E m0 c K0 KD Z=some v->Inv E.n M B out Z a.tmps w->a.defers = []->c.wp E.P (Pv E out m0 M B Z a.tmps w v K0 KD) a w
 | .seq x y,K0,KD,M,B,Z,a,w,h,hI,hd0=>by
  simp only[SE.pK] at h;split at h
  .refine wp_seq (rV (Jh hm hS hC hL x h hI hd0) fun e a' w' hl => ?_);obtain ⟨ax,Z',M',B',rfl,hG,hl⟩:=hl;rcases hl with ⟨hq,hd⟩ | ⟨m,g,ps,d,hm0,hd,hD,hq⟩
   .cases ax with
    | normal =>
     obtain ⟨M2,B2,Z2,hj,hk⟩:=aEF hG.inv hq;refine rV (uN (m0:=m0) hm y hj.inv (sN (X:=S.xe C L E m0) hS.V hS.W hC (hL m0) y hk)) fun e a2 w2 hl2 => ?_
     obtain ⟨Nv,Z3,M3,B3,rfl,hq3,hd3,hG3⟩:=hl2;exact ⟨Nv,Z3,M3,B3,rfl,(hG.trans hj).trans hG3,.inl ⟨hq3,by rw[hd3,hd]⟩⟩
    | ret=>exact ⟨.ret,Z',M',B',rfl,hG,.inl ⟨hq,hd⟩⟩
    | exit i=>exact ⟨.exit i,Z',M',B',rfl,hG,.inl ⟨hq,hd⟩⟩
   .cases ax with
    | normal =>
     obtain ⟨M2,B2,Z2,hj,hk⟩:=aEF hG.inv hq;refine rV (uN (m0:=m) hm y hj.inv (sN (X:=S.xe C L E m) hS.V hS.W hC (hL m) y hk)) fun e a2 w2 hl2 => ?_
     obtain ⟨Nv,Z3,M3,B3,rfl,hq3,hd3,hG3⟩:=hl2;exact ⟨Nv,Z3,M3,B3,rfl,hG.trans ((hj.trans hG3).lessM hm0),.inr ⟨m,g,ps,d,hm0,by rw[hd3,hd],hD.mono (hj.trans hG3),hq3⟩⟩
    | ret=>exact ⟨.ret,Z',M',B',rfl,hG,.inr ⟨m,g,ps,d,hm0,hd,hD,hq⟩⟩
    | exit i=>exact ⟨.exit i,Z',M',B',rfl,hG,.inr ⟨m,g,ps,d,hm0,hd,hD,hq⟩⟩
  .refine wp_seq (rV (uN (m0:=m0) hm x hI (sN (X:=S.xe C L E m0) hS.V hS.W hC (hL m0) x h)) fun e a' w' hl => ?_);obtain ⟨ax,Z',M',B',rfl,hq,hd,hG⟩:=hl;cases ax with
   | normal=>exact rV (Jh hm hS hC hL y hq hG.inv (by rw[hd,hd0])) fun e a2 w2 hl2=>b5T hG hl2
   | ret=>exact ⟨.ret,Z',M',B',rfl,hG,.inl ⟨hq,by rw[hd,hd0]⟩⟩
   | exit i=>exact ⟨.exit i,Z',M',B',rfl,hG,.inl ⟨hq,by rw[hd,hd0]⟩⟩
 | .cond c x y,K0,KD,M,B,Z,a,w,h,hI,hd0=>by
  have hx:∀ (x:Code),(∀ {Z1:ASt},S.pK C L E m0 x K0 KD Z1=some v->Inv E.n M B out Z1 a.tmps w->x.wp E.P (Pv E out m0 M B Z1 a.tmps w v K0 KD) a w)->(match Au x with | true=>S.pK C L E m0 x K0 KD Z | false=>bI (S.xe C L E m0) x K0 Z)=some v->x.wp E.P (Pv E out m0 M B Z a.tmps w v K0 KD) a w:=fun x ih hh=>by
   cases hd:Au x with
   | true=>rw[hd] at hh; exact ih hh hI
   | false =>
    rw[hd] at hh;refine rV (uN (m0:=m0) hm x hI (sN (X:=S.xe C L E m0) hS.V hS.W hC (hL m0) x hh)) fun e a2 w2 hl2 => ?_
    obtain ⟨Nv,Z3,M3,B3,rfl,hq3,hd3,hG3⟩:=hl2;exact ⟨Nv,Z3,M3,B3,rfl,hG3,.inl ⟨hq3,by rw[hd3,hd0]⟩⟩
  simp only[SE.pK] at h;split at h
  .rename_i b hb;have he:=iZ.1 (hI.rd _ _ hb).1;split at h
   .rename_i d;cases b with
    | true =>simp only[aA,Vx hb] at h;exact wp_cond_split he (fun _=>hx x (fun k1 k2=>Jh hm hS hC hL x k1 k2 hd0) h) (fun e=>by cases e)
    | false =>simp only[aA,Vx hb] at h;exact wp_cond_split he (fun e=>by cases e) (fun _=>hx y (fun k1 k2=>Jh hm hS hC hL y k1 k2 hd0) h)
   .cases h
  .cases h
 | .block id x,K0,KD,M,B,Z,a,w,h,hI,hd0=>by
  simp only[SE.pK] at h;refine wp_block (rV (Jh hm hS hC hL x h hI hd0) fun e a' w' hl => ?_);obtain ⟨ax,Z',M',B',rfl,hG,hl⟩:=hl;cases ax with
  | normal=>exact ⟨.normal,Z',M',B',rfl,hG,hl⟩
  | ret=>exact ⟨.ret,Z',M',B',rfl,hG,hl⟩
  | exit i =>
   simp only[AX.toExit,Exit.inBlock];simp only[au] at hl;split
   .rename_i e; simp only[aH e] at hl; exact ⟨.normal,Z',M',B',rfl,hG,hl⟩
   .rename_i e; simp only[aI e] at hl; exact ⟨.exit i,Z',M',B',rfl,hG,hl⟩
 | .region id ops draw,K0,KD,M,B,Z,a,w,h,hI,hd0=>by
  simp only[SE.pK] at h;split at h
  .cases h
  .split at h
   .rename_i pre o c post hs;obtain ⟨hl,ho⟩:=aJ' hs;have hk:=V5 (E:=E) hI;refine wp_region_list ?_;rw[hl];refine Xn (E:=E) pre hk.inv (OL (X:=S.xe C L E m0) hS.V hS.W hC pre h) fun Z1 M1 B1 a1 w1 hq hG hd => ?_
    unfold TR at hq;split at hq
    .rename_i f hg hdst aDK;split at hq
     .rename_i g first caps az hf has
      split at hq
      .rename_i hbl;obtain ⟨f',c',e1,r1,r2⟩:=xG.1 (hG.inv.rd _ _ hf).1;obtain ⟨ra,_⟩:=IP hG.inv.rd has;unfold wpList;rw[aH (by simp[Region.wanted,hg])];refine .inl ?_;unfold Oper.wp;have hrun:(execOp a1.eval o).run E.P w1 = .ok (.defer { target := .fn (.func g) c',args:=f' ++ c.args.map a1.eval }) w1:=by obtain ⟨callee,GY,cts⟩:=c;simp only at aDK;subst aDK;unfold execOp;rw[ho];simp only[resolve,e1,Deferred.ofValue,jO,zu,nU]
       rw[hrun,Oper.upon_defer];have hput:∀ (a:Act) (u:Value),a.put o.dst u=a:=fun a u=>by rw[hdst]; rfl
       rw[hput];refine Nu (E:=E) post (a := { a1 with defers := { target := .fn (.func g) c',args:=f' ++ c.args.map a1.eval }::a1.defers }) hG.inv (OL (X:=S.xe C L E m0) hS.V hS.W hC post hq) fun Z2 M2 B2 a2 w2 hq2 hG2 hd2 => ?_
       refine ⟨.normal,Z2,M2,B2,rfl,((hk.trans hG).trans hG2).c,.inr ⟨_,g,_,{ target := .fn (.func g) c',args:=f' ++ c.args.map a1.eval },X9 _ _,by rw[hd2]; simp only[hd,hd0],NT.mono (m:=_) ?_ hG2.c,hq2⟩⟩;refine ⟨c',_,rfl,rfl,?_⟩;have hr:ag M1 B1 (first ++ az ++ caps) (f' ++ c.args.map a1.eval ++ c').toList:=by simpa using xH (xH r1 ra) r2
       exact hr.blw hbl
      .cases hq
     .cases hq
    .cases hq
   .cases h
 | .skip,_,_,_,_,_,_,_,h,_,_=>by cases h
 | .label _,_,_,_,_,_,_,_,h,_,_=>by cases h
 | .exit _,_,_,_,_,_,_,_,h,_,_=>by cases h
 | .ret,_,_,_,_,_,_,_,h,_,_=>by cases h
 | .scope _,_,_,_,_,_,_,_,h,_,_=>by cases h
 | .loop _,_,_,_,_,_,_,_,h,_,_=>by cases h
 | .rangeFunc _ _ _ _,_,_,_,_,_,_,_,h,_,_=>by cases h
 | .goto _,_,_,_,_,_,_,_,h,_,_=>by cases h
 | .refuse _,_,_,_,_,_,_,_,h,_,_=>by cases h
theorem Ev.b7E {C:Cal} {L:uw} {g:FuncId} {fn:Func} {c:Code} (hm:S.P.follows .mixedOrders=true) (hS:S.OK) (hC:lU S.P C) (hCD:∀ g args h r h',S.CD C g args h=some (r,h')->oq S.P (CD S.P) g args h r h') (hL:∀ m,Ew (S.xe C L (S.ae g fn.ntmps) m))
 (hf:S.P.funcs[g]? = some fn) (hb:fn.body=some c) (hn:(fn.name != "runtime.NumGoroutine")=true) {args:List PV} {h:aF} {r:PV} {h':aF} (hlen:args.length<=fn.ntmps)
 (hA:S.pK C L (S.ae g fn.ntmps) h.length c (DT S.P fn.results.toList (S.gU g).ro h.length (Ah args)) (S.QZ C L (S.ae g fn.ntmps) fn.results.toList (S.gU g).ro h.length (Ah args)) ⟨jr 0 args,h⟩=some (r,h')):Ev S.P g args h r h':=by
 refine ⟨by simp[callable,hf,hb]; simpa using hn,fun out M B w vals hmem hheap hcnt hnew hv => ?_⟩;have hI:=aE4 (n:=fn.ntmps) hlen hmem hheap hcnt hnew hv;refine calls_of_wp_defers hf hb (rV (Jh (E:=S.ae g fn.ntmps) (out:=out) (a := { tmps:=vals ++ Array.replicate (fn.ntmps-vals.size) undef,defers := [] }) hm hS hC hL c hA hI rfl) fun e a' w' hl => ?_);obtain ⟨ax,Z',M',B',rfl,hG,hl⟩:=hl;have fin:∀ {M2 B2 Z2 w2},bZ fn.ntmps out h.length M B ⟨jr 0 args,h⟩ (vals ++ Array.replicate (fn.ntmps-vals.size) undef) w M2 B2 Z2 a'.tmps w2->DU S.P fn.results.toList (S.gU g).ro h.length (Ah args) Z2=some (r,h')->∃ v,(results fn a'.tmps).run S.P w2 = .ok v w2/\∃ v' M' B',Ending.returned v = .returned v'/\Post h B out M w r h' v' M' B' w2:=fun {M2 B2 Z2 w2} hG2 hk=>by obtain ⟨r0,hret,rfl⟩:=a1T hk;obtain ⟨v,hrun,M'',B'',hpost⟩:=a8V (ro:=(S.gU g).ro) hheap hG2 hret;exact ⟨v,hrun,v,M'',B'',rfl,hpost⟩
 rcases hl with ⟨hk,hd⟩ | ⟨m,g2,ps,d,hm0,hd,hD,hk⟩
 .have key:DU S.P fn.results.toList (S.gU g).ro h.length (Ah args) Z'=some (r,h')->Leaves S.P fn a'.tmps (fun e w'=>∃ v M' B',e = .returned v/\Post h B out M w r h' v M' B' w') a'.defers .returning w':=fun hk=>by rw[hd]; exact fin hG hk
  cases ax with
  | normal=>exact key hk
  | ret=>exact key hk
  | exit i=>cases hk
 .have key:wS (S.xe (S.CD C) L (S.ae g fn.ntmps) h.length) none g2 ps (EK Z'.h 3 (uI [] (PV.uV ps))) (DU S.P fn.results.toList (S.gU g).ro h.length (Ah args)) Z'=some (r,h')->Leaves S.P fn a'.tmps (fun e w'=>∃ v M' B',e = .returned v/\Post h B out M w r h' v M' B' w') a'.defers .returning w':=fun hk=>by
   obtain ⟨r1,h1,hE,hp⟩:=a8I (X:=S.xe (S.CD C) L (S.ae g fn.ntmps) h.length) (a7I S.P) hS.W hCD (full':=ps) (fun _ _ _ x=>x) hk;unfold gz at hp;split at hp
   .rename_i Z2 hput;obtain ⟨cap,vs,htar,b31,Hl⟩:=hD;have Hl:ag M' B' ps vs.toList:=Hl.mono ⟨fun _ _ _ x=>x,fun i c hi=>by
     rw[gY] at hi;split at hi
     .exact hi
     .cases hi⟩
    have hcall:=hE.1;unfold callable at hcall;split at hcall
    .rename_i U6 hfn2;simp only[aY,bne_iff_ne,ne_eq] at hcall;have hinv:(invoke d.target d.args).run S.P w' = .ok (.enter g2 vs) w':=by
      rw[htar];have b2L:S.P.funcs[g2]? = some U6:=hfn2;simp only[invoke,callFunc,run_program,jO,zu,nU];have hnb:U6.body.isNone=false:=by cases hb:U6.body<;>simp[hb] at hcall ⊢
      have hnn:(U6.name == "runtime.NumGoroutine")=false:=by simpa using hcall.1
      rw[b31,b2L]; simp only[hnn,hnb,rJ,qV,zu]
     rw[hd];refine ⟨by simp,_,cap,g2,vs,htar,hinv,?_⟩;refine CallsD.mono (a7B (E:=S.ae g fn.ntmps) (a7I S.P) hG.inv Hl hE (dst:=none) hput (a:=a') (R:=fun e w2=>∃ v,e = .returned v/\∃ v2,(results fn a'.tmps).run S.P w2 = .ok v2 w2/\∃ v' M' B',Ending.returned v2 = .returned v'/\Post h B out M w r h' v' M' B' w2) fun v M2 B2 w2 hG2 => ?_) fun e u' w2 hh => ?_
     .exact ⟨v,rfl,fin (hG.trans hG2.c) hp⟩
     .obtain ⟨rfl,v,rfl,hh⟩:=hh;exact hh
    .cases hcall
   .exact hp.elim
  cases ax with
  | normal=>exact key hk
  | ret=>exact key hk
  | exit i=>cases hk
theorem a2M (hm:S.P.follows .mixedOrders=true) (hS:S.OK) (h0:lU S.P S.C0):∀ n,(lU S.P (S.aW n).1/\∀ g args h r h',S.CD (S.aW n).1 g args h=some (r,h')->oq S.P (CD S.P) g args h r h') /\
 ∀ E m0 l m x (K:AX->ASt->R) Z v,S.wp E=E->(S.aW n).2 E m0 l m x K (Z.gc l m)=some v->IV m0 (cO E m0 x) (fun e Z'=>K e Z'=some v) n Z
 | 0=>by
  refine ⟨⟨h0,fun g args h r h' hv => ?_⟩,fun _ _ _ _ _ _ _ _ _ h=>by cases h⟩;unfold SE.CD at hv;split at hv
  .cases hv
  .rename_i hc;split at hv
   .cases hv
   .rw[show (S.aW 0).1 g args h=S.C0 g args h from rfl,hc] at hv; cases hv
 | n+1=>by
  obtain ⟨⟨ih1,ihD⟩,ih2⟩:=a2M hm hS h0 n;have ZH:∀ E m0,S.wp E=E->Ew (S.xe (S.aW n).1 (S.aW n).2 E m0):=fun E m0 hE l m x K Z v hv=>by refine ⟨n,?_⟩;exact ih2 E m0 l m x K Z v hE hv
  have body:∀ {cp:CP} (g:FuncId) (args:List PV) (h:aF) (r:PV) (h':aF),(∀ (fn:Func) (c:Code),S.P.funcs[g]? = some fn->fn.body=some c->∀ (vals:Array Value) (w:World) (R:Ending->World->Prop),c.wp S.P (bodyPost S.P fn R) { tmps:=vals ++ Array.replicate (fn.ntmps-vals.size) undef,defers := [] } w->cp g vals w R) ->
   (S.gU g).df=false->S.run (S.aW n).1 (S.aW n).2 g args h=some (r,h')->oq S.P cp g args h r h':=fun {cp} g args h r h' hcp hdf hv=>by
   unfold SE.run at hv;split at hv
   .rename_i fn hf;split at hv
    .rename_i c hb;split at hv
     .rename_i hd;rw[hdf] at hv;simp only[aY,gu] at hd;have key:=sN (X:=S.xe (S.aW n).1 (S.aW n).2 (S.ae g fn.ntmps) h.length) hS.V hS.W ih1 (ZH _ _ rfl) c hv;refine oq.a0M (cp:=cp) (fun k=>hcp _ _ hf hb _ _ _ k) hm hf hb hd.2 (S.gU g).vars (S.gU g).mv (S.gU g).mu (S.gU g).sz (S.gU g).jt (S.gU g).lt (S.gU g).pt (S.gU g).fz (S.gU g).ro (S.gU g).ft (S.gU g).sy (S.gU g).ln hd.1 (uM c (fun e Z' he => ?_) key);cases e with
      | normal=>exact ⟨trivial,a1T he⟩
      | ret=>exact ⟨trivial,a1T he⟩
      | exit i=>cases he
     .cases hv
    .cases hv
   .cases hv
  refine ⟨⟨fun g args h r h' hv => ?_,fun g args h r h' hv => ?_⟩,fun E m0 l m x K Z v hE hv => ?_⟩
  .have hv:D7 (S.C0 g args h) (S.run (S.aW n).1 (S.aW n).2 g args h)=some (r,h'):=hv;cases hc:S.C0 g args h with
   | some x=>rw[hc] at hv; injection hv with hv; subst hv; exact h0 _ _ _ _ _ hc
   | none =>
    rw[hc] at hv;have hv:S.run (S.aW n).1 (S.aW n).2 g args h=some (r,h'):=hv;cases hdf:(S.gU g).df with
    | false=>exact body (cp:=Calls S.P) g args h r h' (fun _ _ hf hb _ _ _ k=>calls_of_wp hf hb k) hdf hv
    | true =>
     unfold SE.run at hv;split at hv
     .rename_i fn hf;split at hv
      .rename_i c hb;split at hv
       .rename_i hd;rw[hdf] at hv;simp only[aY,gu] at hd;exact Ev.b7E hm hS ih1 ihD (fun m=>ZH _ _ rfl) hf hb hd.2 hd.1 hv
       .cases hv
      .cases hv
     .cases hv
  .unfold SE.CD at hv;split at hv
   .cases hv
   .rename_i hc;split at hv
    .cases hv
    .rename_i hdf;have hv:D7 (S.C0 g args h) (S.run (S.aW n).1 (S.aW n).2 g args h)=some (r,h'):=hv;rw[hc] at hv;exact body (cp:=CD S.P) g args h r h' (fun _ _ hf hb _ _ _ k=>callsD_of_wp hf hb k) hdf hv
  .have hv:S.turn (S.aW n).1 (S.aW n).2 E m0 l m x K (Z.gc l m)=some v:=hv;rw[bDW] at hv;unfold SE.turn at hv;obtain ⟨hpl,hv⟩:=eu hv;split at hv
   .rename_i hc;simp only[aY,gu] at hc;rw[hE] at hv;refine ⟨l,m,hc.1,Yo hpl hc.2,uM x (fun e Z' he => ?_) (sN (X:=S.xe (S.aW n).1 (S.aW n).2 E m0) hS.V hS.W (by rw[<- hE]; exact ih1) (ZH _ _ hE) x hv)⟩;cases e with
    | normal=>exact ih2 E m0 l m x K Z' v hE he
    | ret=>exact he
    | exit i=>exact he
   .cases hv
theorem a4Y (hS:S.OK) (n:Nat) {g:FuncId} {args:List PV} {h:aF} {v:PV×aF} (e:(S.aW n).1 g args h=some v):S.CC g args h=some v:=((Nz hS g args h).lim v).2 ⟨n,e⟩
theorem JE (hm:S.P.follows .mixedOrders=true) (hS:S.OK) (h0:lU S.P S.C0):lU S.P S.CC:=fun g args h r h' hv=>by obtain ⟨n,hn⟩:=((Nz hS g args h).lim _).1 hv;exact (a2M hm hS h0 n).1.1 g args h r h' hn
end
def vI (k:IntKind) (p:PV) (K:Int->R):R:=match p with | .int k' n=>(match decide (k'=k) with | true=>K n | false=>none) | _=>none
def vB (p:PV) (K:Bool->R):R:=match p with | .bool b=>K b | _=>none
def vS (p:PV) (K:ByteArray->R):R:=match p with | .str b=>K b | _=>none
def vL (o:Bool) (z:Nat) (p:PV) (K:List PV->R):R:=match p with | .sl o' z' es=>(match o'==o&&Nat.beq z' z with | true=>K es | false=>none) | _=>none
def w0 (p:PV) (K:R):R:=match p with | .tuple []=>K | _=>none
@[simp] theorem yI (k : IntKind) (n : Int) (K : Int -> R) : vI k (.int k n) K = K n := by simp [vI]
@[simp] theorem vw (b : Bool) (K : Bool -> R) : vB (.bool b) K = K b := rfl
@[simp] theorem iO (b : ByteArray) (K : ByteArray -> R) : vS (.str b) K = K b := rfl
@[simp] theorem Wn (o : Bool) (z : Nat) (es : List PV) (K : List PV -> R) : vL o z (.sl o z es) K = K es := by simp [vL]
@[simp] theorem bIJ (K : R) : w0 (.tuple []) K = K := rfl
theorem oZ (k:IntKind) (p:PV):(∀ K:PV->R,vI k p (fun n=>K (.int k n))=K p)\/(∀ K:PV->R,vI k p (fun n=>K (.int k n))=none):=by
 unfold vI; split
 .split
  .rename_i h; have h:=jP h; subst h; exact .inl fun _=>rfl
  .exact .inr fun _=>rfl
 .exact .inr fun _=>rfl
theorem FY (p:PV):(∀ K:PV->R,vB p (fun n=>K (.bool n))=K p)\/(∀ K:PV->R,vB p (fun n=>K (.bool n))=none):=by
 unfold vB; split
 .exact .inl fun _=>rfl
 .exact .inr fun _=>rfl
theorem Qv (p:PV):(∀ K:PV->R,vS p (fun n=>K (.str n))=K p)\/(∀ K:PV->R,vS p (fun n=>K (.str n))=none):=by
 unfold vS; split
 .exact .inl fun _=>rfl
 .exact .inr fun _=>rfl
theorem yJ (o:Bool) (z:Nat) (p:PV):(∀ K:PV->R,vL o z p (fun n=>K (.sl o z n))=K p)\/(∀ K:PV->R,vL o z p (fun n=>K (.sl o z n))=none):=by
 unfold vL; split
 .split
  .rename_i h;simp only[aY,kF] at h;have h2:=kE h.2;obtain ⟨rfl,_⟩:=h;subst h2;exact .inl fun _=>rfl
  .exact .inr fun _=>rfl
 .exact .inr fun _=>rfl
theorem bEV (p:PV) (h:aF):(∀ K:PV->aF->R,w0 p (K (.tuple []) h)=K p h)\/(∀ K:PV->aF->R,w0 p (K (.tuple []) h)=none):=by
 unfold w0; split
 .exact .inl fun _=>rfl
 .exact .inr fun _=>rfl
theorem xA {f:(PV->R)->R} {p:PV} (hf:(∀ K:PV->R,f K=K p)\/(∀ K:PV->R,f K=none)) (h:aF):(∀ K:PV->aF->R,f (fun q=>K q h)=K p h)\/(∀ K:PV->aF->R,f (fun q=>K q h)=none):=by
 rcases hf with e | e
 .exact .inl fun K=>e _
 .exact .inr fun K=>e _
theorem jL {b:Bool} {f g:(PV->R)->R} {p:PV} (hf:(∀ K:PV->R,f K=K p)\/(∀ K:PV->R,f K=none)) (hg:(∀ K:PV->R,g K=K p)\/(∀ K:PV->R,g K=none)) :
 (∀ K:PV->R,aA b (f K) (g K)=K p)\/(∀ K:PV->R,aA b (f K) (g K)=none):=by
 cases b
 .exact hg
 .exact hf
theorem pU {b:Bool} {f g:(PV->aF->R)->R} {p:PV} {h:aF} (hf:(∀ K:PV->aF->R,f K=K p h)\/(∀ K:PV->aF->R,f K=none)) (hg:(∀ K:PV->aF->R,g K=K p h)\/(∀ K:PV->aF->R,g K=none)) :
 (∀ K:PV->aF->R,aA b (f K) (g K)=K p h)\/(∀ K:PV->aF->R,aA b (f K) (g K)=none):=by
 cases b
 .exact hg
 .exact hf
noncomputable def nX (f:Func):Code:=match f.body with | some c=>c | none => .skip
def Code.sub:List Bool->Code->Code
 | [],c=>c
 | b::p,.seq x y=>match b with | true=>Code.sub p y | false=>Code.sub p x
 | b::p,.cond _ x y=>match b with | true=>Code.sub p y | false=>Code.sub p x
 | b::p,.rangeFunc _ _ x y=>match b with | true=>Code.sub p y | false=>Code.sub p x
 | _::p,.block _ x=>Code.sub p x
 | _::p,.scope x=>Code.sub p x
 | _::p,.loop x=>Code.sub p x
 | _,c=>c
@[simp] theorem aG (A B : R) : aA true A B = A := rfl
@[simp] theorem aC (A B : R) : aA false A B = B := rfl
theorem JW (b:Bool) (A B:R):aA b A B=if b=true then A else B:=by cases b<;>rfl
theorem ah {b:Bool} {A:R} (h:b=true):chk b A=A:=by subst h; rfl
theorem jo {es:List PV} {n:Int} {K:PV->R} {e:PV} (h0:0<=n) (h:es[n.toNat]? = some e):dH es n K=K e:=by unfold dH; rw[aH h0,h]
theorem AY {s:ByteArray} {n:Int} {K:Int->R} {b:UInt8} (h0:0<=n) (h:s[n.toNat]? = some b):ry s n K=K b.toNat:=by unfold ry; rw[aH h0,h]
theorem mF {C:Cal} {g:FuncId} {args:List PV} {K:PV->R} {r:PV} (h:C g args []=some (r,[])):iI C g args K=K r:=by unfold iI; rw[h]
theorem a0I {es:List PV} {K:Bool->R} {v:PV×aF} (h1:K false=some v) (h2:es = []->K true=some v):F5 es K=some v:=by
 unfold F5;rw[h1];obtain ⟨r,h⟩:=v;cases es with
 | nil=>simp[h2 rfl,aPO]
 | cons a l=>rfl
section
variable {E:AE} {ops:Array Oper} {K:ASt->Prop}
end
end Go.Proofs.YtcdceiloganlnaaGreatDoor
namespace Go.Proofs.YtcdceiloganlnaaGreatDoor
open Go.RowKit Go.ChangeShapes Go.WideShapes Go.ChangeAt
def MR (w:World) (b o:Nat):Option Value:=match w.cell? ⟨b,o,none⟩ with | some v=>if v.oneCell' then some v else none | none=>none
theorem Qx {w:World} {b o:Nat} {v:Value}:MR w b o=some v↔w.cell? ⟨b,o,none⟩=some v/\v.oneCell'=true:=by
 unfold MR;cases h:w.cell? ⟨b,o,none⟩ with
 | none=>simp
 | some u =>
  simp only;by_cases hu:u.oneCell'=true
  .rw[aH hu];exact ⟨fun e=>by injection e with e; subst e; exact ⟨rfl,hu⟩,fun e=>by rw[e.1]⟩
  .rw[aI hu];exact ⟨fun e=>(by cases e),fun ⟨e1,e2⟩=>by injection e1 with e1; subst e1; exact absurd e2 hu⟩
def GW (w:World):Prop:=∃ m,∀ b o v,yQ m b o=some v->MR w b o=some v
def whole (w:World) (h:GW w):Mem:=⟨Classical.choose h,MR w,N9 h⟩
theorem a4H {w:World} {hw:GW w} {b o:Nat} {v:Value}:whole w hw b o=some v↔w.cell? ⟨b,o,none⟩=some v/\v.oneCell'=true:=Qx
theorem bFH (w:World) (hw:GW w):sV (whole w hw) w:=fun _ _ _ h=>a4H.1 h
def news (M:Mem) (n:Nat) (w:World):Mem:=xx M.m fun b o=>if n<=b then MR w b o else M b o
theorem Vj {M:Mem} {w:World} (hm:sV M w) (w':World) (b o:Nat):news M w.heap.size w' b o=if w.heap.size<=b then MR w' b o else M b o:=by refine zM (fun b o v e => ?_) b o;have:=rQ _ _ (hm b o v (M.g _ _ _ e)).1;simp only at this;rw[aI (by omega)]; exact M.g _ _ _ e
theorem b6Z {M:Mem} {w:World} (hm:sV M w) {w':World} {b o:Nat} {v:Value} (hb:w.heap.size<=b) (h:w'.cell? ⟨b,o,none⟩=some v) (h1:v.oneCell'=true):news M w.heap.size w' b o=some v:=by rw[Vj hm,aH hb]; exact Qx.2 ⟨h,h1⟩
theorem Ev.top {P:Program} {g:FuncId} {args:List PV} {r:PV} {w:World} {hw:GW w} {vals:Array Value} (h:Ev P g args [] r []) (ha:ag (whole w hw) [] args vals.toList) :
 Calls P g vals w fun e w'=>∃ v M',e = .returned v/\Rep M' [] r v/\sV M' w'/\Below w.heap.size w w':=by
 have h0:∀ w b,aP w [] [] b=0:=fun w b=>by simp[aP]
 refine (h.2 (fun _=>0) (whole w hw) [] w vals (bFH w hw) ⟨rfl,fun i cs hi=>by simp at hi⟩ (fun b=>by rw[h0]; omega) (fun b _=>by rw[h0]) ha).mono fun e w' he => ?_
 obtain ⟨v,M',B',rfl,hP⟩:=he;have hB':B' = []:=iU (by have:=hP.heap.1; simpa using this.symm);subst hB';exact ⟨v,M',rfl,hP.rep,hP.mem,hP.fr.os,hP.fr.tape,hP.fr.output,hP.fr.size,fun k hk=>(hP.fr.blk k hk (h0 w k)).1⟩
theorem Ev.b7D {P:Program} {g:FuncId} {args:List PV} {r:PV} (hc:callable P g=true) (ho:r.own=false) (_:PV.flats args=true)
 (h:∀ (M:Mem) (w:World) (vals:Array Value),sV M w->ag M [] args vals.toList->Calls P g vals w fun e w'=>∃ v,e = .returned v/\Rep (news M w.heap.size w') [] r v/\Below w.heap.size w w'):Ev P g args [] r []:=by
 refine ⟨hc,fun out M B w vals hmem hheap hcnt hnew hv => ?_⟩;have hB:B = []:=iU (by have:=hheap.1; simpa using this.symm);subst hB;have h0:∀ w b,aP w [] [] b=0:=fun w b=>by simp[aP]
 refine (h M w vals hmem hv).mono fun e w' ⟨v,he,hr,bel⟩ => ?_
 have hlt:∀ b o v,M b o=some v->b<w.heap.size:=fun b o v h=>rQ _ _ (hmem b o v h).1
 refine ⟨v,news M w.heap.size w',[],he,fun b o v h => ?_,⟨fun b o v h => ?_,fun _ _ h=>h⟩,⟨bel.os,bel.tape,bel.output,bel.size,fun b hb _=>⟨bel.block b hb,fun o=>by rw[Vj hmem,aI (by omega)]⟩⟩,⟨rfl,fun i cs hi=>by simp at hi⟩,hr,dn ho,fun b _=>by rw[bu ho,h0]; omega,fun b => ?_,fun b hb => ?_⟩
 .rw[Vj hmem] at h;split at h
  .exact Qx.1 h
  .have:=hmem b o v h;exact ⟨by rw[G9 (w:=w) (bel.block b (hlt b o v h))]; exact this.1,this.2⟩
 .rw[Vj hmem,aI (by have:=hlt b o v h; omega)]; exact h
 .rw[bu ho,h0]; have:=hcnt b; rw[h0] at this; omega
 .rw[bu ho,h0]; have:=hnew b (iC bel.size hb); rw[h0] at this; omega
def AP (P:Program) (t:TypeId):Bool:=match P.underlying t with | some (.struct _) | some (.array ..)=>true | _=>false
def sJ (P:Program) (t:TypeId) (qs:List PV):PV:=if AP P t then .agg qs else qs.headD .nilp
def parts (P:Program) (t:TypeId):List (Nat×TypeId):=match P.underlying t with
 | some (.struct fs)=>fs.toList.map fun f=>(f.offset,f.type)
 | some (.array n e)=>(List.range n).map fun i=>(i*P.cellsOf e,e)
 | _ => []
def Bz (P:Program):Nat->TypeId->List PV->Prop
 | 0,_,_=>False
 | fuel+1,t,ps=>match P.underlying t with
  | some .bool=>∃ b,ps = [.bool b]
  | some (.int k)=>∃ n,ps = [.int k n]/\(Lit.int k n).wf=true
  | some .string=>∃ s:ByteArray,ps = [.str s]/\s.size<=reachBytes
  | some (.slice e)=>∃ es:List PV,ps = [.sl false (P.cellsOf e) es]/\es.length*P.bytesOf e<=reachBytes/\∀ p,p∈es->∃ qs,Bz P fuel e qs/\p=sJ P e qs
  | some (.struct _) | some (.array ..)=>ps.length=P.cellsOf t/\∀ x,x∈parts P t->Bz P fuel x.2 ((ps.drop x.1).take (P.cellsOf x.2))
  | _=>False
def Dc (P:Program) (total:Nat):Nat->List (Nat×TypeId)->Bool
 | off,[]=>off==total
 | off,x::l=>x.1==off&&Dc P total (off+P.cellsOf x.2) l
def Y4 (P:Program) (l:List TypeId):Bool:=l.all fun t=>match P.underlying t with
 | some .bool=>P.cellsOf t==1
 | some (.int _)=>P.cellsOf t==1
 | some .string=>P.cellsOf t==1
 | some (.slice e)=>l.contains e&&decide (0<P.cellsOf e)&&P.cellsOf t==1
 | some (.struct _)=>(parts P t).all (fun x=>l.contains x.2)&&Dc P (P.cellsOf t) 0 (parts P t)
 | some (.array ..)=>(parts P t).all (fun x=>l.contains x.2)&&Dc P (P.cellsOf t) 0 (parts P t)
 | _=>false
theorem aIF {M:Mem} {B:aQ}:∀ {ps qs:List PV} {us vs:List Value},ag M B ps us->ag M B qs vs->ag M B (ps ++ qs) (us ++ vs)
 | [],qs,us,vs,h,k=>by rw[dC] at h; subst h; simpa using k
 | p::ps,qs,us,vs,h,k=>by obtain ⟨u,qN,rfl,h1,h2⟩:=bY.1 h;exact bY.2 ⟨u,qN ++ vs,rfl,h1,aIF h2 k⟩
theorem aKO {P:Program} {total:Nat}:∀ {l:List (Nat×TypeId)} {off:Nat},Dc P total off l=true->off<=total/\∀ x,x∈l->off<=x.1
 | [],off,h=>by simp[Dc] at h; exact ⟨by omega,by simp⟩
 | x::l,off,h=>by
  simp only[Dc,aY,kF] at h;obtain ⟨h1,h2⟩:=aKO h.2;exact ⟨by omega,fun y hy=>by
   rcases fQ.1 hy with rfl | hy
   .omega
   .have:=h2 y hy; omega⟩
theorem a3A {P:Program} {M:Mem} {S:TypeId->List PV->Prop} {cs:List Value}:∀ {l:List (Nat×TypeId)} {off:Nat},Dc P cs.length off l=true ->
 (∀ x,x∈l->∃ qs,S x.2 qs/\ag M [] qs ((cs.drop x.1).take (P.cellsOf x.2))/\∀ v,v∈(cs.drop x.1).take (P.cellsOf x.2)->v.oneCell'=true)->∃ ps,ag M [] ps (cs.drop off)/\(∀ v,v∈cs.drop off->v.oneCell'=true)/\∀ x,x∈l->S x.2 ((ps.drop (x.1-off)).take (P.cellsOf x.2))
 | [],off,h,_=>by simp[Dc] at h; subst h;exact ⟨[],by rw[List.drop_length]; exact dC.2 rfl,by simp,by simp⟩
 | x::l,off,h,hx=>by
  simp only[Dc,aY,kF] at h;obtain ⟨e,ht⟩:=h;subst e;obtain ⟨hle,hge⟩:=aKO ht;obtain ⟨qs,hq,hr,ho⟩:=hx x (by simp);obtain ⟨ps,hp,ho',hs⟩:=a3A ht fun y hy=>hx y (by simp[hy])
  have hlen:qs.length=P.cellsOf x.2:=by rw[kY hr,kz,qR]; omega
  refine ⟨qs ++ ps,?_,fun v hv => ?_,fun y hy => ?_⟩
  .have:=aIF hr hp;rwa [<- NC,J6] at this
  .rw[<- J6 (P.cellsOf x.2) (cs.drop x.1),NC] at hv;exact (rP.1 hv).elim (ho v) (ho' v)
  .rcases fQ.1 hy with rfl | hy
   .rw[Nat.sub_self,ND,List.take_append_of_le_length (by omega),tq (by omega)]; exact hq
   .have h1:=hge y hy;rw[List.drop_append,zq (by omega),RU,show y.1-x.1-qs.length=y.1-(x.1+P.cellsOf x.2) by omega];exact hs y hy
theorem a4G {H:Type} {P:Program} {e:TypeId}:∀ {ds:List (DataW H)} {d:DataW H} {n:Nat},d∈ds->n∈d.weights P e->n∈DataW.weightsAll P e ds
 | d0::ds,d,n,hd,hn=>by
  rw[DataW.weightsAll,rP];rcases fQ.1 hd with rfl | hd
  .exact .inl hn
  .exact .inr (a4G hd hn)
theorem aG0 {α:Type} {R:Nat->α->Prop}:∀ n:Nat,(∀ j,j<n->∃ p,R j p)->∃ l:List α,l.length=n/\∀ (j:Nat) p,l[j]? = some p->R j p
 | 0,_=>⟨[],rfl,by simp⟩
 | n+1,h=>by
  obtain ⟨l,hl,hr⟩:=aG0 n fun j hj=>h j (by omega)
  obtain ⟨p,hp⟩:=h n (by omega);refine ⟨l ++ [p],by simp[hl],fun j q hq => ?_⟩;rcases je j l.length with hlt | hge
  .exact hr j q (by rwa [jM hlt] at hq)
  .rw[qQ hge] at hq;have:j-l.length=0:=by
    rcases Bo (j-l.length) with h0 | h0
    .exact h0
    .rw[rO (by simp; omega)] at hq; cases hq
   rw[this] at hq; simp at hq; subst hq;have:j=n:=by omega
   subst this; exact hp
section
variable {H:Type} {enc:TypeId×Value->H} {W:World} {hW:GW W} {P:Program}
theorem a5Z (b off n:Nat):(⟨b,off,none⟩:Addr).add n=⟨b,off+n,none⟩:=by
 unfold Addr.add;split
 .rename_i h; subst h; rfl
 .rfl
end
end Go.Proofs.YtcdceiloganlnaaGreatDoor
namespace Go.Proofs.YtcdceiloganlnaaGreatDoor
open Go.RowKit
abbrev FO (l:Nat):Fence:=Fence.wide.inRound l
section
variable {P:Program} {l n:Nat}
theorem aNQ {f:FuncId} {args:Array Value} {w:World} {R:Ending->World->Prop} (h:Calls P f args w R):CallsIn (FO l) n P f args w R :=callsIn_wide.2 h
theorem bB8 {row:String} {args:Array Value} {w:World} {R:Value->World->Prop} (h:Rows P row args w R):RowsIn (FO l) n P row args w R :=fun c cs _=>let ⟨v,w',r,s⟩:=h c cs; ⟨v,w',r,stepsIn_wide.2 s⟩
theorem aHD {o:Oper} {a:Act} {w:World} {K:Act->World->Prop} {Q:Exit->Act->World->Prop} (hd:∀ c,o.op ≠ .defer c) (h:o.wp P a w K Q):o.wpIn (FO l) n P a w K Q:=by
 refine ⟨fun _ _=>trivial,?_⟩;rw[show (FO l).round=some l from rfl,Oper.semAt_some l a.eval o hd];unfold Oper.wp at h;generalize (execOp a.eval o).run P w=r at *;cases r with
 | ok x w' =>
  cases x<;>simp only[Oper.upon,Oper.uponIn] at h ⊢ <;>
   first
    | exact h
    | exact h.elim
    | exact ⟨fun h=>by simp[Fence.wide,Fence.inRound] at h,aNQ h⟩
    | exact ⟨fun h=>by simp[Fence.wide,Fence.inRound] at h,bB8 h⟩
 | halt x w'=>cases x<;>simp only[Oper.upon,Oper.uponIn] at h ⊢ <;> exact h
def IE (o:Oper):Bool:=match o.op with | .defer _=>false | _=>true
theorem aH4 {o:Oper} (h:IE o=true):∀ c,o.op ≠ .defer c:=fun c hc=>by simp[IE,hc] at h
theorem a05 {ops:Array Oper} {Q:Exit->Act->World->Prop} (hQ:¬ LetsOut Q):∀ (os:List Oper),(os.all IE)=true->∀ (a:Act) (w:World),wpList P ops Q os a w->wpListIn (FO l) n P ops Q os a w
 | [],_,a,w,h=>h
 | o::os,hd,a,w,h=>by
  simp only[rM,aY] at hd;unfold wpList at h;unfold wpListIn;split at h
  .rename_i hw;rw[aH hw];rcases h with h | h
   .exact Oper.wpIn_mono (fun a w=>a05 hQ os hd.2 a w) (aHD (aH4 hd.1) h)
   .exact absurd h.2 hQ
  .rename_i hw;rw[aI hw];exact ⟨fun _ _=>trivial,a05 hQ os hd.2 _ _ h⟩
theorem Np {md:Region.Mode} {ops:Array Oper} {Q:Exit->Act->World->Prop} (hQ:¬ LetsOut Q) (hd:ops.all IE=true):∀ (fuel:Nat) (L:Array Bool) (a:Act) (w:World),wpAny P md ops Q fuel L a w->wpAnyIn (FO l) n P md ops Q fuel L a w
 | 0,L,a,w,h=>h
 | fuel+1,L,a,w,h=>by
  refine ⟨h.1,fun i hi => ?_⟩;have h2:=h.2 i hi;unfold wpOp at h2;unfold wpOpIn;cases ho:ops[i]? with
  | none=>rw[ho] at h2; exact Np hQ hd fuel _ a w h2
  | some o =>
   rw[ho] at h2;have hdo:IE o=true:=by obtain ⟨hlt,he⟩:=rH.1 ho;rw[Array.all_eq_true] at hd;rw[<- he]; exact hd i hlt
   show if Region.wanted o (yielded ops a.tmps)=true then _ else _
   have h2:if Region.wanted o (yielded ops a.tmps)=true then _ else _:=h2
   split at h2
   .rename_i hw;rw[aH hw];rcases h2 with h2 | h2
    .exact Oper.wpIn_mono (fun a w=>Np hQ hd fuel _ a w) (aHD (aH4 hdo) h2)
    .exact absurd h2.2 hQ
   .rename_i hw;rw[aI hw];exact ⟨fun _ _=>trivial,Np hQ hd fuel _ _ _ h2⟩
end
def lY:Code->Bool
 | .region _ ops _=>ops.all IE
 | .seq x y=>lY x&&lY y
 | .cond _ x y=>lY x&&lY y
 | .block _ x=>lY x
 | .loop x=>lY x
 | .scope _=>false
 | .rangeFunc _ _ _ _=>false
 | _=>true
section
variable {E:AE} {m0 l n:Nat} {out:Nat->Nat}
theorem a03 {M:Mem} {B:aQ} {Z:ASt} {t:Array Value} {w:World} {ds:List Deferred} {Q:AX->ASt->Prop}:¬ LetsOut (lift E out m0 M B Z t w ds Q):=by rintro ⟨a,w',ax,Z',M',B',h,_⟩;cases ax<;>cases h
theorem CE (hm:E.P.follows .mixedOrders=true):∀ (c:Code),lY c=true->∀ {M:Mem} {B:aQ} {Z:ASt} {a:Act} {w:World} {Q:AX->ASt->Prop},Inv E.n M B out Z a.tmps w->cO E m0 c Q Z->c.wpIn (FO l) n E.P (lift E out m0 M B Z a.tmps w a.defers Q) a w
 | .skip,_,M,B,Z,a,w,Q,hI,h=>wpIn_skip ⟨.normal,Z,M,B,rfl,h,rfl,bZ.refl hI⟩
 | .label _,_,M,B,Z,a,w,Q,hI,h=>wpIn_label ⟨.normal,Z,M,B,rfl,h,rfl,bZ.refl hI⟩
 | .exit id,_,M,B,Z,a,w,Q,hI,h=>wpIn_exit ⟨.exit id,Z,M,B,rfl,h,rfl,bZ.refl hI⟩
 | .ret,_,M,B,Z,a,w,Q,hI,h=>wpIn_ret ⟨.ret,Z,M,B,rfl,h,rfl,bZ.refl hI⟩
 | .region id ops draw,hn,M,B,Z,a,w,Q,hI,h=>by
  have hk:=V5 (E:=E) hI;have hn:ops.all IE=true:=hn;rw[cO] at h;cases draw with
  | false =>simp only[rJ,qV] at h;exact wpIn_region_list (a05 a03 _ (by rw[Array.all_toList]; exact hn) _ _ (Nu _ hk.inv h fun Z' M' B' a' w' hq hG hd=>⟨.normal,Z',M',B',rfl,hq,hd,(hk.trans hG).c⟩))
  | true =>
   simp only[fD] at h;have hd:=hk.inv.drew;rcases h with ⟨hok,h⟩ | h
   .obtain ⟨Z',hc,hq⟩:=Xm ops.toList 0 (fun j=>by simp) h;have hu:lh ops.size (Array.replicate ops.size false)=List.range' 0 ops.toList.length:=by unfold lh;rw[List.filter_eq_self.2 (fun i hi=>by have:=Fv.1 hi; simp[this]),a4T]; simp
    refine wpIn_region_any hm (Np a03 hn _ _ _ _ ?_);refine a6H hok ops.size (Array.replicate ops.size false) (K:=Q .normal) (Z':=Z') (by simp) (by rw[hu]; simp) (fun j o _ h => ?_) hd.1 (by rw[hu]; exact hc) hq fun M' B' a' w' hk' hG hd'=>⟨.normal,Z',M',B',rfl,hk',hd',((hk.trans hd.2).trans hG).c⟩
    have h':(Array.replicate ops.size false).getD j false=true:=h;simp[Array.getElem?_replicate] at h';split at h'<;>simp at h'
   .exact wpIn_region_any hm (Np a03 hn _ _ _ _ (Xi ops.size _ hd.1 (SB _ hd.1.gG h) fun Zt M' B' a' w' hq hG hd'=>⟨.normal,Zt,M',B',rfl,hq,hd',((hk.trans hd.2).trans hG).c⟩))
 | .seq x y,hn,M,B,Z,a,w,Q,hI,h=>by
  simp only[lY,aY] at hn;rw[cO] at h;refine JA (qW (CE hm x hn.1 hI h) fun e a' w' hl => ?_);obtain ⟨ax,Z',M',B',rfl,hq,hd,hG⟩:=hl;cases ax with
  | normal =>
   obtain ⟨ks,hq⟩:=hq;obtain ⟨M2,B2,hz⟩:=U9 (m0:=m0) ks hG.inv;have hG:=hG.trans hz;rcases hq with hq | ⟨l,m,hm0,hg,hq⟩
   .exact qW (CE hm y hn.2 hG.inv hq) fun e a2 w2 hl2=>by rw[hd] at hl2; exact VY hG hl2
   .have hgc:=hG.trans (CZ hG.inv hm0 hg);exact qW (CE hm y hn.2 hgc.inv hq) fun e a2 w2 hl2=>by rw[hd] at hl2; exact VY hgc hl2
  | ret=>exact ⟨.ret,Z',M',B',rfl,hq,hd,hG⟩
  | exit i=>exact ⟨.exit i,Z',M',B',rfl,hq,hd,hG⟩
 | .cond c x y,hn,M,B,Z,a,w,Q,hI,h=>by
  simp only[lY,aY] at hn;rw[cO] at h;split at h
  .rename_i b hb;have he:=iZ.1 (hI.rd _ _ hb).1;refine wpIn_cond_split he (fun hb=>CE hm x hn.1 hI (h.1 hb)) (fun hb=>CE hm y hn.2 hI (h.2 hb))
  .exact h.elim
 | .block id x,hn,M,B,Z,a,w,Q,hI,h=>by
  rw[cO] at h;refine wpIn_block (qW (CE hm x (by simpa[lY] using hn) hI h) fun e a' w' hl => ?_);obtain ⟨ax,Z',M',B',rfl,hq,hd,hG⟩:=hl;cases ax with
  | normal=>exact ⟨.normal,Z',M',B',rfl,hq,hd,hG⟩
  | ret=>exact ⟨.ret,Z',M',B',rfl,hq,hd,hG⟩
  | exit i =>
   simp only[AX.toExit,Exit.inBlock];simp only[JV] at hq;split
   .rename_i e; rw[aH e] at hq; exact ⟨.normal,Z',M',B',rfl,hq,hd,hG⟩
   .rename_i e; rw[aI e] at hq; exact ⟨.exit i,Z',M',B',rfl,hq,hd,hG⟩
 | .scope x,hn,_,_,_,_,_,_,_,_=>by simp[lY] at hn
 | .loop x,hn,M,B,Z,a,w,Q,hI,h=>by
  rw[cO] at h;obtain ⟨k,hk⟩:=h;refine wpIn_loop_rounds k ?_;have key:∀ (k:Nat) (M1:Mem) (B1:aQ) (Z1:ASt) (a1:Act) (w1:World),bZ E.n out m0 M B Z a.tmps w M1 B1 Z1 a1.tmps w1->a1.defers=a.defers->IV m0 (cO E m0 x) Q k Z1->Code.roundsIn (FO l) n E.P x (lift E out m0 M B Z a.tmps w a.defers Q) k a1 w1:=by
   intro k;induction k with
   | zero=>intro M1 B1 Z1 a1 w1 _ _ h; exact h.elim
   | succ k ih =>
    intro M1 B1 Z1 a1 w1 hG hd h;obtain ⟨l,m,hm0,hg,hb⟩:=h;have hgc:=CZ hG.inv hm0 hg;rw[roundsIn_succ];refine qW (CE hm x (by simpa[lY] using hn) hgc.inv hb) fun e a' w' hl => ?_
    obtain ⟨ax,Z',M',B',rfl,hq,hd',hG'⟩:=hl;have hG2:=(hG.trans hgc).trans hG';cases ax with
    | normal=>exact ih M' B' Z' a' w' hG2 (by rw[hd',hd]) hq
    | ret=>exact ⟨.ret,Z',M',B',rfl,hq,by rw[hd',hd],hG2⟩
    | exit i=>exact ⟨.exit i,Z',M',B',rfl,hq,by rw[hd',hd],hG2⟩
  exact key k M B Z a w (bZ.refl hI) rfl hk
 | .rangeFunc f ps az b,_,_,_,_,_,_,_,_,h=>by rw[cO] at h; exact h.elim
 | .goto l,_,_,_,_,_,_,_,_,h=>by rw[cO] at h; exact h.elim
 | .refuse l,_,_,_,_,_,_,_,_,h=>by rw[cO] at h; exact h.elim
end
structure oC (l n:Nat) (out:Nat->Nat) (m0:Nat) (M:Mem) (B:aQ) (Z:ASt) (t:Array Value) (w:World) (M':Mem) (B':aQ) (Z':ASt) (t':Array Value) (w':World):Prop where
 inv:Inv n M' B' out Z' t' w'
 mem:∀ (b o:Nat) (v:Value),M b o=some v->M' b o=some v
 pre:∀ (i:Nat) (c:Nat×Nat×TypeId),i<m0->B[i]? = some c->B'[i]? = some c
 os:w'.os=w.os
 tape:w'.tape=w.tape
 output:w'.output=w.output
 size:w.heap.size<=w'.heap.size
 blk:∀ b,b<w.heap.size->b≠l->fp B Z t w b=0->w'.heap[b]? = w.heap[b]? /\ ∀ o,M' b o=M b o
 own:∀ b,b<w.heap.size->fp B' Z' t' w' b<=fp B Z t w b
section
variable {n l:Nat} {out:Nat->Nat} {m0:Nat} {M M1 M2:Mem} {B B1 B2:aQ} {Z Z1 Z2:ASt} {t t1 t2:Array Value} {w w1 w2:World}
theorem bZ.gl (h:bZ n out m0 M B Z t w M1 B1 Z1 t1 w1):oC l n out m0 M B Z t w M1 B1 Z1 t1 w1 :=⟨h.inv,h.mem,h.pre,h.fr.os,h.fr.tape,h.fr.output,h.fr.size,fun b hb _ h0=>h.fr.blk b hb h0,h.own⟩
theorem oC.trans (h:oC l n out m0 M B Z t w M1 B1 Z1 t1 w1) (k:oC l n out m0 M1 B1 Z1 t1 w1 M2 B2 Z2 t2 w2):oC l n out m0 M B Z t w M2 B2 Z2 t2 w2 :=
 ⟨k.inv,fun b o v e=>k.mem b o v (h.mem b o v e),fun i c hi e=>k.pre i c hi (h.pre i c hi e),k.os.trans h.os,k.tape.trans h.tape,k.output.trans h.output,iC h.size k.size,
  fun b hb hl h0=>by obtain ⟨h1,h2⟩:=h.blk b hb hl h0;obtain ⟨k1,k2⟩:=k.blk b (NJ hb h.size) hl (by have:=h.own b hb; omega);exact ⟨k1.trans h1,fun o=>(k2 o).trans (h2 o)⟩,
  fun b hb=>iC (k.own b (NJ hb h.size)) (h.own b hb)⟩
theorem OV (hI:Inv n M B out Z t w) (ho:1<=out l):fp B Z t w l=0:=by have:=hI.cnt l; omega
theorem a1I (hI:Inv n M B out Z t w) (ho:1<=out l) {r:Loop} (hr:w.heap[l]? = some (.loop r)) (r':Loop):oC l n out m0 M B Z t w M B Z t (w.putObj l (.loop r')):=by
 have h0:=OV hI ho;have hx:=hI.ext (M':=M) (w':=w.putObj l (.loop r')) (cu.refl _ _) (fun b o v h=>by
  obtain ⟨h1,h2⟩:=hI.mem b o v h;refine ⟨?_,h2⟩;have hbl:b≠l:=by intro e; subst e;simp[World.cell?,hr] at h1
  unfold World.cell? at *;simp only at *;rw[World.putObj_heap_other hbl]; exact h1) (fun b hb=>by
  have hbl:b≠l:=by intro e; subst e; omega
  exact ⟨World.putObj_heap_other hbl,fun _=>rfl⟩) (by simp)
 exact ⟨hx.1,fun _ _ _ h=>h,fun _ _ _ h=>h,rfl,rfl,rfl,by simp,fun b _ hl _=>⟨World.putObj_heap_other hl,fun _=>rfl⟩,fun b _=>by rw[hx.2]; exact bQ _⟩
theorem QP (hI:Inv n M B out Z t w) (ho:1<=out l) {r:Loop} (hr:w.heap[l]? = some (.loop r)) (hG:bZ n out m0 M B Z t w M1 B1 Z1 t1 w1):w1.heap[l]? = some (.loop r):=by have hl:l<w.heap.size:=(rH.1 hr).1;rw[(hG.fr.blk l hl (OV hI ho)).1]; exact hr
end
def AX.jump:AX->Option Code
 | .normal=>none
 | .ret=>some .ret
 | .exit i=>some (.exit i)
theorem Vu {w:World} {l:Nat} {o o':Obj} (h:w.heap[l]? = some o):(w.putObj l o').heap[l]? = some o':=by have hl:l<w.heap.size:=(rH.1 h).1;simp[World.putObj,hl]
theorem bB7 {E:AE} (hm:E.P.follows .mixedOrders=true) {assign body:Code} (ha:lY assign=true) (hb:lY body=true) {n l m0:Nat} {out:Nat->Nat} {M:Mem} {B:aQ} {Z:ASt} {t:Array Value} {w:World} {f:FuncId}
 (hI:Inv E.n M B out Z t w) (ho:1<=out l) {r:Loop} (hr:w.heap[l]? = some (.loop r)) (hst:r.state = .ready) {Q:AX->ASt->Prop}
 (h:cO E m0 assign (Aa (cO E m0 body Q) fun _ _=>False) Z) {R:Ending->World->Prop}
 (hR:∀ ax Z' M' B' t' w',Q ax Z'->oC l E.n out m0 M B Z t w M' B' Z' t' w'->w'.heap[l]? = some (.loop { r with state:=if ax.jump.isNone then .ready else .done,pending:=ax.jump })->R (.returned (.bool ax.jump.isNone)) w') :
 RoundIn Fence.wide n E.P l f t assign body w R:=by
 refine roundIn_of_wpIn trivial ?_;refine qW (CE (n:=n) (l:=l) hm assign ha (a := { tmps:=t,defers := [] }) hI h) fun e a1 w1 hl => ?_
 obtain ⟨ax,Z1,M1,B1,rfl,hq,hd,hG⟩:=hl;cases ax with
 | ret=>exact hq.elim
 | exit i=>exact hq.elim
 | normal =>
  have hr1:=QP hI ho hr hG;have hP1:=a1I (m0:=m0) hG.inv ho hr1 { r with state := .busy };refine ⟨_,run_beginRound hr1 hst,?_⟩;have hr2:=Vu (o' := .loop { r with state := .busy }) hr1;refine qW (CE (n:=n) (l:=l) hm body hb (a:=a1) hP1.inv hq) fun e a2 w2 hl => ?_
  obtain ⟨ax,Z2,M2,B2,rfl,hq2,hd2,hG2⟩:=hl;have hr3:=QP hP1.inv ho hr2 hG2;have hend:=fun j=>run_endRound (P:=E.P) j hr3
  have hfin:=fun j=>(((hG.gl.trans hP1).trans hG2.gl).trans (a1I (m0:=m0) hG2.inv ho hr3 { ({ r with state := .busy }:Loop) with state:=if Option.isNone j then .ready else .done,pending:=j }))
  cases ax with
  | normal=>exact ⟨_,_,hend none,hR .normal Z2 M2 B2 a2.tmps _ hq2 (hfin none) (Vu hr3)⟩
  | ret=>exact ⟨_,_,hend (some .ret),hR .ret Z2 M2 B2 a2.tmps _ hq2 (hfin (some .ret)) (Vu hr3)⟩
  | exit i=>exact ⟨_,_,hend (some (.exit i)),hR (.exit i) Z2 M2 B2 a2.tmps _ hq2 (hfin (some (.exit i))) (Vu hr3)⟩
theorem a0U {s:dw} (h:∀ kp,kp∈s->kp.2.own=false) (t:Array Value) (b:Nat):gI s t b=0:=by
 induction s with
 | nil=>rfl
 | cons a l ih =>obtain ⟨k,p⟩:=a;rw[gI,bu (h (k,p) (by simp)),ih fun kp hk=>h kp (by simp[hk])]
theorem aE5 {n n':Nat} {out:Nat->Nat} {M:Mem} {B:aQ} {Z:ASt} {t tr:Array Value} {w:World} (hI:Inv n M B out Z t w) {sr:dw} (hsz:tr.size=n') (hs:iH sr)
 (hsl:∀ kp,kp∈sr->kp.1<n'/\Rep M B kp.2 (tr.getD kp.1 undef)/\kp.2.own=false):Inv n' M B (fun b=>out b+gI Z.s t b) ⟨sr,Z.h⟩ tr w:=by
 have h0:∀ b,gI sr tr b=0:=a0U (fun kp hk=>(hsl kp hk).2.2) tr;refine ⟨hsz,hI.mem,hs,fun k p hk => ?_,hI.heap,fun b => ?_,fun b hb => ?_⟩
 .obtain ⟨h1,h2,h3⟩:=hsl _ (WM hk);exact ⟨h1,h2,dn h3⟩
 .have:=hI.cnt b; simp only[fp,h0] at *; omega
 .have:=hI.new b hb; simp only[fp,h0] at *; omega
theorem bDG {B B':aQ} (h:∀ (i:Nat) (c:Nat×Nat×TypeId),i<B.length->B[i]? = some c->B'[i]? = some c):B'.take B.length=B:=by
 apply J4;intro i;rw[gY];by_cases hi:i<B.length
 .rw[aH hi,h i _ hi (fJ hi),fJ hi]
 .rw[aI hi,rO (by omega)]
theorem aL6 {l n n' m0:Nat} {out:Nat->Nat} {M M':Mem} {B B':aQ} {Z Zr Z':ASt} {t tr t':Array Value} {w w':World} (hI:Inv n M B out Z t w) (ho:1<=out l)
 (hr:Zr.h=Z.h) (hrs:∀ kp,kp∈Zr.s->kp.2.own=false) (hm:m0=Z.h.length)
 (hG:oC l n' (fun b=>out b+gI Z.s t b) m0 M B Zr tr w M' B' Z' t' w') (hb:xZ m0 (Z'.h.take m0)=true) :
 oC l n out m0 M B Z t w M' B { Z with h:=Z'.h.take m0 } t w':=by
 have hB:m0=B.length:=by rw[hm]; exact hI.heap.1
 have hgc:=CZ (m0:=m0) (l := []) hG.inv (bQ _) (by unfold yw;simp only[aY,fH];exact ⟨fun kp hk=>by simp[ASt.gc] at hk,hb⟩);have hT:B'.take m0=B:=by rw[hB] at hG ⊢;exact bDG hG.pre
 rw[hT] at hgc;have hle:cu M M' B B:=⟨hG.mem,fun _ _ h=>h⟩;have hfr:∀ b,fp B Zr tr w b=aP w Z.h B b:=fun b=>by simp only[fp,hr,a0U hrs tr b]; omega
 have hfg:∀ b,fp B (Z'.gc [] m0) t' w' b=aP w' (Z'.h.take m0) B b:=fun b=>by simp only[fp,ASt.gc];rw[a0U (fun kp hk=>by simp at hk)]; omega
 have hkeep:∀ b,1<=gI Z.s t b->w'.heap[b]? = w.heap[b]? /\ ∀ o,M' b o=M b o:=fun b h1=>by have h2:=hI.cnt b;simp only[fp] at h2;refine hG.blk b (LX hI (by simp only[fp]; omega)) (fun e=>by subst e; omega) ?_;rw[hfr]; omega
 refine ⟨⟨hI.size,hgc.inv.mem,hI.gG,fun k p hk => ?_,hgc.inv.heap,fun b => ?_,fun b hb => ?_⟩,hG.mem,fun _ _ _ h=>h,hG.os,hG.tape,hG.output,hG.size,fun b hb hl h0 => ?_,fun b hb => ?_⟩
 .obtain ⟨s1,s2,s3⟩:=hI.slots k p hk;refine ⟨s1,s2.mono hle,s3.kept fun b hb=>hkeep b ?_⟩;have e1:=BL (s:=Z.s) (t:=t) (k:=k) (b:=b);simp only[kK,hk] at e1;omega
 .have:=hgc.inv.cnt b;rw[hfg] at this;simp only[fp]; omega
 .have:=hgc.inv.new b hb;rw[hfg] at this;simp only[fp]; omega
 .simp only[fp] at h0;exact hG.blk b hb hl (by rw[hfr]; omega)
 .have h1:=hG.own b hb;have h2:=hgc.own b (NJ hb hG.size);rw[hfg] at h2;rw[hfr] at h1;simp only[fp]; omega
theorem bFJ {E E':AE} (hP:E'.P=E.P) (hm:E.P.follows .mixedOrders=true) {o:Oper} {c:Call} (hop:o.op = .call c) {f:Operand} (hf:c.callee = .value f) {n l:Nat} {out:Nat->Nat} {M:Mem} {B:aQ} {Z:ASt} {a:Act} {w:World}
 (hv:a.eval f = .func (.yield l) #[] #[])
 (hI:Inv E.n M B out Z a.tmps w) (ho:1<=out l) {r:Loop} (hr:w.heap[l]? = some (.loop r)) (hst:r.state = .ready) (ha:lY r.assign=true) (hb:lY r.body=true)
 (hsz:c.args.size=r.params.size) {sr:dw} (hs:iH sr)
 (hn:((r.params.zip (c.args.map a.eval)).foldl (fun tmps (t,a)=>tmps.setIfInBounds t a) r.tmps).size=E'.n)
 (hsl:∀ kp,kp∈sr->kp.1<E'.n/\Rep M B kp.2 (((r.params.zip (c.args.map a.eval)).foldl (fun tmps (t,a)=>tmps.setIfInBounds t a) r.tmps).getD kp.1 undef)/\kp.2.own=false)
 {Q:AX->ASt->Prop} (h:cO E' Z.h.length r.assign (Aa (cO E' Z.h.length r.body Q) fun _ _=>False) ⟨sr,Z.h⟩)
 (ZE:∀ ax Z',Q ax Z'->xZ Z.h.length (Z'.h.take Z.h.length)=true)
 {K:Act->World->Prop} {QQ:Exit->Act->World->Prop}
 (hK:∀ ax Z' M' w',Q ax Z'->oC l E.n out Z.h.length M B Z a.tmps w M' B { Z with h:=Z'.h.take Z.h.length } a.tmps w' ->
  w'.heap[l]? = some (.loop { r with state:=if ax.jump.isNone then .ready else .done,pending:=ax.jump })->K (a.put o.dst (.bool ax.jump.isNone)) w') :
 o.wpIn Fence.wide n E.P a w K QQ:=by
 refine ⟨fun _ _=>trivial,?_⟩;rw[show Fence.wide.round=none from rfl,Oper.semAt_none];have hrun:(execOp a.eval o).run E.P w = .ok (.round l r.fn ((r.params.zip (c.args.map a.eval)).foldl (fun tmps (t,a)=>tmps.setIfInBounds t a) r.tmps) r.assign r.body) w:=by obtain ⟨callee,GY,cts⟩:=c;simp only at hf;subst hf;unfold execOp;rw[hop];simp only[resolve,hv,Deferred.ofValue,jO,zu,nU,invoke];rw[run_yield hr (by simpa using hsz)];simp
 rw[hrun,Oper.uponIn_round];refine ⟨fun h=>by simp[Fence.wide] at h,?_⟩;rw[<- hP];refine bB7 (E:=E') (m0:=Z.h.length) (by rw[hP]; exact hm) ha hb (aE5 hI hn hs hsl) (by show 1<=out l+_; omega) hr hst h fun ax Z' M' B' t' w' hq hG hrec => ?_
 exact hK ax Z' M' w' hq (aL6 (Zr:=⟨sr,Z.h⟩) hI ho rfl (fun kp hk=>(hsl kp hk).2.2) rfl hG (ZE ax _ hq)) hrec
theorem b7P {P:Program} {n:Nat} {o:Oper} {a:Act} {w:World} {K:Act->World->Prop} {Q:Exit->Act->World->Prop} (h:o.wp P a w K Q):o.wpIn Fence.wide n P a w K Q:=by
 refine ⟨fun _ _=>trivial,?_⟩;rw[show Fence.wide.round=none from rfl,Oper.semAt_none];unfold Oper.wp at h;generalize (execOp a.eval o).run P w=r at *;cases r with
 | ok x w' =>
  cases x<;>simp only[Oper.upon,Oper.uponIn] at h ⊢ <;>
   first
    | exact h
    | exact h.elim
    | exact ⟨fun h=>by simp[Fence.wide] at h,callsIn_wide.2 h⟩
    | exact ⟨fun h=>by simp[Fence.wide] at h,fun c cs _=>let ⟨v,w',r,s⟩:=h c cs; ⟨v,w',r,stepsIn_wide.2 s⟩⟩
 | halt x w'=>cases x<;>simp only[Oper.upon,Oper.uponIn] at h ⊢ <;> exact h
section
variable {E:AE} {out:Nat->Nat}
theorem Sj {n:Nat} {ops:Array Oper} {Q:Exit->Act->World->Prop} {rest:List Oper}:∀ (l:List Oper) {M:Mem} {B:aQ} {Z:ASt} {a:Act} {w:World} {K:ASt->Prop},Inv E.n M B out Z a.tmps w->jY E ops l K Z ->
 (∀ Z' M' B' a' w',K Z'->Good E.n out M B Z a.tmps w M' B' Z' a'.tmps w'->a'.defers=a.defers->wpListIn Fence.wide n E.P ops Q rest a' w')->wpListIn Fence.wide n E.P ops Q (l ++ rest) a w
 | [],M,B,Z,a,w,K,hI,h,hQ=>hQ Z M B a w h (Good.refl hI) rfl
 | o::l,M,B,Z,a,w,K,hI,h,hQ=>by
  have run:uK E o (jY E ops l K) Z->o.wpIn Fence.wide n E.P a w (wpListIn Fence.wide n E.P ops Q (l ++ rest)) Q:=fun h =>b7P (Si hI h fun v Z' M' B' w' hK hG=>Sj l hG.inv hK fun Z2 M2 B2 a2 w2 hk hG2 hd=>hQ Z2 M2 B2 a2 w2 hk (hG.trans hG2) (by rw[hd,Act.DL]))
  have skip:gz E o.dst (.tuple []) Z (jY E ops l K)->wpListIn Fence.wide n E.P ops Q (l ++ rest) (a.put o.dst undef) w:=fun h=>by
   unfold gz at h;split at h
   .rename_i Z' hp;have hG:=WP hI hp;exact Sj l hG.inv h fun Z2 M2 B2 a2 w2 hk hG2 hd=>hQ Z2 M2 B2 a2 w2 hk (hG.trans hG2) (by rw[hd,Act.DL])
   .exact h.elim
  rw[jY] at h;rw[og];unfold wpListIn;split at h
  .rename_i hg;rw[aH (by simp[Region.wanted,hg])];exact run h
  .rename_i j want hg;split at h
   .rename_i hv;rw[aI (by simp[Region.wanted,hg,Ar hI hv])];exact ⟨fun _ _=>trivial,skip h⟩
   .rename_i b hv;by_cases hb:b=want
    .rw[aH (by simp[Region.wanted,hg,Ar hI hv,hb])];exact run (h.1 hb)
    .rw[aI (by simp[Region.wanted,hg,Ar hI hv,hb])];exact ⟨fun _ _=>trivial,skip (h.2 hb)⟩
   .exact h.elim
end
open Classical in
def LV (ax:AX) (Zt:ASt):AX->ASt->R:=fun e Z=>if e=ax/\Z=Zt then some (.nilp,[]) else none
theorem FI {X:XE} (hV:vz X.V) (hW:qG X.W) (hC:lU X.E.P X.C) (hL:Ew X) {c:Code} {Z Zt:ASt} {ax:AX} (h:∀ K:AX->ASt->R,bI X c K Z=K ax Zt) :
 cO X.E X.m0 c (fun e Z'=>e=ax/\Z'=Zt) Z:=by
 have h1:bI X c (LV ax Zt) Z=some (.nilp,[]):=by rw[h]; simp[LV]
 refine uM c (fun e Z' he => ?_) (sN hV hW hC hL c h1);unfold LV at he;split at he
 .assumption
 .cases he
theorem Ro {S:SE} (hm:S.P.follows .mixedOrders=true) (hS:S.OK) (h0:lU S.P S.C0) {E:AE} (hE:S.wp E=E) {m0:Nat}:Ew (S.xe S.CC S.LL E m0):=fun l m x K Z v hv=>by obtain ⟨n,hn⟩:=(a04 (f:=fun n=>(S.aW n).2 E m0 l m x K (Z.gc l m)) fun n v hv=>(DW hS n).2 _ _ _ _ _ _ _ _ _ (fun _ _ _ h=>h) hv).1 hv;exact ⟨n,(a2M hm hS h0 n).2 E m0 l m x K Z v hE hn⟩
def xE (rc:Loop) (j:AX):Loop := { rc with state:=if j.jump.isNone then .ready else .done,pending:=j.jump }
def LC (n l:Nat) (rc:Loop) (out:Nat->Nat) (m0:Nat) (M:Mem) (B:aQ) (Z:ASt) (t:Array Value) (w:World) (ds:List Deferred) (Q:AX->ASt->AX->Prop) (e:Exit) (a':Act) (w':World):Prop :=∃ ax Z' j M' B',e=ax.toExit/\Q ax Z' j/\a'.defers=ds/\oC l n out m0 M B Z t w M' B' Z' a'.tmps w'/\w'.heap[l]? = some (.loop (xE rc j))
def Nb (sO:dw) (n' m0:Nat) (tm:Array Value) (M:Mem) (B:aQ):Prop:=∀ kp,kp∈sO->kp.1<n'/\Rep M B kp.2 (tm.getD kp.1 undef)/\kp.2.own=false/\kp.2.blw m0=true
theorem Nb.mono {sO:dw} {n' m0:Nat} {tm:Array Value} {M:Mem} {B:aQ} (h:Nb sO n' m0 tm M B) {M':Mem} {B':aQ} (hm:∀ (b o:Nat) (v:Value),M b o=some v->M' b o=some v)
 (hp:∀ (i:Nat) (c:Nat×Nat×TypeId),i<m0->B[i]? = some c->B'[i]? = some c):Nb sO n' m0 tm M' B':=fun kp hk=>by
 obtain ⟨h1,h2,h3,h4⟩:=h kp hk;refine ⟨h1,(h2.blw h4).mono ⟨hm,fun i c hc => ?_⟩,h3,h4⟩;rw[gY] at hc;split at hc
 .exact hp i c ‹_› hc
 .cases hc
structure YC where
 E:AE
 E':AE
 l:Nat
 m0:Nat
 rc:Loop
 out:Nat->Nat
 sO:dw
structure YC.OK (Y:YC):Prop where
 hm:Y.E.P.follows .mixedOrders=true
 hP:Y.E'.P=Y.E.P
 ho:1<=Y.out Y.l
def Tr (Y:YC) (c:Code) (Q:AX->ASt->AX->Prop) (j:AX) (Z:ASt):Prop :=
 ∀ (n:Nat) (M:Mem) (B:aQ) (a:Act) (w:World),Inv Y.E.n M B Y.out Z a.tmps w->w.heap[Y.l]? = some (.loop (xE Y.rc j))->Nb Y.sO Y.E'.n Y.m0 Y.rc.tmps M B ->
  c.wpIn Fence.wide n Y.E.P (LC Y.E.n Y.l Y.rc Y.out Y.m0 M B Z a.tmps w a.defers Q) a w
def aKN (k:ASt->AX->Prop) (Q:AX->ASt->AX->Prop):AX->ASt->AX->Prop
 | .normal,Z,j=>k Z j
 | e,Z,j=>Q e Z j
def a6U (id:Nat) (Q:AX->ASt->AX->Prop):AX->ASt->AX->Prop
 | .exit i,Z,j=>if i=id then Q .normal Z j else Q (.exit i) Z j
 | e,Z,j=>Q e Z j
theorem aFZ {n l:Nat} {rc:Loop} {out:Nat->Nat} {m0:Nat} {M M1:Mem} {B B1:aQ} {Z Z1:ASt} {t t1:Array Value} {w w1:World} {ds:List Deferred} {Q:AX->ASt->AX->Prop} (h:oC l n out m0 M B Z t w M1 B1 Z1 t1 w1) {e:Exit} {a':Act} {w':World}
 (k:LC n l rc out m0 M1 B1 Z1 t1 w1 ds Q e a' w'):LC n l rc out m0 M B Z t w ds Q e a' w':=by
 obtain ⟨ax,Z',j,M',B',h1,h2,h3,h4,h5⟩:=k;exact ⟨ax,Z',j,M',B',h1,h2,h3,h.trans h4,h5⟩
section
variable {Y:YC} {c:Code} {Q:AX->ASt->AX->Prop} {j:AX} {Z:ASt}
theorem Tr.mono {Q':AX->ASt->AX->Prop} (h:Tr Y c Q j Z) (hq:∀ e Z j,Q e Z j->Q' e Z j):Tr Y c Q' j Z:=fun n M B a w hI hr hO=>by
 refine qW (h n M B a w hI hr hO) fun e a' w' hl => ?_
 obtain ⟨ax,Z',j',M',B',h1,h2,h3,h4,h5⟩:=hl;exact ⟨ax,Z',j',M',B',h1,hq _ _ _ h2,h3,h4,h5⟩
theorem Tr.a0M (hY:Y.OK) {Q':AX->ASt->Prop} (h:cO Y.E Y.m0 c Q' Z) (hq:∀ e Z',Q' e Z'->Q e Z' j):Tr Y c Q j Z:=fun n M B a w hI hr hO=>by refine wpIn_wide.2 (rV (uN (out:=Y.out) hY.hm c hI h) fun e a' w' hl => ?_);obtain ⟨ax,Z',M',B',rfl,hq',hd,hG⟩:=hl;exact ⟨ax,Z',j,M',B',rfl,hq _ _ hq',hd,hG.gl,QP hI hY.ho hr hG⟩
theorem Tr.gc {l:List Nat} {m:Nat} (hm:Y.m0<=m) (hg:yw l m Z=true) (h:Tr Y c Q j (Z.gc l m)):Tr Y c Q j Z:=fun n M B a w hI hr hO=>by have hG:=CZ (m0:=Y.m0) hI hm hg;exact qW (h n M _ a w hG.inv hr (hO.mono hG.mem hG.pre)) fun e a' w' hl=>aFZ hG.gl hl
theorem Tr.seq {x y:Code} (h:Tr Y x (aKN (fun Z' j'=>Tr Y y Q j' Z') Q) j Z):Tr Y (.seq x y) Q j Z:=fun n M B a w hI hr hO=>by
 refine JA (qW (h n M B a w hI hr hO) fun e a' w' hl => ?_);obtain ⟨ax,Z',j',M',B',rfl,hq,hd,hG,hr'⟩:=hl;cases ax with
 | normal=>exact qW (hq n M' B' a' w' hG.inv hr' (hO.mono hG.mem hG.pre)) fun e a2 w2 hl2=>by rw[hd] at hl2; exact aFZ hG hl2
 | ret=>exact ⟨.ret,Z',j',M',B',rfl,hq,hd,hG,hr'⟩
 | exit i=>exact ⟨.exit i,Z',j',M',B',rfl,hq,hd,hG,hr'⟩
theorem Tr.cond {o:Operand} {x y:Code} {b:Bool} (hb:Z.rd o=some (.bool b)) (h1:b=true->Tr Y x Q j Z) (h2:b=false->Tr Y y Q j Z):Tr Y (.cond o x y) Q j Z:=fun n M B a w hI hr hO =>wpIn_cond_split (iZ.1 (hI.rd _ _ hb).1) (fun hb=>h1 hb n M B a w hI hr hO) (fun hb=>h2 hb n M B a w hI hr hO)
theorem Tr.block {id:Nat} {x:Code} (h:Tr Y x (a6U id Q) j Z):Tr Y (.block id x) Q j Z:=fun n M B a w hI hr hO=>by
 refine wpIn_block (qW (h n M B a w hI hr hO) fun e a' w' hl => ?_);obtain ⟨ax,Z',j',M',B',rfl,hq,hd,hG,hr'⟩:=hl;cases ax with
 | normal=>exact ⟨.normal,Z',j',M',B',rfl,hq,hd,hG,hr'⟩
 | ret=>exact ⟨.ret,Z',j',M',B',rfl,hq,hd,hG,hr'⟩
 | exit i =>
  simp only[AX.toExit,Exit.inBlock];simp only[a6U] at hq;split
  .rename_i e; rw[aH e] at hq; exact ⟨.normal,Z',j',M',B',rfl,hq,hd,hG,hr'⟩
  .rename_i e; rw[aI e] at hq; exact ⟨.exit i,Z',j',M',B',rfl,hq,hd,hG,hr'⟩
theorem Tr.scope {x:Code} (h:Tr Y x Q j Z):Tr Y (.scope x) Q j Z:=fun n M B a w hI hr hO=>by refine wpIn_wide.2 (wp_scope_straight (rV (wpIn_wide.1 (h n M B a w hI hr hO)) fun e a' w' hl => ?_));obtain ⟨ax,Z',j',M',B',rfl,hq,hd,hG,hr'⟩:=hl;cases ax<;>exact ⟨_,Z',j',M',B',rfl,hq,hd,hG,hr'⟩
theorem Tr.ret (h:Q .ret Z j):Tr Y .ret Q j Z:=fun n M B a w hI hr hO=>wpIn_ret ⟨.ret,Z,j,M,B,rfl,h,rfl,(bZ.refl hI).gl,hr⟩
theorem Tr.exit {i:Nat} (h:Q (.exit i) Z j):Tr Y (.exit i) Q j Z:=fun n M B a w hI hr hO=>wpIn_exit ⟨.exit i,Z,j,M,B,rfl,h,rfl,(bZ.refl hI).gl,hr⟩
theorem Tr.skip (h:Q .normal Z j):Tr Y .skip Q j Z:=fun n M B a w hI hr hO=>wpIn_skip ⟨.normal,Z,j,M,B,rfl,h,rfl,(bZ.refl hI).gl,hr⟩
theorem Tr.label {i:Nat} (h:Q .normal Z j):Tr Y (.label i) Q j Z:=fun n M B a w hI hr hO=>wpIn_label ⟨.normal,Z,j,M,B,rfl,h,rfl,(bZ.refl hI).gl,hr⟩
def Nh (Y:YC) (x:Code) (Q:AX->ASt->AX->Prop):Nat->AX->ASt->Prop
 | 0,_,_=>False
 | k+1,j,Z=>Tr Y x (aKN (fun Z' j'=>Nh Y x Q k j' Z') Q) j Z
theorem Tr.loop {x:Code} {k:Nat} (h:Nh Y x Q k j Z):Tr Y (.loop x) Q j Z:=fun n M B a w hI hr hO=>by
 refine wpIn_loop_rounds k ?_;have key:∀ (k:Nat) (j1:AX) (M1:Mem) (B1:aQ) (Z1:ASt) (a1:Act) (w1:World),oC Y.l Y.E.n Y.out Y.m0 M B Z a.tmps w M1 B1 Z1 a1.tmps w1->w1.heap[Y.l]? = some (.loop (xE Y.rc j1))->a1.defers=a.defers->Nh Y x Q k j1 Z1 ->
  Code.roundsIn Fence.wide n Y.E.P x (LC Y.E.n Y.l Y.rc Y.out Y.m0 M B Z a.tmps w a.defers Q) k a1 w1:=by
  intro k;induction k with
  | zero=>intro j1 M1 B1 Z1 a1 w1 _ _ _ h; exact h.elim
  | succ k ih =>
   intro j1 M1 B1 Z1 a1 w1 hG hr1 hd h;rw[roundsIn_succ];refine qW (h n M1 B1 a1 w1 hG.inv hr1 (hO.mono hG.mem hG.pre)) fun e a' w' hl => ?_
   obtain ⟨ax,Z',j',M',B',rfl,hq,hd',hG',hr'⟩:=hl;have hG2:=hG.trans hG';cases ax with
   | normal=>exact ih j' M' B' Z' a' w' hG2 hr' (by rw[hd',hd]) hq
   | ret=>exact ⟨.ret,Z',j',M',B',rfl,hq,by rw[hd',hd],hG2,hr'⟩
   | exit i=>exact ⟨.exit i,Z',j',M',B',rfl,hq,by rw[hd',hd],hG2,hr'⟩
 exact key k j M B Z a w (bZ.refl hI).gl hr rfl h
theorem oC.weak {l n:Nat} {out:Nat->Nat} {m0 m1:Nat} {M M1:Mem} {B B1:aQ} {Z Z1:ASt} {t t1:Array Value} {w w1:World} (h:oC l n out m1 M B Z t w M1 B1 Z1 t1 w1) (hm:m0<=m1):oC l n out m0 M B Z t w M1 B1 Z1 t1 w1 :=⟨h.inv,h.mem,fun i c hi e=>h.pre i c (by omega) e,h.os,h.tape,h.output,h.size,h.blk,h.own⟩
theorem Tr.yield (hY:Y.OK) {id:Nat} {ops:Array Oper} {pre post:List Oper} {o:Oper} (hops:ops.toList=pre ++ o::post)
 {cl:Call} (hop:o.op = .call cl) (hg:o.guard=none) {f x y:Operand} (hf:cl.callee = .value f) (hargs:cl.args = #[x,y]) {p q:Nat} (hp:Y.rc.params = #[p,q]) (hpq:p<q) (hqn:q<Y.E'.n)
 (hpO:∀ kp,kp∈Y.sO->kp.1<p) (hsO:iH Y.sO) (hn:Y.rc.tmps.size=Y.E'.n) (ha:lY Y.rc.assign=true) (hb:lY Y.rc.body=true)
 (h:jY Y.E ops pre (fun Z1=>∃ px py Q1,Z1.rd f=some (.func (.yield Y.l) [] [])/\Z1.rd x=some px/\Z1.rd y=some py/\Y.m0<=Z1.h.length /\
  cO Y.E' Z1.h.length Y.rc.assign (Aa (cO Y.E' Z1.h.length Y.rc.body Q1) fun _ _=>False) ⟨Y.sO ++ [(p,px),(q,py)],Z1.h⟩ /\
  ∀ ax Z',Q1 ax Z'->xZ Z1.h.length (Z'.h.take Z1.h.length)=true/\gz Y.E o.dst (.bool ax.jump.isNone) { Z1 with h:=Z'.h.take Z1.h.length } fun Z2=>jY Y.E ops post (fun Z3=>Q .normal Z3 ax) Z2) (Z.head Y.E)) :
 Tr Y (.region id ops false) Q .normal Z:=fun n M B a w hI hr hO=>by
 have hk:=V5 (E:=Y.E) hI;refine wpIn_region_list ?_;rw[hops];refine Sj pre hk.inv h fun Z1 M1 B1 a1 w1 hh hG1 hd1 => ?_
 obtain ⟨px,py,Q1,hfv,hx,hy,hm0,hbody,hafter⟩:=hh;have V4:bZ Y.E.n Y.out Y.m0 M B Z a.tmps w M1 B1 Z1 a1.tmps w1:=(hk.trans hG1).c;have hr1:=QP hI hY.ho hr V4;have hO1:=hO.mono V4.mem V4.pre;unfold wpListIn;rw[aH (by simp[Region.wanted,hg])];have hev:a1.eval f = .func (.yield Y.l) #[] #[]:=by obtain ⟨f',c',e,h1,h2⟩:=xG.1 (hG1.inv.rd _ _ hfv).1;rw[dC] at h1 h2;rw[e]; congr 1<;>(apply Me; assumption)
 have hrx:=hG1.inv.rd _ _ hx;have hry:=hG1.inv.rd _ _ hy;have htm:((xE Y.rc .normal).params.zip (cl.args.map a1.eval)).foldl (fun tmps (t,a)=>tmps.setIfInBounds t a) (xE Y.rc .normal).tmps=(Y.rc.tmps.setIfInBounds p (a1.eval x)).setIfInBounds q (a1.eval y):=by show (Y.rc.params.zip (cl.args.map a1.eval)).foldl (fun tmps (t,a)=>tmps.setIfInBounds t a) Y.rc.tmps=_;rw[hp,hargs]; simp
 refine bFJ (E':=Y.E') hY.hP hY.hm hop hf hev hG1.inv hY.ho hr1 rfl ha hb (by show cl.args.size=Y.rc.params.size; rw[hargs,hp]; rfl) (sr:=Y.sO ++ [(p,px),(q,py)]) ?_ ?_ (fun kp hk => ?_) (Q:=Q1) hbody (fun ax Z' hq=>(hafter ax Z' hq).1) fun ax Z' M' w' hq1 Z9 hrec => ?_
 .unfold iH;rw[List.pairwise_append];refine ⟨hsO,by simp[hpq],fun a ha b hb => ?_⟩;have:=hpO a ha;simp only[fQ,tZ,uC] at hb;rcases hb with rfl | rfl
  .exact this
  .show a.1<q; omega
 .rw[htm]; simp[hn]
 .rw[htm];rcases rP.1 hk with hk | hk
  .obtain ⟨h1,h2,h3,h4⟩:=hO1 kp hk;have:=hpO kp hk;refine ⟨h1,?_,h3⟩;rw[H7 (by omega),H7 (by omega)];exact h2
  .simp only[fQ,tZ,uC] at hk;rcases hk with rfl | rfl
   .refine ⟨by show p<_; omega,?_,hrx.2⟩;show Rep M1 B1 px (((Y.rc.tmps.setIfInBounds p (a1.eval x)).setIfInBounds q (a1.eval y)).getD p undef);rw[H7 (by omega),KI (by omega)];exact hrx.1
   .refine ⟨hqn,?_,hry.2⟩;show Rep M1 B1 py (((Y.rc.tmps.setIfInBounds p (a1.eval x)).setIfInBounds q (a1.eval y)).getD q undef);rw[KI (by rw[Array.size_setIfInBounds]; omega)];exact hry.1
 .obtain ⟨_,hput⟩:=hafter ax Z' hq1;unfold gz at hput;split at hput
  .rename_i Z2 hp2;have hPG:Good Y.E.n Y.out M' B1 { Z1 with h:=Z'.h.take Z1.h.length } a1.tmps w' M' B1 Z2 (a1.put o.dst (.bool ax.jump.isNone)).tmps w' :=(Pre.plain Z9.inv (iZ.2 rfl) (fun b=>bu rfl _ _) (dn rfl)).put hp2;have b2V:w'.heap[Y.l]? = some (.loop (xE Y.rc ax)):=hrec;have:=Sj (n:=n) (Q:=LC Y.E.n Y.l Y.rc Y.out Y.m0 M B Z a.tmps w a.defers Q) (rest := []) post hPG.inv hput fun Z3 M3 B3 a3 w3 hq3 hG3 hd3=>by have hGG:bZ Y.E.n Y.out Y.m0 M' B1 { Z1 with h:=Z'.h.take Z1.h.length } a1.tmps w' M3 B3 Z3 a3.tmps w3:=(hPG.trans hG3).c;show LC Y.E.n Y.l Y.rc Y.out Y.m0 M B Z a.tmps w a.defers Q .normal a3 w3;exact ⟨.normal,Z3,ax,M3,B3,rfl,hq3,by rw[hd3,Act.DL,hd1],(V4.gl.trans (Z9.weak hm0)).trans hGG.gl,QP Z9.inv hY.ho b2V hGG⟩
   rwa [yN] at this
  .exact hput.elim
end
theorem bA2 {P:Program} {n:Nat} {out:Nat->Nat} {h:aF} {M:Mem} {B:aQ} {w:World} {Z0:ASt} {t0:Array Value} (hheap:nV M B w h) (hfp:∀ b,fp B Z0 t0 w b=aP w h B b)
 {M':Mem} {B':aQ} {Z':ASt} {a':Act} {w':World} (hG:bZ n out h.length M B Z0 t0 w M' B' Z' a'.tmps w') {fn:Func} {r0:PV} {h':aF} (hret:IR P fn.results.toList h.length r0 h' Z') (ro:List (List Nat×Bool)) :
 ∃ v,(results fn a'.tmps).run P w' = .ok v w'/\Post h B out M w (uQ ro r0) h' v M' (B'.take h'.length) w':=by
 obtain ⟨v,hrun,hrep,htl,hown⟩:=aIN hG.inv hret;obtain ⟨hm0,hht,hb1,hb2,_⟩:=hret;generalize hm':h'.length=m at *;subst hht;have hBl:B.length=h.length:=hheap.1.symm;have htake:=fun b=>a0R (w:=w') m b Z'.h B'
 have hfin:∀ b,aP w' (Z'.h.take m) (B'.take m) b+bC (uQ ro r0) v b<=fp B' Z' a'.tmps w' b:=fun b=>by have:=htake b; have:=hown b; have:=a8S (ro:=ro) (r:=r0) (v:=v) (b:=b); simp only[fp]; omega
 refine ⟨v,hrun,hG.inv.mem,⟨hG.mem,fun i c hc => ?_⟩,hG.fr.mono fun b hb h0=>by rw[hfp]; exact h0,⟨by simp[hG.inv.heap.1],fun i cs hi => ?_⟩,a8T (hrep.blw hb1),a8U (hrep.blw hb1) htl,fun b hb => ?_,fun b => ?_,fun b hb => ?_⟩
 .have hlt:=(dQ.1 hc).1;rw[gY,aH (by omega)];exact hG.pre i c (by omega) hc
 .have hi0:=hi;rw[gY] at hi;split at hi
  .rename_i hlt;obtain ⟨c,hc,vs,ty,o1,o2,o3,o4,o5⟩:=hG.inv.heap.2 i cs hi;refine ⟨c,by rw[gY,aH hlt]; exact hc,vs,ty,o1,o2,o3,fun j p hj => ?_,o5⟩;obtain ⟨u,a1,a2,a3,a4⟩:=o4 j p hj;refine ⟨u,a1,a2.blw ?_,a3,a4⟩;have:=fH.1 hb2 _ (iV hi0);exact Su.1 this p (iV hj)
  .cases hi
 .have h1:=hG.own b hb; rw[hfp] at h1; exact iC (hfin b) h1
 .have h1:=hG.inv.cnt b; have:=hfin b; omega
 .have h1:=hG.inv.new b hb; have:=hfin b; omega
theorem aK6 {n:Nat} {out:Nat->Nat} {M:Mem} {B:aQ} {w:World} {h:aF} {args:List PV} {vals:Array Value} (hlen:args.length<=n) (hmem:sV M w) (hheap:nV M B w h) (hcnt:∀ b,aP w h B b+out b<=1) (hnew:∀ b,w.heap.size<=b->aP w h B b+out b=0)
 (hv:ag M B args vals.toList):Inv n M B out ⟨jr 0 args,h⟩ (vals ++ Array.replicate (n-vals.size) undef) w:=by
 have hvl:=kY hv;simp only[Array.length_toList] at hvl;have hfp:∀ t b,fp B ⟨jr 0 args,h⟩ t w b=aP w h B b:=fun t b=>by simp only[fp,Qg]; omega
 refine ⟨by simp; omega,hmem,a2T.1,fun k p hk => ?_,hheap,fun b=>by rw[hfp]; exact hcnt b,fun b hb=>by rw[hfp]; exact hnew b hb⟩;obtain ⟨i,q,rfl,hq,rfl⟩:=a2S hk;obtain ⟨v,hv1,hv2⟩:=qM hv hq;have hi:=(dQ.1 hq).1;refine ⟨by omega,?_,dn (nS _)⟩;have ZL:vals[i]? = some v:=by simpa using hv1
 have:(vals ++ Array.replicate (n-vals.size) undef).getD (0+i) undef=v:=by rw[jW,a4M,Iw (by omega),ZL]; rfl
 rw[this]; exact lM.2 hv2
theorem aJT {B:aQ} {args:List PV} {h:aF} (t:Array Value) (w:World) (b:Nat):fp B ⟨jr 0 args,h⟩ t w b=aP w h B b:=by simp only[fp,Qg]; omega
def wP (w:World) (rc:Loop):World:=(w.alloc (.deferred (some []))).alloc (.loop rc)
def y9 (out:Nat->Nat) (s:Nat) (b:Nat):Nat:=out b+(if b=s\/b=s+1 then 1 else 0)
section
variable {n:Nat} {out:Nat->Nat} {M:Mem} {B:aQ} {Z:ASt} {t:Array Value} {w:World}
theorem YA (rc:Loop) {b:Nat} (hb:b<w.heap.size):(wP w rc).heap[b]? = w.heap[b]? := by unfold wP;exact (Dq _ _ b (by simp; omega)).trans (Dq _ _ b hb)
theorem TS (rc:Loop):(wP w rc).heap.size=w.heap.size+2:=by simp[wP]
theorem aPJ (rc:Loop):(wP w rc).heap[w.heap.size+1]? = some (.loop rc):=by have:=World.alloc_heap_new (w.alloc (.deferred (some []))) (.loop rc);rwa [World.size_alloc] at this
theorem aPI (rc:Loop):(wP w rc).heap[w.heap.size]? = some (.deferred (some [])) :=(Dq _ _ _ (by simp)).trans (World.alloc_heap_new w _)
theorem a7Z (hI:Inv n M B out Z t w) (rc:Loop):Inv n M B (y9 out w.heap.size) Z t (wP w rc)/\∀ b,fp B Z t (wP w rc) b=fp B Z t w b:=by
 have hx:=hI.ext (M':=M) (w':=wP w rc) (cu.refl _ _) (fun b o v h=>by
  obtain ⟨h1,h2⟩:=hI.mem b o v h;have hb:=rQ _ _ h1;refine ⟨?_,h2⟩;exact (G9 (YA rc hb)).trans h1) (fun b hb=>by
  have hl:b<w.heap.size:=LX hI (by omega);exact ⟨YA rc hl,fun _=>rfl⟩) (by rw[TS]; omega)
 refine ⟨⟨hx.1.size,hx.1.mem,hx.1.gG,hx.1.slots,hx.1.heap,fun b => ?_,fun b hb => ?_⟩,hx.2⟩
 .rw[hx.2];have h1:=hI.cnt b;unfold y9;split
  .rename_i h;have:=hI.new b (by omega);omega
  .omega
 .rw[hx.2];rw[TS] at hb;have:=hI.new b (by omega);unfold y9;rw[aI (by omega)]; omega
theorem aI7 {l m0:Nat} (hI:Inv n M B out Z t w) (ho:1<=out l) {ds:Option (List Deferred)} (hr:w.heap[l]? = some (.deferred ds)) (o':Obj):oC l n out m0 M B Z t w M B Z t (w.putObj l o'):=by
 have h0:=OV hI ho;have hx:=hI.ext (M':=M) (w':=w.putObj l o') (cu.refl _ _) (fun b o v h=>by
  obtain ⟨h1,h2⟩:=hI.mem b o v h;refine ⟨?_,h2⟩;have hbl:b≠l:=by intro e; subst e;simp[World.cell?,hr] at h1
  unfold World.cell? at *;simp only at *;rw[World.putObj_heap_other hbl]; exact h1) (fun b hb=>by
  have hbl:b≠l:=by intro e; subst e; omega
  exact ⟨World.putObj_heap_other hbl,fun _=>rfl⟩) (by simp)
 exact ⟨hx.1,fun _ _ _ h=>h,fun _ _ _ h=>h,rfl,rfl,rfl,by simp,fun b _ hl _=>⟨World.putObj_heap_other hl,fun _=>rfl⟩,fun b _=>by rw[hx.2]; exact bQ _⟩
theorem aFU {m0:Nat} {rc:Loop} (hI:Inv n M B out Z t w) {M1:Mem} {B1:aQ} {Z1:ASt} {t1:Array Value} {w1:World} (hG1:oC (w.heap.size+1) n (y9 out w.heap.size) m0 M B Z t (wP w rc) M1 B1 Z1 t1 w1)
 {M':Mem} {B':aQ} {Z':ASt} {t':Array Value} {w':World} (hG2:oC w.heap.size n (y9 out w.heap.size) m0 M1 B1 Z1 t1 w1 M' B' Z' t' w'):bZ n out m0 M B Z t w M' B' Z' t' w':=by
 have he:=(a7Z hI rc).2;have hs:=TS (w:=w) rc;have hle:∀ b,out b<=y9 out w.heap.size b:=fun b=>by unfold y9; omega
 have hs1:=hG1.size;have hs2:=hG2.size;refine ⟨⟨hG2.inv.size,hG2.inv.mem,hG2.inv.gG,hG2.inv.slots,hG2.inv.heap,fun b => ?_,fun b hb => ?_⟩,fun b o v h=>hG2.mem b o v (hG1.mem b o v h),fun i c hi h=>hG2.pre i c hi (hG1.pre i c hi h),⟨hG2.os.trans hG1.os,hG2.tape.trans hG1.tape,hG2.output.trans hG1.output,by omega,fun b hb h0 => ?_⟩,fun b hb => ?_⟩
 .have:=hG2.inv.cnt b; have:=hle b; omega
 .have:=hG2.inv.new b hb; have:=hle b; omega
 .have h1:=hG1.blk b (by omega) (by omega) (by rw[he]; exact h0);have h2:=hG1.own b (by omega);rw[he,h0] at h2;have h3:=hG2.blk b (by omega) (by omega) (by omega);rw[YA rc hb] at h1;exact ⟨h3.1.trans h1.1,fun o=>(h3.2 o).trans (h1.2 o)⟩
 .have h1:=hG1.own b (by omega);have h2:=hG2.own b (by omega);rw[he] at h1; omega
theorem aMA {a b:Value} {r:Array Value}:(#[a,b] ++ r).getD 0 undef=a:=by rw[a4M,Iw (by simp)]; rfl
theorem aMB {a b:Value} {r:Array Value}:(#[a,b] ++ r).getD 1 undef=b:=by rw[a4M,Iw (by simp)]; rfl
end
inductive Sh where
 | I (k:IntKind)
 | B
 | S
 | L (o:Bool) (z:Nat)
 | Y
 | P
 | H (i j z:Nat)
 | M
 | C
 | pt (i j:Nat)
 | bd (t i:Nat)
 | rf
 | ni
 | fn (n:Nat)
@[reducible] def Sh.V : List Sh -> Type
 | []=>Unit
 | .I _::l=>Int×Sh.V l
 | .B::l=>Bool×Sh.V l
 | .S::l=>ByteArray×Sh.V l
 | .L _ _::l=>List PV×Sh.V l
 | .Y::l=>List UInt8×Sh.V l
 | .P::l=>PV×Sh.V l
 | .H _ _ _::l=>Nat×Sh.V l
 | .M::l=>List PV×Sh.V l
 | .C::l=>List PV×Sh.V l
 | .pt _ _::l=>Sh.V l
 | .bd _ _::l=>Sh.V l
 | .rf::l=>Sh.V l
 | .ni::l=>Sh.V l
 | .fn _::l=>Sh.V l
def mkS:(sh:List Sh)->Sh.V sh->List PV
 | [],_ => []
 | .I κ::l,v => .int κ v.1::mkS l v.2
 | .B::l,v => .bool v.1::mkS l v.2
 | .S::l,v => .str v.1::mkS l v.2
 | .L o z::l,v => .sl o z v.1::mkS l v.2
 | .Y::l,v => .bg v.1::mkS l v.2
 | .P::l,v=>v.1::mkS l v.2
 | .H i j z::l,v => .slh i j v.1 z::mkS l v.2
 | .M::l,v => .mp v.1::mkS l v.2
 | .C::l,v => .func (.yield 4242) v.1 []::mkS l v.2
 | .pt i j::l,v => .ptr i j::mkS l v
 | .bd t i::l,v => .bf t i::mkS l v
 | .rf::l,v => .raw .nilFunc::mkS l v
 | .ni::l,v => .raw .nilIface::mkS l v
 | .fn n::l,v => .func (.func n) [] []::mkS l v
def iY:(sh:List Sh)->List PV->Option (Sh.V sh)
 | [],ps=>(match ps with | []=>some () | _::_=>none)
 | .I κ::sh,ps=>(match ps with | .int κ' n::ps=>(match decide (κ'=κ) with | true=>(iY sh ps).map fun v=>(n,v) | false=>none) | _=>none)
 | .B::sh,ps=>(match ps with | .bool n::ps=>(iY sh ps).map fun v=>(n,v) | _=>none)
 | .S::sh,ps=>(match ps with | .str n::ps=>(iY sh ps).map fun v=>(n,v) | _=>none)
 | .L o z::sh,ps=>(match ps with | .sl o' z' n::ps=>(match o'==o&&Nat.beq z' z with | true=>(iY sh ps).map fun v=>(n,v) | false=>none) | _=>none)
 | .Y::sh,ps=>(match ps with | .bg n::ps=>(iY sh ps).map fun v=>(n,v) | _=>none)
 | .P::sh,ps=>(match ps with | n::ps=>(iY sh ps).map fun v=>(n,v) | _=>none)
 | .H i j z::sh,ps=>(match ps with | .slh i' j' n z'::ps=>(match Nat.beq i' i&&Nat.beq j' j&&Nat.beq z' z with | true=>(iY sh ps).map fun v=>(n,v) | false=>none) | _=>none)
 | .M::sh,ps=>(match ps with | .mp n::ps=>(iY sh ps).map fun v=>(n,v) | _=>none)
 | .C::sh,ps=>(match ps with | .func (.yield m) n []::ps=>(match Nat.beq m 4242 with | true=>(iY sh ps).map fun v=>(n,v) | false=>none) | _=>none)
 | .pt i j::sh,ps=>(match ps with | .ptr i' j'::ps=>(match Nat.beq i' i&&Nat.beq j' j with | true=>iY sh ps | false=>none) | _=>none)
 | .bd i j::sh,ps=>(match ps with | .bf i' j'::ps=>(match Nat.beq i' i&&Nat.beq j' j with | true=>iY sh ps | false=>none) | _=>none)
 | .rf::sh,ps=>(match ps with | .raw .nilFunc::ps=>iY sh ps | _=>none)
 | .ni::sh,ps=>(match ps with | .raw .nilIface::ps=>iY sh ps | _=>none)
 | .fn m::sh,ps=>(match ps with | .func (.func n) [] []::ps=>(match Nat.beq n m with | true=>iY sh ps | false=>none) | _=>none)
theorem I8 {α β:Type} {o:Option β} {n:α} {v:α×β} (h:(o.map fun v=>(n,v))=some v):n=v.1/\o=some v.2:=by
 cases o with
 | none=>cases h
 | some w=>injection h with h; subst h; exact ⟨rfl,rfl⟩
theorem uh:∀ (sh:List Sh) (ps:List PV) (v:Sh.V sh),iY sh ps=some v->mkS sh v=ps
 | [],ps,v,h=>by
  unfold iY at h; split at h
  .rfl
  .cases h
 | .I κ::sh,ps,v,h=>by
  unfold iY at h; split at h
  .split at h
   .rename_i hk; have hk:=jP hk; subst hk;obtain ⟨e1,e2⟩:=I8 h; unfold mkS; rw[uh sh _ _ e2,e1]
   .cases h
  .cases h
 | .B::sh,ps,v,h | .S::sh,ps,v,h | .Y::sh,ps,v,h | .P::sh,ps,v,h | .M::sh,ps,v,h=>by
  unfold iY at h; split at h
  .obtain ⟨e1,e2⟩:=I8 h; unfold mkS; rw[uh sh _ _ e2,e1]
  .cases h
 | .L o z::sh,ps,v,h=>by
  unfold iY at h; split at h
  .split at h
   .rename_i hk; simp only[aY,kF,G5] at hk; obtain ⟨rfl,rfl⟩:=hk;obtain ⟨e1,e2⟩:=I8 h; unfold mkS; rw[uh sh _ _ e2,e1]
   .cases h
  .cases h
 | .H i j z::sh,ps,v,h=>by
  unfold iY at h; split at h
  .split at h
   .rename_i hk; simp only[aY,G5] at hk; obtain ⟨⟨rfl,rfl⟩,rfl⟩:=hk;obtain ⟨e1,e2⟩:=I8 h; unfold mkS; rw[uh sh _ _ e2,e1]
   .cases h
  .cases h
 | .C::sh,ps,v,h=>by
  unfold iY at h; split at h
  .split at h
   .rename_i hk; simp only[G5] at hk; subst hk;obtain ⟨e1,e2⟩:=I8 h; unfold mkS; rw[uh sh _ _ e2,e1]
   .cases h
  .cases h
 | .pt i j::sh,ps,v,h | .bd i j::sh,ps,v,h=>by
  unfold iY at h; split at h
  .split at h
   .rename_i hk; simp only[aY,G5] at hk; obtain ⟨rfl,rfl⟩:=hk;unfold mkS; rw[uh sh _ _ h]
   .cases h
  .cases h
 | .rf::sh,ps,v,h | .ni::sh,ps,v,h=>by
  unfold iY at h; split at h
  .unfold mkS; rw[uh sh _ _ h]
  .cases h
 | .fn m::sh,ps,v,h=>by
  unfold iY at h; split at h
  .split at h
   .rename_i hk; simp only[G5] at hk; subst hk;unfold mkS; rw[uh sh _ _ h]
   .cases h
  .cases h
def zS:List Sh->List PV
 | [] => []
 | .pt i j::l => .ptr i j::zS l
 | .bd t i::l => .bf t i::zS l
 | .rf::l => .raw .nilFunc::zS l
 | .ni::l => .raw .nilIface::zS l
 | .fn n::l => .func (.func n) [] []::zS l
 | _::l => .nilp::zS l
def zl:List Sh->Bool
 | []=>true
 | .pt _ _::l | .bd _ _::l | .rf::l | .ni::l | .fn _::l=>zl l
 | _::_=>false
theorem Iu:∀ (l:List Sh) (v:Sh.V l),zl l=true->mkS l v=zS l
 | [],_,_=>rfl
 | .pt i j::l,v,h=>congrArg (_ :: ·) (Iu l v h)
 | .bd i j::l,v,h=>congrArg (_ :: ·) (Iu l v h)
 | .rf::l,v,h=>congrArg (_ :: ·) (Iu l v h)
 | .ni::l,v,h=>congrArg (_ :: ·) (Iu l v h)
 | .fn n::l,v,h=>congrArg (_ :: ·) (Iu l v h)
 | .I _::_,_,h | .B::_,_,h | .S::_,_,h | .L _ _::_,_,h | .Y::_,_,h | .P::_,_,h | .H _ _ _::_,_,h | .M::_,_,h | .C::_,_,h=>by cases h
@[reducible] def TV : List (Bool × List Sh) -> Type
 | []=>Unit
 | b::l=>Sh.V b.2×TV l
def Ez:(sh:List (Bool×List Sh))->TV sh->List PV
 | [],_ => []
 | b::l,v=>bif b.1 then .agg (mkS b.2 v.1)::Ez l v.2 else (mkS b.2 v.1).headD .nilp::Ez l v.2
def rdT:(sh:List (Bool×List Sh))->List PV->Option (TV sh)
 | [],ps=>(match ps with | []=>some () | _::_=>none)
 | (true,l)::sh,ps=>(match ps with | .agg cs::ps=>(match iY l cs with | some v=>(rdT sh ps).map fun w=>(v,w) | none=>none) | _=>none)
 | (false,l)::sh,ps=>(match ps with | p::ps=>(match iY l [p] with | some v=>(rdT sh ps).map fun w=>(v,w) | none=>none) | _=>none)
theorem a1K:∀ (sh:List (Bool×List Sh)) (ps:List PV) (v:TV sh),rdT sh ps=some v->Ez sh v=ps
 | [],ps,v,h=>by
  unfold rdT at h; split at h
  .rfl
  .cases h
 | (true,l)::sh,ps,v,h=>by
  unfold rdT at h; split at h
  .split at h
   .rename_i e;obtain ⟨e1,e2⟩:=I8 h; unfold Ez; rw[a1K sh _ _ e2,<- e1,uh _ _ _ e]; rfl
   .cases h
  .cases h
 | (false,l)::sh,ps,v,h=>by
  unfold rdT at h; split at h
  .split at h
   .rename_i e;obtain ⟨e1,e2⟩:=I8 h; unfold Ez; rw[a1K sh _ _ e2,<- e1,uh _ _ _ e]; rfl
   .cases h
  .cases h
inductive RS where
 | ti (k:IntKind)
 | tb
 | ts
 | tl (o:Bool) (z:Nat)
 | tp
 | z (c:Sh)
 | o (c:Sh)
 | g (l:List Sh)
 | t (l:List (Bool×List Sh))
@[reducible] def RS.F : RS -> Type -> Type
 | .ti _,T=>Int->T
 | .tb,T=>Bool->T
 | .ts,T=>ByteArray->T
 | .tl _ _,T=>List PV->T
 | .tp,T=>PV->T
 | .z _,T=>T
 | .o c,T=>Sh.V [c]->T
 | .g l,T=>Sh.V l->T
 | .t l,T=>TV l->T
def Eb (sh:List Sh) (p:PV) {T:Type} (K:Sh.V sh->Option T):Option T:=match p with | .agg cs=>(match iY sh cs with | some v=>K v | none=>none) | _=>none
def Wh (sh:List (Bool×List Sh)) (p:PV) {T:Type} (K:TV sh->Option T):Option T:=match p with | .tuple cs=>(match rdT sh cs with | some v=>K v | none=>none) | _=>none
def oV (s:Sh) (p:PV) {T:Type} (K:Sh.V [s]->Option T):Option T:=match iY [s] [p] with | some v=>K v | none=>none
def Ll:(rs:RS)->PV->RS.F rs R->R
 | .ti k,p,K=>vI k p K
 | .tb,p,K=>vB p K
 | .ts,p,K=>vS p K
 | .tl o z,p,K=>vL o z p K
 | .tp,p,K=>K p
 | .z c,p,K=>aA (zl [c]) (oV c p fun _=>K) none
 | .o c,p,K=>oV c p K
 | .g l,p,K=>Eb l p K
 | .t l,p,K=>Wh l p K
def La:(rs:RS) -> {T:Type}->(PV->T)->RS.F rs T
 | .ti k,_,K=>fun n=>K (.int k n)
 | .tb,_,K=>fun n=>K (.bool n)
 | .ts,_,K=>fun n=>K (.str n)
 | .tl o z,_,K=>fun n=>K (.sl o z n)
 | .tp,_,K=>fun p=>K p
 | .z c,_,K=>K ((zS [c]).headD .nilp)
 | .o c,_,K=>fun v=>K ((mkS [c] v).headD .nilp)
 | .g l,_,K=>fun v=>K (.agg (mkS l v))
 | .t l,_,K=>fun v=>K (.tuple (Ez l v))
theorem b7B (s:Sh) (p:PV):(∀ K:PV->R,oV s p (fun v=>K ((mkS [s] v).headD .nilp))=K p)\/(∀ K:Sh.V [s]->R,oV s p K=none):=by
 unfold oV;cases e:iY [s] [p] with
 | none=>exact .inr fun _=>rfl
 | some v=>exact .inl fun K=>by show K _=K _; rw[uh _ _ _ e]; rfl
theorem b1Z (l:List Sh) (p:PV):(∀ K:PV->R,Eb l p (fun v=>K (.agg (mkS l v)))=K p)\/(∀ K:PV->R,Eb l p (fun v=>K (.agg (mkS l v)))=none):=by
 unfold Eb;cases p with
 | agg cs =>
  dsimp only;cases e:iY l cs with
  | none=>exact .inr fun _=>rfl
  | some v=>exact .inl fun K=>by show K _=K _; rw[uh _ _ _ e]
 | _=>exact .inr fun _=>rfl
theorem bDX (l:List (Bool×List Sh)) (p:PV):(∀ K:PV->R,Wh l p (fun v=>K (.tuple (Ez l v)))=K p)\/(∀ K:PV->R,Wh l p (fun v=>K (.tuple (Ez l v)))=none):=by
 unfold Wh;cases p with
 | tuple cs =>
  dsimp only;cases e:rdT l cs with
  | none=>exact .inr fun _=>rfl
  | some v=>exact .inl fun K=>by show K _=K _; rw[a1K _ _ _ e]
 | _=>exact .inr fun _=>rfl
theorem aIV (rs:RS) (p:PV):(∀ K:PV->R,Ll rs p (La rs K)=K p)\/(∀ K:PV->R,Ll rs p (La rs K)=none):=by
 cases rs with
 | ti k=>exact oZ k p
 | tb=>exact FY p
 | ts=>exact Qv p
 | tl o z=>exact yJ o z p
 | tp=>exact .inl fun _=>rfl
 | z s =>
  cases hz:zl [s] with
  | false=>exact .inr fun K=>by show aA (zl [s]) _ _=_; rw[hz,aC]
  | true =>
   cases h:iY [s] [p] with
   | none=>exact .inr fun K=>by show aA (zl [s]) (oV s p _) _=_; rw[hz,aG]; unfold oV; rw[h]
   | some v =>have h1:=uh _ _ _ h;have h2:=Iu [s] v hz;exact .inl fun K=>by show aA (zl [s]) (oV s p fun _=>K ((zS [s]).headD .nilp)) _=_;rw[hz,aG,<- h2,h1]; unfold oV; rw[h]; rfl
 | o s =>
  rcases b7B s p with e | e
  .exact .inl e
  .exact .inr fun K=>e _
 | g l=>exact b1Z l p
 | t l=>exact bDX l p
inductive OS where
 | c (l:List Sh)
 | z (l:List Sh)
 | a
@[reducible] def jU : List OS -> Type
 | []=>R
 | .c l::os=>Sh.V l->jU os
 | .z _::os=>jU os
 | .a::os=>List PV->jU os
def pR:(os:List OS)->aF->jU os->R
 | [],h,f=>(match h with | []=>f | _::_=>none)
 | .c l::os,h,f=>(match h with | some cs::h=>(match iY l cs with | some v=>pR os h (f v) | none=>none) | _=>none)
 | .z l::os,h,f=>(match h with | some cs::h=>(match iY l cs with | some _=>pR os h f | none=>none) | _=>none)
 | .a::os,h,f=>(match h with | some cs::h=>pR os h (f cs) | _=>none)
def FD:(os:List OS)->(aF->R)->jU os
 | [],K=>K []
 | .c l::os,K=>fun v=>FD os fun h=>K (some (mkS l v)::h)
 | .z l::os,K=>FD os fun h=>aA (zl l) (K (some (zS l)::h)) none
 | .a::os,K=>fun cs=>FD os fun h=>K (some cs::h)
theorem Vm:∀ (os:List OS) (h:aF),(∀ K:aF->R,pR os h (FD os K)=K h)\/(∀ K:aF->R,pR os h (FD os K)=none)
 | [],[] => .inl fun _=>rfl
 | [],_::_ => .inr fun _=>rfl
 | .c l::os,h=>by
  unfold pR;split
  .rename_i cs h;cases e:iY l cs with
   | none=>exact .inr fun _=>rfl
   | some v =>
    have:=uh _ _ _ e;subst this;rcases Vm os h with e2 | e2
    .exact .inl fun K=>e2 _
    .exact .inr fun K=>e2 _
  .exact .inr fun _=>rfl
 | .z l::os,h=>by
  unfold pR;split
  .rename_i cs h;cases e:iY l cs with
   | none=>exact .inr fun _=>rfl
   | some v =>
    have:=uh _ _ _ e;subst this;rcases Vm os h with e2 | e2
    .cases hz:zl l with
     | true =>
      refine .inl fun K=>(e2 _).trans ?_
      show aA (zl l) _ _=_;rw[hz,aG,<- Iu l v hz]
     | false =>
      refine .inr fun K=>(e2 _).trans ?_
      show aA (zl l) _ _=_;rw[hz,aC]
    .exact .inr fun K=>e2 _
  .exact .inr fun _=>rfl
 | .a::os,h=>by
  unfold pR;split
  .rename_i cs h;rcases Vm os h with e2 | e2
   .exact .inl fun K=>e2 _
   .exact .inr fun K=>e2 _
  .exact .inr fun _=>rfl
def hvK:(rs:RS)->(os:List OS)->aF->RS.F rs (jU os)->RS.F rs R
 | .ti _,os,h,K=>fun n=>pR os h (K n)
 | .tb,os,h,K=>fun n=>pR os h (K n)
 | .ts,os,h,K=>fun n=>pR os h (K n)
 | .tl _ _,os,h,K=>fun n=>pR os h (K n)
 | .tp,os,h,K=>fun n=>pR os h (K n)
 | .z _,os,h,K=>pR os h K
 | .o _,os,h,K=>fun n=>pR os h (K n)
 | .g _,os,h,K=>fun n=>pR os h (K n)
 | .t _,os,h,K=>fun n=>pR os h (K n)
def hv (rs:RS) (os:List OS) (p:PV) (h:aF) (K:RS.F rs (jU os)):R:=Ll rs p (hvK rs os h K)
def pack (rs:RS) (os:List OS) (K:PV->aF->R):RS.F rs (jU os):=La rs fun p=>FD os (K p)
theorem b2Z (rs:RS) (os:List OS) (h:aF) (K:PV->aF->R):hvK rs os h (pack rs os K)=La rs fun p=>pR os h (FD os (K p)):=by cases rs<;>rfl
theorem b30 (rs:RS) (os:List OS) (p:PV) (h:aF):(∀ K:PV->aF->R,hv rs os p h (pack rs os K)=K p h)\/(∀ K:PV->aF->R,hv rs os p h (pack rs os K)=none):=by
 have hh:∀ K:PV->aF->R,hv rs os p h (pack rs os K)=Ll rs p (La rs fun p=>pR os h (FD os (K p))):=fun K=>by unfold hv; rw[b2Z]
 rcases aIV rs p with e | e
 .rcases Vm os h with e2 | e2
  .exact .inl fun K=>(hh K).trans ((e _).trans (e2 _))
  .exact .inr fun K=>(hh K).trans ((e _).trans (e2 _))
 .exact .inr fun K=>(hh K).trans (e _)
abbrev bG (sh:List Sh) (l:List PV) (n:Int) (K:Sh.V sh->R):R:=dH l n fun e=>Eb sh e K
def shC:List Sh->List PV->Bool
 | [],ps=>ps.isEmpty
 | s::sh,ps=>(match ps with
  | []=>false
  | p::ps=>(match s,p with
   | .I κ,.int κ' _=>decide (κ'=κ)
   | .B,.bool _=>true
   | .S,.str _=>true
   | .L o z,.sl o' z' _=>o'==o&&Nat.beq z' z
   | .Y,.bg _=>true
   | .P,_=>true
   | .H i j z,.slh i' j' _ z'=>Nat.beq i' i&&Nat.beq j' j&&Nat.beq z' z
   | .M,.mp _=>true
   | .C,.func (.yield n) _ []=>Nat.beq n 4242
   | .pt i j,.ptr i' j'=>Nat.beq i' i&&Nat.beq j' j
   | .bd t i,.bf t' i'=>Nat.beq t' t&&Nat.beq i' i
   | .rf,.raw .nilFunc=>true
   | .ni,.raw .nilIface=>true
   | .fn m,.func (.func n) [] []=>Nat.beq n m
   | _,_=>false)&&shC sh ps)
def WO:List OS->aF->Bool
 | [],h=>h.isEmpty
 | .c l::os,h=>(match h with | some cs::h=>shC l cs&&WO os h | _=>false)
 | .z l::os,h=>(match h with | some cs::h=>shC l cs&&WO os h | _=>false)
 | .a::os,h=>(match h with | some _::h=>WO os h | _=>false)
def tl {α:Type} (g k:Nat) (a b:α):α:=bif Nat.blt g k then a else b
def te {α:Type} (g k:Nat) (a b:α):α:=bif Nat.beq g k then a else b
def Xb (t:TypeId->Option RS) (i:TypeId) (p:PV) (K:PV->R):R:=match t i with | some rs=>Ll rs p (La rs K) | none=>K p
theorem aLY (t:TypeId->Option RS):vz (Xb t):=fun i p=>by
 unfold Xb;cases t i with
 | none=>exact .inl fun _=>rfl
 | some rs=>exact aIV rs p
abbrev jX:=List OS×RS×List OS
def Rz:List jX->aF->PV->aF->(PV->aF->R)->R
 | [],_,r,h,K=>K r h
 | w::l,h0,r,h,K=>aA (WO w.1 h0) (hv w.2.1 w.2.2 r h (pack w.2.1 w.2.2 K)) (Rz l h0 r h K)
theorem a5P:∀ (l:List jX) (h0:aF) (r:PV) (h:aF),(∀ K:PV->aF->R,Rz l h0 r h K=K r h)\/(∀ K:PV->aF->R,Rz l h0 r h K=none)
 | [],_,_,_ => .inl fun _=>rfl
 | w::l,h0,r,h=>pU (b30 w.2.1 w.2.2 r h) (a5P l h0 r h)
def WWt (t:FuncId->List jX) (g:FuncId):aF->PV->aF->(PV->aF->R)->R:=Rz (t g)
theorem aM2 (t:FuncId->List jX):qG (WWt t):=fun g h r h'=>a5P (t g) h r h'
theorem CCk {S:SE} (hS:S.OK) {g:FuncId} {args:List PV} {h:aF} {v:R} (h0:S.C0 g args h=none) (e:S.run S.CC S.LL g args h=v):S.CC g args h=v:=(pg hS h0).trans e
theorem LLk {S:SE} (hS:S.OK) {E:AE} {m0:Nat} {l:List Nat} {m:Nat} {x:Code} {K:AX->ASt->R} {Z:ASt} {v:R} (hm:m0<=m) (hg:Ap l m Z=true) (hP:S.wp E=E)
 (e:chk (DF l m Z) (bI (S.xe S.CC S.LL E m0) x (tK (fun Z'=>S.LL E m0 l m x K (Z'.gc l m)) K) (Z.gc l m))=v):S.LL E m0 l m x K Z=v:=(AC hS hm hg hP).trans e
abbrev KT:=AX->ASt->R
def aI6:Nat->Nat->List Bool
 | 0,_ => []
 | k+1,n=>match Nat.ble n 1 with | true => [] | false=>Nat.beq (n % 2) 1::aI6 k (n / 2)
def cS (f:Func) (p:Nat):Code:=Code.sub (aI6 99 p) (nX f)
def SE.xX (S:SE) (f n m:Nat):XE:=S.xe S.CC S.LL (S.ae f n) m
def SE.rK (S:SE) (f:Func) (g m:Nat) (fl:List Nat):KT:=DT S.P f.results.toList (S.gU g).ro m fl
def SE.jK (S:SE) (f n m:Nat) (c:Code) (K:KT):KT:=tK (qj (S.ae f n) m c (bI (S.xX f n m) c K)) K
def SE.lK (S:SE) (f n m:Nat) (l:List Nat) (k:Nat) (c:Code) (K:KT):KT:=tK (fun Z=>S.LL (S.ae f n) m l k c K (Z.gc l k)) K
section
variable {S:SE}
def SE.Px (S:SE) (T:Cal):Nat->uw
 | 0=>fun _ _ _ _ _ _ _=>none
 | n+1=>S.turn T (S.Px T n)
def SE.stepT (S:SE) (T:Cal) (n:Nat) (g:FuncId) (args:List PV) (h:aF):R:=D7 (S.C0 g args h) (S.run T (S.Px T n) g args h)
def TE (T C:Cal):Prop:=∀ g args h v,T g args h=some v->C g args h=some v
theorem aG9 (hS:S.OK) {T:Cal} (hT:TE T S.CC):∀ (n:Nat) (E:AE) (m0:Nat) (l:List Nat) (m:Nat) (x:Code) (K K':AX->ASt->R) (Z:ASt) (v:PV×aF),(∀ e Z v,K e Z=some v->K' e Z=some v)->S.Px T n E m0 l m x K Z=some v->S.LL E m0 l m x K' Z=some v
 | 0,_,_,_,_,_,_,_,_,_,_,h=>by cases h
 | n+1,E,m0,l,m,x,K,K',Z,v,hK,hv=>by
  have hC:∀ g args h,AA fun i=>(bif i then S.CC else T) g args h:=fun g args h v hv=>hT g args h v hv
  have hL:∀ (E:AE) (m0:Nat) (l:List Nat) (m:Nat) (x:Code) (K:Bool->AX->ASt->R) (Z:ASt),(∀ e Z,AA fun i=>K i e Z)->AA fun i=>(bif i then S.LL else S.Px T n) E m0 l m x (K i) Z :=fun E m0 l m x K Z hK v hv=>aG9 hS hT n E m0 l m x _ _ Z v (fun e Z v h=>hK e Z v h) hv
  rw[a5N hS];exact V3 Gp hS hC hL (K:=fun i=>bif i then K' else K) (fun e Z v h=>hK e Z v h) v hv
theorem aLD (hS:S.OK) {T:Cal} (hT:TE T S.CC) (n:Nat) {g:FuncId} {args:List PV} {h:aF} {v:PV×aF} (e:S.stepT T n g args h=some v):S.CC g args h=some v:=by
 have hC:∀ g args h,AA fun i=>(bif i then S.CC else T) g args h:=fun g args h v hv=>hT g args h v hv
 have hL:∀ (E:AE) (m0:Nat) (l:List Nat) (m:Nat) (x:Code) (K:Bool->AX->ASt->R) (Z:ASt),(∀ e Z,AA fun i=>K i e Z)->AA fun i=>(bif i then S.LL else S.Px T n) E m0 l m x (K i) Z :=fun E m0 l m x K Z hK v hv=>aG9 hS hT n E m0 l m x _ _ Z v (fun e Z v h=>hK e Z v h) hv
 rw[JD hS];exact Yv Gp (Yw Gp hS hC hL) v e
structure Ans where
 g:FuncId
 args:List PV
 h:aF
 v:PV×aF
def We:List Ans->Cal
 | [],_,_,_=>none
 | a::l,g,args,h=>(match Nat.beq a.g g&&(PV.wQ a.args args&&Ag a.h h) with | true=>some a.v | false=>We l g args h)
theorem aKM {C:Cal}:∀ {l:List Ans},(∀ a,a∈l->C a.g a.args a.h=some a.v)->TE (We l) C
 | [],_,_,_,_,_,h=>by cases h
 | a::l,hl,g,args,h,v,hv=>by
  unfold We at hv;split at hv
  .rename_i hc;simp only[aY] at hc;injection hv with hv
   have h1:=kE hc.1;have h2:=PV.Af hc.2.1;have h3:=TZ hc.2.2;rw[<- h1,<- h2,<- h3,<- hv];exact hl a (by simp)
  .exact aKM (fun b hb=>hl b (List.mem_cons_of_mem _ hb)) g args h v hv
theorem eQ {C:Cal}:∀ a,a∈([]:List Ans)->C a.g a.args a.h=some a.v:=fun _ h=>by cases h
theorem aM9 {C:Cal} {a:Ans} {l:List Ans} (h:C a.g a.args a.h=some a.v) (hl:∀ a,a∈l->C a.g a.args a.h=some a.v):∀ b,b∈a::l->C b.g b.args b.h=some b.v:=fun b hb=>by
 rcases fQ.1 hb with rfl | hb
 .exact h
 .exact hl b hb
def SE.memo (S:SE) (l:List Ans) (n:Nat):Cal:=fun g args h=>match We l g args h with
 | some v=>some v
 | none=>(S.aW n).1 g args h
theorem b6R (hS:S.OK) {l:List Ans} (hl:∀ a,a∈l->S.CC a.g a.args a.h=some a.v) (n:Nat):TE (S.memo l n) S.CC:=fun g args h v hv=>by
 unfold SE.memo at hv;split at hv
 .rename_i w hw;injection hv with hv; subst hv
  exact aKM hl g args h _ hw
 .exact a4Y hS n hv
theorem aLE (hS:S.OK) (m:Nat) {l:List Ans} (hl:∀ a,a∈l->S.CC a.g a.args a.h=some a.v) (n:Nat) {a:Ans} (e:S.stepT (S.memo l m) n a.g a.args a.h=some a.v):S.CC a.g a.args a.h=some a.v:=aLD hS (b6R hS hl m) n e
end
end Go.Proofs.YtcdceiloganlnaaGreatDoor
end

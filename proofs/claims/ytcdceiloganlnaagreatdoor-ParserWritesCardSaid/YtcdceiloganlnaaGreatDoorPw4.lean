/- A part of the proof: AbY, AbZ, AbU, AbI, AbJ, AbK, AbT, AbH, AbR. -/
import Derived.Test.YtcdceiloganlnaaGreatDoorPw3
import Derived.Test.YtcdceiloganlnaaGreatDoorChecked
import Derived.ProofKit
import Derived.SizedLaws
import Derived.Deep.Slices
import Derived.Deep.Fields
import Derived.ChangeArms
import Derived.OpenShut
import Derived.ChangeOld
import Derived.RangeFuncIn
import Derived.OrdersIn
import Derived.TacticsIn
import Derived.LoopNIn
import Derived.RangeFuncRecord
import Derived.RangeFuncLeaves
set_option linter.unusedVariables false
set_option linter.unusedSimpArgs false
set_option linter.unnecessarySimpa false
set_option linter.unusedSectionVars false
namespace Go.Proofs.YtcdceiloganlnaaGreatDoor
open Go.RowKit
abbrev R:=Option (PV×aG)
abbrev Cal:=FuncId→List PV→aG→R
def aC (b:Bool) (A B:R):R:=match b with | true=>A | false=>B
def chk (b:Bool) (A:R):R:=match b with | true=>A | false=>none
def fU (es:List PV) (n:Int) (K:PV→R):R:=if 0≤n then (match es[n.toNat]? with | some e=>K e | none=>none) else none
def qW (s:ByteArray) (n:Int) (K:Int→R):R:=if 0≤n then (match s[n.toNat]? with | some b=>K b.toNat | none=>none) else none
mutual
def PV.eqb:PV→PV→Bool
 | .int k n,q=>(match q with | .int k' n'=>decide (k=k')&&decide (n=n') | _=>false)
 | .bool b,q=>(match q with | .bool b'=>b==b' | _=>false)
 | .str s,q=>(match q with | .str s'=>s.data.toList==s'.data.toList | _=>false)
 | .nilp,q=>(match q with | .nilp=>true | _=>false)
 | .raw v,q=>(match v,q with | .nilFunc,.raw .nilFunc=>true | .nilIface,.raw .nilIface=>true | _,_=>false)
 | .ptr i o,q=>(match q with | .ptr i' o'=>Nat.beq i i'&&Nat.beq o o' | _=>false)
 | .bld i o,q=>(match q with | .bld i' o'=>Nat.beq i i'&&Nat.beq o o' | _=>false)
 | .cst e,q=>(match q with | .cst e'=>PV.eqb e e' | _=>false)
 | .sl o z l,q=>(match q with | .sl o' z' l'=>(o==o'&&Nat.beq z z')&&PV.eqbL l l' | _=>false)
 | .slh i o n z,q=>(match q with | .slh i' o' n' z'=>(Nat.beq i i'&&Nat.beq o o')&&(Nat.beq n n'&&Nat.beq z z') | _=>false)
 | .slT l,q=>(match q with | .slT l'=>l==l' | _=>false)
 | .slp o n z l,q=>(match q with | .slp o' n' z' l'=>((o==o'&&Nat.beq n n')&&Nat.beq z z')&&PV.eqbL l l' | _=>false)
 | .mp l,q=>(match q with | .mp l'=>PV.eqbL l l' | _=>false)
 | .func f a c,q=>(match q with | .func f' a' c'=>(match f,f' with | .func g,.func g'=>Nat.beq g g' | .yield g,.yield g'=>Nat.beq g g' | _,_=>false)&&(PV.eqbL a a'&&PV.eqbL c c') | _=>false)
 | .agg l,q=>(match q with | .agg l'=>PV.eqbL l l' | _=>false)
 | .tuple l,q=>(match q with | .tuple l'=>PV.eqbL l l' | _=>false)
def PV.eqbL:List PV→List PV→Bool
 | [],l=>(match l with | []=>true | _::_=>false)
 | p::ps,l=>(match l with | []=>false | q::qs=>PV.eqb p q&&PV.eqbL ps qs)
end
mutual
theorem PV.eqb_eq:∀ {p q:PV},PV.eqb p q=true→p=q
 | .int k n,q,h=>by cases q<;>simp[PV.eqb] at h; rw[h.1,h.2]
 | .bool b,q,h=>by cases q<;>simp[PV.eqb] at h; rw[h]
 | .str s,q,h=>by
  cases q<;>simp[PV.eqb] at h
  rename_i s'
  cases s; cases s'; simp only at h; rw[h]
 | .nilp,q,h=>by cases q<;>simp[PV.eqb] at h; rfl
 | .raw v,q,h=>by
  unfold PV.eqb at h
  split at h
  ·rfl
  ·rfl
  ·cases h
 | .ptr i o,q,h=>by cases q<;>simp[PV.eqb] at h; rw[h.1,h.2]
 | .bld i o,q,h=>by cases q<;>simp[PV.eqb] at h; rw[h.1,h.2]
 | .cst e,q,h=>by cases q<;>simp[PV.eqb] at h; rw[PV.eqb_eq h]
 | .sl o z l,q,h=>by cases q<;>simp[PV.eqb] at h; rw[h.1.1,h.1.2,PV.eqbL_eq h.2]
 | .slh i o n z,q,h=>by cases q<;>simp[PV.eqb] at h; rw[h.1.1,h.1.2,h.2.1,h.2.2]
 | .slT l,q,h=>by cases q<;>simp[PV.eqb] at h; rw[h]
 | .slp o n z l,q,h=>by cases q<;>simp[PV.eqb] at h; rw[h.1.1.1,h.1.1.2,h.1.2,PV.eqbL_eq h.2]
 | .mp l,q,h=>by cases q<;>simp[PV.eqb] at h; rw[PV.eqbL_eq h]
 | .func f a c,q,h=>by
  cases q<;>simp[PV.eqb] at h
  obtain ⟨h1,h2,h3⟩:=h
  rw[PV.eqbL_eq h2,PV.eqbL_eq h3]
  split at h1
  ·simp at h1; rw[h1]
  ·simp at h1; rw[h1]
  ·cases h1
 | .agg l,q,h=>by cases q<;>simp[PV.eqb] at h; rw[PV.eqbL_eq h]
 | .tuple l,q,h=>by cases q<;>simp[PV.eqb] at h; rw[PV.eqbL_eq h]
theorem PV.eqbL_eq:∀ {l l':List PV},PV.eqbL l l'=true→l=l'
 | [],l',h=>by cases l'<;>simp[PV.eqbL] at h; rfl
 | p::ps,l',h=>by
  cases l'<;>simp[PV.eqbL] at h
  rw[PV.eqb_eq h.1,PV.eqbL_eq h.2]
end
def VM:aG→aG→Bool
 | [],l=>(match l with | []=>true | _::_=>false)
 | o::os,l=>(match l with
  | []=>false
  | o'::os'=>(match o,o' with | none,none=>true | some a,some b=>PV.eqbL a b | _,_=>false)&&VM os os')
theorem P8:∀ {l l':aG},VM l l'=true→l=l'
 | [],l',h=>by cases l'<;>simp[VM] at h; rfl
 | o::os,l',h=>by
  cases l' with
  | nil=>simp[VM] at h
  | cons o' os' =>
   simp only[VM,Bool.and_eq_true] at h
   rw[P8 h.2]
   congr 1
   have h1:=h.1
   split at h1
   ·rfl
   ·rw[PV.eqbL_eq h1]
   ·cases h1
noncomputable def eqR (a b:PV×aG):R:=open Classical in match PV.eqb a.1 b.1&&VM a.2 b.2 with | true=>some a | false=>if a=b then some a else none
theorem aGA (a:PV×aG):eqR a a=some a:=by
 unfold eqR
 split
 ·rfl
 ·simp
theorem aJK {a b v:PV×aG} (h:eqR a b=some v):a=v∧a=b:=by
 unfold eqR at h
 split at h
 ·rename_i hc
  simp only[Bool.and_eq_true] at hc
  injection h with h
  obtain ⟨a1,a2⟩:=a
  obtain ⟨b1,b2⟩:=b
  have e1:=PV.eqb_eq hc.1
  have e2:=P8 hc.2
  simp only at e1 e2
  subst e1; subst e2
  exact ⟨h,rfl⟩
 ·split at h
  ·rename_i hc; injection h with h; exact ⟨h,hc⟩
  ·cases h
noncomputable def a2Y (es:List PV) (K:Bool→R):R:=match K false with
 | some (r,h)=>(match es.isEmpty with | false=>some (r,h) | true=>match K true with | some (r',h')=>eqR (r,h) (r',h') | none=>none)
 | none=>none
def a1T (es:List PV) (n:Nat) (K:PV→R):R:=match es[n]? with | some e=>K e | none=>none
def zT (C:Cal) (g:FuncId) (args:List PV) (K:PV→R):R:=match C g args [] with | some (r,[])=>K r | _=>none
def clH (C:Cal) (g:FuncId) (args:List PV) (h:aG) (K:PV→aG→R):R:=match C g args h with | some (r,h')=>K r h' | none=>none
def fnX (p:PV) (K:Bool→R):R:=match p with | .func _ _ _=>K false | .raw .nilFunc=>K true | _=>none
def fvX (p:PV) (K:FuncId→List PV→List PV→R):R:=match p with | .func (.func g) first caps=>K g first caps | _=>none
def aJ6:List PV→Nat→Int→(PV→R)→R
 | [],_,_,_=>none
 | p::r,k,n,K=>aC (n==(k:Int)) (K p) (aJ6 r (k+1) n K)
def aEG (s:Option IntKind) (L:List PV) (q:PV) (A:PV→R) (B:R):R:=match oQ s L q with
 | some (some p)=>A p
 | some none=>B
 | none=>none
def SV (s:Option IntKind):List PV→PV→(PV→R)→R→R
 | k::v::L,q,A,B=>(match eqK s q k with | some b=>aC b (A v) (SV s L q A B) | none=>none)
 | [],_,_,B=>B
 | [_],_,_,_=>none
structure XE where
 E:AE
 C:Cal
 V:TypeId→PV→(PV→R)→R
 W:FuncId→aG→PV→aG→(PV→aG→R)→R
 L:List Nat→Nat→Code→(AX→ASt→R)→ASt→R
 m0:Nat
def aR2 (d:Nat) (v:Bool):cZ→cZ
 | [] => []
 | (j,q)::l=>bif Nat.beq j d then (j,.bool v)::l else (j,q)::aR2 d v l
def ASt.lit (d:Nat) (v:Bool) (σ:ASt):ASt := { σ with s:=aR2 d v σ.s }
theorem YV {d:Nat} {v:Bool}:∀ {s:cZ},bK d s=some (.bool v)→aR2 d v s=s
 | [],h=>by simp[bK] at h
 | (j,q)::l,h=>by
  rw[bK] at h
  rw[aR2]
  by_cases e:j=d
  ·rw[if_pos e] at h; injection h with h; subst h; subst e
   rw[show Nat.beq j j=true by simp]; rfl
  ·rw[if_neg e] at h
   have hb:Nat.beq j d=false:=by
    cases h:Nat.beq j d
    ·rfl
    ·exact absurd (Nat.eq_of_beq_eq_true h) e
   rw[hb,YV h]; rfl
def dN (E:AE) (dst:Option Nat) (p:PV) (K:ASt→R) (σ:ASt):R:=match ASt.put E dst p σ with | some σ'=>K σ' | none=>none
def aJ1 (E:AE) (dst:Option Nat) (p:Option PV) (K:ASt→R) (σ:ASt):R:=match p with | some p=>dN E dst p K σ | none=>none
def kG (X:XE) (o:Oper) (K:ASt→R) (σ:ASt):R:=match aU X.E o σ with | some (p,σ1)=>dN X.E o.dst p K σ1 | none=>none
def tZ (X:XE) (dst:Option Nat) (sz:Nat) (es:List PV) (lo hi:Option Operand) (K:ASt→R) (σ:ASt):R :=
 match lo,hi with
 | none,none=>dN X.E dst (.sl false sz es) K σ
 | some l,none=>(match σ.rd l with | some (.int _ a)=>chk (decide (0≤a)&&decide (a≤es.length)) (dN X.E dst (.sl false sz (es.drop a.toNat)) K σ) | _=>none)
 | none,some h=>(match σ.rd h with | some (.int _ b)=>chk (decide (0≤b)&&decide (b≤es.length)) (dN X.E dst (.sl false sz (es.take b.toNat)) K σ) | _=>none)
 | some l,some h=>(match σ.rd l,σ.rd h with | some (.int _ a),some (.int _ b)=>chk (decide (0≤a)&&decide (a≤b)&&decide (b≤es.length)) (dN X.E dst (.sl false sz ((es.take b.toNat).drop a.toNat)) K σ) | _,_=>none)
def tC (X:XE) (dst:Option Nat) (s:ByteArray) (lo hi:Option Operand) (K:ASt→R) (σ:ASt):R :=
 match lo,hi with
 | none,none=>dN X.E dst (.str (s.extract 0 s.size)) K σ
 | some l,none=>(match σ.rd l with | some (.int _ a)=>chk (decide (0≤a)&&decide (a≤s.size)) (dN X.E dst (.str (s.extract a.toNat s.size)) K σ) | _=>none)
 | none,some h=>(match σ.rd h with | some (.int _ b)=>chk (decide (0≤b)&&decide (b≤s.size)) (dN X.E dst (.str (s.extract 0 b.toNat)) K σ) | _=>none)
 | some l,some h=>(match σ.rd l,σ.rd h with | some (.int _ a),some (.int _ b)=>chk (decide (0≤a)&&decide (a≤b)&&decide (b≤s.size)) (dN X.E dst (.str (s.extract a.toNat b.toNat)) K σ) | _,_=>none)
def aFX (X:XE) (dst:Option Nat) (t:TypeId) (sz:Nat) (es:List PV) (n:Int) (K:ASt→R) (σ:ASt):R :=
 match jQ X.E.P t,dO X.E.P t with
 | some e,some I=>if I.size=sz then fU es n fun p=>X.V e p fun q=>dN X.E dst (.cst q) K σ else none
 | _,_=>none
def X9 (X:XE) (dst:Option Nat) (k k':IntKind) (b:Int) (r:Int) (K:ASt→R) (σ:ASt):R:=if k=k' then chk (!(b==0)) (dN X.E dst (.int k r) K σ) else none
def b1O (X:XE) (dst:Option Nat) (k:IntKind) (b:Int) (r:Int) (K:ASt→R) (σ:ASt):R:=chk (decide (0≤b)) (dN X.E dst (.int k r) K σ)
def a0F (P:Program) (t:TypeId):Option (Nat×TypeId):=match P.underlying t with
 | some (.array m e)=>(match ti P e with | some I=>(match Nat.beq I.size 1 && !I.agg with | true=>some (m,e) | false=>none) | none=>none)
 | _=>none
def b2Q (E:AE):Operand→Bool
 | .tmp t=>NQ E.sy t
 | _=>false
def BC (X:XE) (dst:Option Nat) (t:TypeId) (i off n sz:Nat) (lo hi:Option Operand) (K:ASt→R) (σ:ASt):R :=
 match dO X.E.P t with
 | some I=>(match Nat.beq I.size sz&&Nat.blt 0 sz with
  | true=>(match lo,hi with
   | none,some h=>(match σ.rd h with | some (.int _ b)=>chk (decide (0≤b)&&decide (b≤(n:Int))&&decide (0<n)) (dN X.E dst (.slh i off b.toNat sz) K σ) | _=>none)
   | some l,none=>(match σ.rd l with | some (.int _ a)=>chk (decide (0≤a)&&decide (a≤(n:Int))) (aC (decide (a<(n:Int))) (dN X.E dst (.slh i (off+a.toNat*sz) (n-a.toNat) sz) K σ) (dN X.E dst (.sl false sz []) K σ)) | _=>none)
   | _,_=>none)
  | false=>none)
 | none=>none
def a0C (X:XE) (dst:Option Nat) (t:TypeId) (l c:Operand) (K:ASt→R) (σ:ASt):R :=
 match dO X.E.P t,σ.rd l,σ.rd c with
 | some I,some (.int _ n),some (.int _ n')=>(match Nat.blt 0 I.size&&Nat.ble I.bytes 1024 with
  | true=>chk (decide (n=n')&&decide (0≤n)&&decide (n≤1073741824)) (match dL X.E.mu dst with
   | true=>dN X.E dst (.slh σ.h.length 0 n.toNat I.size) K ⟨σ.s,σ.h ++ [some (lN n.toNat I)]⟩
   | false=>(match Nat.beq (kR I).size I.size&&(kR I).okE with | true=>dN X.E dst (.sl true I.size (List.replicate n.toNat (kR I))) K σ | false=>none))
  | false=>none)
 | _,_,_=>none
def a7' (X:XE) (dst:Option Nat) (t:TypeId) (x y:Operand) (K:ASt→R) (σ:ASt):R :=
 match dO X.E.P t,σ.rd x,σ.rd y with
 | some I,some (.slh i off n sz),some (.sl _ sz' es)=>(match σ.h[i]? with
  | some (some cs)=>(match Nat.beq I.size sz&&(Nat.blt 0 sz&&(Nat.beq sz' sz||Nat.beq sz' 0)) with
   | true=>chk (decide (off+n*sz≤cs.length)) (dN X.E dst (.int .i64 ((Nat.min es.length n:Nat):Int)) K { σ with h:=σ.h.set i (some (cs.take off ++ (aX es).take (Nat.min es.length n*sz) ++ cs.drop (off+Nat.min es.length n*sz))) })
   | false=>none)
  | _=>none)
 | some I,some (.slh i off n sz),some (.slh j off2 m sz')=>(match σ.h[i]?,σ.h[j]? with
  | some (some cs),some (some cs2)=>(match Nat.beq I.size sz&&(Nat.blt 0 sz&&Nat.beq sz' sz) with
   | true=>chk (decide (off+n*sz≤cs.length)&&decide (off2+m*sz≤cs2.length)) (dN X.E dst (.int .i64 ((Nat.min m n:Nat):Int)) K { σ with h:=σ.h.set i (some (cs.take off ++ (((cs2.drop off2).take (m*sz)).map PV.un).take (Nat.min m n*sz) ++ cs.drop (off+Nat.min m n*sz))) })
   | false=>none)
  | _,_=>none)
 | _,_,_=>none
def OX (X:XE) (dst:Option Nat) (t:TypeId) (x:Operand) (K:ASt→R) (σ:ASt):R :=
 match dO X.E.P t,σ.rd x,dst with
 | some I,some (.slh i off n sz),none=>(match σ.h[i]? with
  | some (some cs)=>(match Nat.beq I.size sz with
   | true=>chk (decide (off+n*sz≤cs.length)) (K { σ with h:=σ.h.set i (some (cs.take off ++ (lN n I).map PV.un ++ cs.drop (off+n*sz))) })
   | false=>none)
  | _=>none)
 | some _,some (.sl _ _ []),none=>K σ
 | _,_,_=>none
def aD8 (X:XE) (dst:Option Nat) (t:TypeId) (p:PV) (pos:Bool) (K:ASt→R) (σ:ASt):R:=match D5 X.E.P t with
 | true=>fnX p fun b=>dN X.E dst (.bool (b==pos)) K σ
 | false=>none
def a5O (X:XE) (dst:Option Nat) (ts:List TypeId) (s:Operand) (n sz:Nat) (cs:List PV) (sz':Nat) (es':List PV) (K:ASt→R) (σ:ASt):R:=match ts with
 | [t,u]=>(match dO X.E.P t with
  | some I=>(match Nat.beq t u&&(Nat.blt 0 I.size&&(Nat.ble I.bytes 1024&&(Nat.beq sz I.size&&(Nat.beq sz' I.size||Nat.beq sz' 0)))) with
   | true=>chk (decide (n+es'.length≤iP)&&(aX es').all PV.lit) (dN X.E dst (.slp true (n+es'.length) sz (cs ++ aX es')) K (σ.clr s))
   | false=>none)
  | none=>none)
 | _=>none
def aUH (b:Bool) (off:Nat) (n:Int) (sz:Nat):Nat:=match b with
 | true=>off+n.toNat*sz
 | false=>(match off,sz with | 0,1=>n.toNat | _,_=>off+n.toNat*sz)
theorem aRP (b:Bool) (off:Nat) (n:Int) (sz:Nat):aUH b off n sz=off+n.toNat*sz:=by
 unfold aUH
 split
 ·rfl
 ·split
  ·omega
  ·rfl
def a'5 (P:Program) (t:TypeId):TypeId:=match P.underlying t with | some (.map _ e)=>e | _=>0
def a02 (X:XE) (dst:Option Nat) (t:TypeId) (ok:Bool) (m q:PV) (K:ASt→R) (σ:ASt):R :=
 match BV X.E.P t,m with
 | some (s,z),.bld 0 i=>(match σ.h[i]? with
  | some (some cs)=>(match zG cs with
   | some (_,L)=>(match nR s q with
    | true=>(match dL X.E.sy dst with
     | true=>SV s L q (fun p=>dN X.E dst (AC ok z (some p)) K σ) (dN X.E dst (AC ok z none) K σ)
     | false=>aEG s L q (fun p=>X.V (a'5 X.E.P t) p fun p'=>dN X.E dst (AC ok z (some p')) K σ) (dN X.E dst (AC ok z none) K σ))
    | false=>none)
   | none=>none)
  | _=>none)
 | _,_=>none
def WZ (X:XE) (dst:Option Nat) (t:TypeId) (m q x:PV) (K:ASt→R) (σ:ASt):R :=
 match BV X.E.P t,m,dst with
 | some (s,_),.bld 0 i,none=>(match σ.h[i]? with
  | some (some cs)=>(match zG cs with
   | some (b,L)=>(match nR s q with
    | true=>chk (qX s L q&&(!b||x.flat)) (K { σ with h:=σ.h.set i (some [qO b (eG s L q x)]) })
    | false=>none)
   | none=>none)
  | _=>none)
 | _,_,_=>none
def ZV (X:XE) (dst:Option Nat) (b:Bool) (q:Option PV) (K:ASt→R) (σ:ASt):R:=match b,q with
 | true,some (.bld T i)=>(match σ.h[i]? with
  | some (some cs)=>(match KR cs with
   | some (s,p)=>(match Nat.beq T ITT with
    | true=>chk (decide (0≤p)) (aC (decide (p<(s.size:Int))) (dN X.E dst (.tuple [.bool true,.int .i64 p,.int .i32 (ZI s p)]) K { σ with h:=σ.h.set i (some [wU s (MI s p)]) }) (dN X.E dst (.tuple [.bool false]) K σ))
    | false=>none)
   | none=>none)
  | _=>none)
 | _,_=>none
def aEF (X:XE) (o:Oper) (K:ASt→R) (σ:ASt):R :=
 match o.op with
 | .convert s d x=>(match σ.rd x with
  | some (.sl _ _ es)=>(match vV X.E.P s&&kC X.E.P d with | true=>chk (a5C es) (dN X.E o.dst (.str (strOf es)) K σ) | false=>none)
  | _=>kG X o K σ)
 | .indexAddr t x i=>(match σ.rd x,σ.rd i with
  | some (.sl _ sz es),some (.int _ n)=>aFX X o.dst t sz es n K σ
  | some (.slh i off m sz),some (.int _ n)=>(match dL X.E.sy o.dst with
   | true=>(match dO X.E.P t with
    | some I=>(match Nat.beq I.size sz with | true=>chk (decide (0≤n)&&decide (n<(m:Int))) (dN X.E o.dst (.ptr i (aUH (dL X.E.sy (o.dst.map (8000000 + ·))) off n sz)) K σ) | false=>none)
    | none=>none)
   | false=>kG X o K σ)
  | some (.ptr i off),some (.int _ n)=>(match dL X.E.sy o.dst with
   | true=>(match JM X.E.P t with
    | some (m,I)=>chk (decide (0≤n)&&decide (n<(m:Int))) (dN X.E o.dst (.ptr i (off+n.toNat*I.size)) K σ)
    | none=>none)
   | false=>kG X o K σ)
  | some (.cst (.agg cs)),some (.int _ n)=>(match a0F X.E.P t with
   | some (m,e)=>chk (decide (n<(m:Int))) (fU cs n fun p=>X.V e p fun q=>(match q.one with | true=>dN X.E o.dst (.cst q.un) K σ | false=>none))
   | none=>kG X o K σ)
  | _,_=>kG X o K σ)
 | .load t a=>(match b2Q X.E a && !dL X.E.ln o.dst with
  | true=>(match ti X.E.P t,σ.rd a with
   | some I,some (.ptr i off)=>(match σ.h[i]? with
    | some (some cs)=>(match I.agg with
     | true=>chk (decide (off+I.size≤cs.length)) (X.V t (.agg (((cs.drop off).take I.size).map PV.un)) fun q=>dN X.E o.dst q K σ)
     | false=>(match !dL X.E.mv o.dst with | true=>a1T cs off fun p=>X.V t p fun q=>dN X.E o.dst q.un K σ | false=>none))
    | _=>none)
   | _,_=>none)
  | false=>(match σ.rd a,ti X.E.P t with
   | some (.cst e),some I=>chk (decide (e.isAgg=I.agg)&&decide (e.size=I.size)) (dN X.E o.dst e.un K σ)
   | _,_=>kG X o K σ))
 | .store t a x=>(match b2Q X.E a && !dL X.E.mu (uI a) with
  | true=>(match ti X.E.P t,σ.rd a,σ.ev x,o.dst with
   | some I,some (.ptr i off),some p,none=>(match σ.h[i]? with
    | some (some cs)=>(match p with
     | .agg ds=>(match Nat.beq ds.length I.size&&ds.all PV.one with | true=>chk (decide (off+I.size≤cs.length)) (K { σ.clr x with h:=(σ.clr x).h.set i (some (cs.take off ++ ds.map PV.un ++ cs.drop (off+I.size))) }) | false=>none)
     | p=>(match p.one&&Nat.beq I.size 1 with | true=>chk (decide (off<cs.length)) (K { σ.clr x with h:=(σ.clr x).h.set i (some (cs.set off p)) }) | false=>none))
    | _=>none)
   | _,_,_,_=>none)
  | false=>(match σ.ev x with
   | some (.agg ds)=>(match ti X.E.P t,σ.rd a,o.dst with
    | some I,some (.ptr i off),none=>(match σ.h[i]? with
     | some (some cs)=>(match aD7 X.E.mu X.E.ln (uI a) (σ.rd a)&&(Nat.beq ds.length I.size&&Nat.ble (off+I.size) cs.length) with
      | true=>chk (ds.all PV.one) (K { σ.clr x with h:=(σ.clr x).h.set i (some (cs.take off ++ ds.map PV.un ++ cs.drop (off+I.size))) })
      | false=>none)
     | _=>none)
    | _,_,_=>none)
   | _=>kG X o K σ))
 | .index t x i=>(match σ.rd x,σ.rd i with
  | some (.str s),some (.int _ n)=>(match kC X.E.P t with | true=>qW s n fun b=>dN X.E o.dst (.int .u8 b) K σ | false=>none)
  | some (.agg cs),some (.int _ n)=>(match dL X.E.sy o.dst with
   | true=>(match a0F X.E.P t with
    | some (m,_)=>chk (decide (0≤n)&&decide (n<(m:Int))) (aJ6 cs 0 n fun p=>(match p.one with | true=>dN X.E o.dst p.un K σ | false=>none))
    | none=>none)
   | false=>kG X o K σ)
  | _,_=>kG X o K σ)
 | .pick c a b=>(match σ.rd c with
  | some (.bool v)=>aC v (aJ1 X.E o.dst (σ.rd a) K σ) (aJ1 X.E o.dst (σ.rd b) K σ)
  | _=>none)
 | .slice t x lo hi none=>(match σ.rd x with
  | some (.sl _ sz es)=>(match dO X.E.P t with | some I=>if I.size=sz then tZ X o.dst sz es lo hi K σ else none | none=>none)
  | some (.str s)=>(match kC X.E.P t with | true=>tC X o.dst s lo hi K σ | false=>none)
  | some (.slh i off n sz)=>BC X o.dst t i off n sz lo hi K σ
  | _=>kG X o K σ)
 | .slice t x (some l) (some u) (some m)=>(match σ.rd x,σ.rd l,σ.rd u,σ.rd m with
  | some (.sl _ sz es),some (.int _ a),some (.int _ b),some (.int _ c)=>(match dO X.E.P t with
   | some I=>(match Nat.beq I.size sz with | true=>chk (decide (0≤a)&&decide (a≤b)&&decide (b≤c)&&decide (c≤(es.length:Int))) (dN X.E o.dst (.sl false sz ((es.take b.toNat).drop a.toNat)) K σ) | false=>none)
   | none=>none)
  | _,_,_,_=>none)
 | .makeSlice t l c=>a0C X o.dst t l c K σ
 | .lookup t m k ok=>(match σ.rd m,σ.rd k with
  | some pm,some q=>a02 X o.dst t ok pm q K σ
  | _,_=>none)
 | .mapUpdate t m k x=>(match σ.rd m,σ.rd k,σ.rd x with
  | some pm,some q,some y=>WZ X o.dst t pm q y K σ
  | _,_,_=>none)
 | .insert t m k x=>(match a4M X.E.mu X.E.ln (uI m) (σ.rd m) with
  | false=>none
  | true=>(match σ.rd m,σ.rd k,σ.rd x with
   | some pm,some q,some y=>WZ X o.dst t pm q y K σ
   | _,_,_=>none))
 | .next x b=>ZV X o.dst b (σ.rd x) K σ
 | .fieldAddr s x f=>(match σ.rd x,fieldsOf X.E.P s with
  | some (.cst (.agg cs)),some fs=>(match fs[f]? with
   | some (off,z,false)=>(match Nat.beq z 0,cs[off]? with
    | false,some p=>chk p.one (dN X.E o.dst (.cst p.un) K σ)
    | _,_=>none)
   | _=>kG X o K σ)
  | _,_=>kG X o K σ)
 | .box t x=>(match dL X.E.fz o.dst,σ.rd x with
  | true,some (.agg ds)=>chk (ds.all PV.one&&PV.flats ds) (dN X.E o.dst (.cst (.agg (ds.map PV.un))) K σ)
  | _,_=>kG X o K σ)
 | .binOp op t x y _=>(match op,σ.rd x,σ.rd y with
  | .quo,some (.int k a),some (.int k' b)=>X9 X o.dst k k' b (k.wrap (a.tdiv b)) K σ
  | .rem,some (.int k a),some (.int k' b)=>X9 X o.dst k k' b (a.tmod b) K σ
  | .shl,some (.int k a),some (.int _ b)=>b1O X o.dst k b (k.wrap (a*2 ^ min b.toNat k.bits)) K σ
  | .shr,some (.int k a),some (.int _ b)=>b1O X o.dst k b (a.fdiv (2 ^ min b.toNat k.bits)) K σ
  | .add,some (.str a),some (.str b)=>chk (decide (a.size+b.size≤iP)) (dN X.E o.dst (.str (a ++ b)) K σ)
  | .eql,some p,some (.raw .nilFunc)=>aD8 X o.dst t p true K σ
  | .neq,some p,some (.raw .nilFunc)=>aD8 X o.dst t p false K σ
  | _,_,_=>kG X o K σ)
 | .call c=>(match c.callee with
  | .builtin .clear=>(match c.args.toList,c.argTypes.toList with
   | [x],[t]=>OX X o.dst t x K σ
   | _,_=>none)
  | .builtin .copy=>(match c.args.toList,c.argTypes.toList with
   | [x,y],[t,_]=>a7' X o.dst t x y K σ
   | _,_=>none)
  | .builtin .append=>(match c.args.toList with
   | [s,x]=>(match σ.ev s,σ.rd x with
    | some (.sl _ _ es),some (.sl _ _ es')=>chk (decide (es.length+es'.length≤iP)) (kG X o K σ)
    | some (.sl _ _ es),some (.str b)=>chk (decide (es.length+b.size≤iP)) (kG X o K σ)
    | some (.slp true n sz cs),some (.sl _ sz' es')=>a5O X o.dst c.argTypes.toList s n sz cs sz' es' K σ
    | some (.slT l),some (.str b)=>chk (decide (l.length+b.size≤iP)) (kG X o K σ)
    | some (.slT l),some (.sl _ _ es')=>(match aFN es' with
     | some c=>chk (decide (l.length+1≤iP)&&decide (0≤c)&&decide (c<256)) (kG X o K σ)
     | none=>none)
    | _,_=>none)
   | _=>none)
  | .builtin _=>kG X o K σ
  | _=>none)
 | _=>kG X o K σ
def aPE (zs:List Nat) (p:PV):PV:=match zs.all (Nat.beq · 0) with | true=>p | false=>p.reszT zs
def uB (P:Program):List TypeId→List PV→List PV
 | t::ts,p::ps=>aPE (KU P 8 t) p::uB P ts ps
 | _,ps=>ps
def jL (E:AE) (o:Oper):List TypeId:=match dL E.sy (o.dst.map (9000000 + ·)) with | true => [] | false=>(match o.op with | .call c=>c.argTypes.toList | _ => [])
mutual
def PV.ids:PV→List Nat
 | .ptr i _ => [i]
 | .bld _ i => [i]
 | .slh i _ _ _ => [i]
 | .func _ a c=>PV.idsL a ++ PV.idsL c
 | .agg cs=>PV.idsL cs
 | .tuple cs=>PV.idsL cs
 | _ => []
def PV.idsL:List PV→List Nat
 | [] => []
 | p::ps=>p.ids ++ PV.idsL ps
end
def GH (l:List Nat):List Nat→List Nat
 | []=>l
 | i::is=>GH (match NQ l i with | true=>l | false=>l ++ [i]) is
def aB6 (H:aG):List Nat→List Nat
 | [] => []
 | i::l=>(match rZ H i with | some cs=>PV.idsL cs | none => []) ++ aB6 H l
def zY (H:aG):Nat→List Nat→List Nat
 | 0,l=>l
 | n+1,l=>zY H n (GH l (aB6 H l))
def aST (ids:List Nat) (H:aG) (full:List PV):Bool :=
 nodupB ids&&(ids.all (fun i=>Nat.blt i H.length)&&(PV.allIL (NQ ids) full&&ids.all fun i=>match rZ H i with | some cs=>PV.allIL (NQ ids) cs | none=>true))
def kY (X:XE) (dst:Option Nat) (g:FuncId) (full:List PV) (ids:List Nat) (K:ASt→R) (σ:ASt):R :=
 match aST ids σ.h full with
 | true=>clH X.C g (kZ (wB ids) full) ((ids.map (rZ σ.h)).map (nC (wB ids))) fun r h'=>X.W g ((ids.map (rZ σ.h)).map (nC (wB ids))) r h' fun r' h''=>dN X.E dst (kM (lJ ids σ.h.length) r') K ⟨σ.s,DN ids σ.h h''⟩
 | false=>none
def LZ (p:PV):Bool:=p.one&&p.flat
def yS:Option (List PV)→Bool
 | some cs=>cs.all LZ
 | none=>true
def aUQ (ids:List Nat) (H h':aG):aG:=gJ ids (h'.take ids.length) H ++ h'.drop ids.length
def xZ (X:XE) (dst:Option Nat) (g:FuncId) (full:List PV) (ids:List Nat) (K:ASt→R) (σ:ASt):R :=
 match nodupB ids&&(ids.all (fun i=>Nat.blt i σ.h.length)&&PV.allIL (NQ ids) full) with
 | true=>chk ((ids.map (rZ σ.h)).all yS) (clH X.C g (kZ (wB ids) full) (ids.map (rZ σ.h)) fun r h'=>X.W g (ids.map (rZ σ.h)) r h' fun r' h''=>chk (h''.all yS) (dN X.E dst (kM (lJ ids σ.h.length) r') K ⟨σ.s,aUQ ids σ.h h''⟩))
 | false=>none
def a5A (X:XE) (dst:Option Nat) (r:PV) (K:ASt→R) (σ:ASt):R:=match r with
 | .sl true 1 es=>chk (decide (0<es.length)&&es.all kD) (dN X.E dst (.slh σ.h.length 0 es.length 1) K ⟨σ.s,σ.h ++ [some es]⟩)
 | .sl true sz es=>aC (decide (0<es.length)) (chk (es.all (nN sz)) (dN X.E dst (.slh σ.h.length 0 es.length sz) K ⟨σ.s,σ.h ++ [some (aX es)]⟩)) (dN X.E dst (.sl true sz []) K σ)
 | _=>none
def a6L (X:XE) (dst:Option Nat) (g:FuncId) (full:List PV) (K:ASt→R) (σ:ASt):R :=
 chk (U7 σ.h full) (zT X.C g (aA8 σ.h full) fun r=>X.W g [] r [] fun r' _=>(match r'.noref with | true=>dN X.E dst r' K σ | false=>none))
def b39 (l ids:List Nat) (n:Nat):Bool:=l.all fun k=>match Nat.ble 1000000 k with
 | true=>Nat.blt (k-1000000) n && !NQ ids (k-1000000)
 | false=>true
def FH (X:XE) (draw:Bool) (o:Oper) (f:Operand) (args:List Operand) (K:ASt→R) (σ:ASt):R :=
 match σ.rd f,bQ (args.map σ.rd) with
 | some (.func (.func g) first caps),some az=>(match !draw&&(dL X.E.ln o.dst&&dL X.E.sy o.dst) with
  | true=>(match dL X.E.sy (o.dst.map (6000000 + ·)) with
   | true=>xZ X o.dst g (first ++ uB X.E.P (jL X.E o) az ++ caps) (GH [] (PV.idsL (first ++ uB X.E.P (jL X.E o) az ++ caps))) K σ
   | false=>kY X o.dst g (first ++ uB X.E.P (jL X.E o) az ++ caps) (zY σ.h 3 (GH [] (PV.idsL (first ++ uB X.E.P (jL X.E o) az ++ caps)))) K σ)
  | false=>match PV.flats (first ++ uB X.E.P (jL X.E o) az ++ caps) with
   | true=>zT X.C g (first ++ uB X.E.P (jL X.E o) az ++ caps) fun r=>X.W g [] r [] fun r' _=>(match !draw&&dL X.E.mu o.dst with
    | true=>a5A X o.dst r' K σ
    | false=>(match PV.flat r' with | true=>dN X.E o.dst r' K σ | false=>none))
   | false=>(match draw with
    | true=>match dL X.E.sy o.dst&&b39 X.E.ln (zY σ.h 3 (GH [] (PV.idsL (first ++ uB X.E.P (jL X.E o) az ++ caps)))) σ.h.length with
     | true=>kY X o.dst g (first ++ uB X.E.P (jL X.E o) az ++ caps) (zY σ.h 3 (GH [] (PV.idsL (first ++ uB X.E.P (jL X.E o) az ++ caps)))) K σ
     | false=>none
    | false=>match dL X.E.ln o.dst with
     | true=>a6L X o.dst g (first ++ uB X.E.P (jL X.E o) az ++ caps) K σ
     | false=>match dL X.E.sy o.dst with
     | true=>xZ X o.dst g (first ++ uB X.E.P (jL X.E o) az ++ caps) (GH [] (PV.idsL (first ++ uB X.E.P (jL X.E o) az ++ caps))) K σ
     | false=>kY X o.dst g (first ++ uB X.E.P (jL X.E o) az ++ caps) (zY σ.h 3 (GH [] (PV.idsL (first ++ uB X.E.P (jL X.E o) az ++ caps)))) K σ))
 | _,_=>none
def PU (X:XE) (o:Oper) (f:Operand) (args:List Operand) (K:ASt→R) (σ:ASt):R :=
 match σ.rd f,bQ (args.map σ.rd) with
 | some p,some az=>fvX p fun g first caps=>chk (PV.flats (first ++ uB X.E.P (jL X.E o) az ++ caps)) (zT X.C g (first ++ uB X.E.P (jL X.E o) az ++ caps) fun r=>X.V o.type r fun r'=>(match PV.flat r' with | true=>dN X.E o.dst r' K σ | false=>none))
 | _,_=>none
noncomputable def ex1 (X:XE) (draw:Bool) (o:Oper) (K:ASt→R) (σ:ASt):R :=
 match kE o with
 | some (f,args)=>(match dL X.E.sy (o.dst.map (2000000 + ·)) with | true=>PU X o f args K σ | false=>FH X draw o f args K σ)
 | none=>match draw with
  | true=>aEF X o K σ
  | false=>match a7J X.E o σ with
   | some (es,pos)=>a2Y es fun b=>dN X.E o.dst (.bool (b==pos)) K σ
   | none=>aEF X o K σ
noncomputable def a3T (X:XE) (draw:Bool) (o:Oper) (d:Nat) (want v:Bool) (K:ASt→R) (σ:ASt):R :=
 match v==want with
 | true=>ex1 X draw o K (σ.lit d v)
 | false=>dN X.E o.dst (.tuple []) K (σ.lit d v)
noncomputable def gB (X:XE) (draw:Bool) (ops:Array Oper):List Oper→(ASt→R)→ASt→R
 | [],K,σ=>K σ
 | o::l,K,σ=>match o.guard with
  | none=>ex1 X draw o (gB X draw ops l K) σ
  | some (j,want)=>match (ops[j]?).bind (·.dst) with
   | none=>dN X.E o.dst (.tuple []) (gB X draw ops l K) σ
   | some d=>match bK d σ.s with
    | some (.bool b)=>aC b (a3T X draw o d want true (gB X draw ops l K) σ) (a3T X draw o d want false (gB X draw ops l K) σ)
    | some (.tuple [])=>dN X.E o.dst (.tuple []) (gB X draw ops l K) σ
    | _=>none
def qU (k:ASt→R) (K:AX→ASt→R):AX→ASt→R
 | .normal,σ=>k σ
 | .ret,σ=>K .ret σ
 | .exit i,σ=>K (.exit i) σ
def jH (id:Nat) (K:AX→ASt→R):AX→ASt→R
 | .exit i,σ=>if i=id then K .normal σ else K (.exit i) σ
 | .normal,σ=>K .normal σ
 | .ret,σ=>K .ret σ
def ASt.keys (E:AE) (σ:ASt):List Nat:=(σ.keep E.vars).s.map (·.1)
def rid:Code→Nat
 | .region id _ _=>id+1
 | .seq .skip y=>rid y
 | .seq (.label _) y=>rid y
 | .seq x _=>rid x
 | .block _ x=>rid x
 | .scope x=>rid x
 | .loop x=>rid x
 | _=>0
mutual
def PV.tops:PV→Nat
 | .ptr i _=>i+1
 | .bld _ i=>i+1
 | .slh i _ _ _=>i+1
 | .func _ f c=>Nat.max (PV.topsL f) (PV.topsL c)
 | .agg cs=>PV.topsL cs
 | .tuple cs=>PV.topsL cs
 | _=>0
def PV.topsL:List PV→Nat
 | []=>0
 | p::ps=>Nat.max p.tops (PV.topsL ps)
end
def aSK:cZ→Nat
 | []=>0
 | (_,p)::l=>Nat.max p.tops (aSK l)
def aH8:Nat→aG→Nat
 | 0,_=>0
 | _,[]=>0
 | n+1,o::h=>Nat.max (match o with | some cs=>PV.topsL cs | none=>0) (aH8 n h)
def aSZ:PV→List Nat
 | .slh i _ _ _ => [i]
 | _ => []
def DW:List PV→List Nat
 | [] => []
 | p::ps=>GH (aSZ p) (DW ps)
def aY1:List Nat→List Nat
 | [] => []
 | k::l=>(match Nat.ble 8500000 k with | true=>(k-8500000)::aY1 l | false=>aY1 l)
def a2A (l:List Nat):cZ→List Nat
 | []=>aY1 l
 | (k,p)::s=>(match NQ l k with | true=>GH (match NQ l (7000000+k) with | true=>p.ids | false=>aSZ p) (a2A l s) | false=>a2A l s)
def MR (fl:List Nat):Nat→aG→aG
 | _,[] => []
 | j,o::h=>(match NQ fl j with | true=>none | false=>o)::MR fl (j+1) h
def plainO (h:aG):List Nat→Bool
 | []=>true
 | i::is=>(match h[i]? with | some (some cs)=>cs.all LZ | _=>true)&&plainO h is
def a4G (m0:Nat) (l:List Nat) (σ:ASt):Nat :=
 let h:=MR (a2A l σ.s) 0 σ.h
 let a:=Nat.max m0 (aSK (σ.keep l).s)
 let b:=Nat.max a (aH8 a h)
 Nat.max b (aH8 b h)
def y9 (l:List Nat) (m:Nat) (σ:ASt):Bool:=plainO (σ.gc l m).h (a2A l (σ.gc l m).s)
def EO (l:List Nat) (m:Nat) (σ:ASt):Bool:=(σ.gc l m).s.all (fun kp=>kp.2.blw m)&&OM m (MR (a2A l (σ.gc l m).s) 0 (σ.gc l m).h)
theorem YB (fl:List Nat):∀ (h:aG) (j k:Nat) (o:Option (List PV)),h[k]? = some o→(MR fl j h)[k]? = some (match NQ fl (j+k) with | true=>none | false=>o)
 | [],_,_,_,h=>by simp at h
 | a::h,j,0,o,e=>by simp at e; subst e; simp[MR]
 | a::h,j,k+1,o,e=>by
  rw[MR,List.getElem?_cons_succ,YB fl h (j+1) k o (by simpa using e),show j+1+k=j+(k+1) by omega]
theorem SN {h:aG}:∀ {fl:List Nat} {i:Nat} {cs:List PV},plainO h fl=true→i∈fl→h[i]? = some (some cs)→cs.all LZ=true
 | a::fl,i,cs,hp,hi,e=>by
  simp only[plainO,Bool.and_eq_true] at hp
  rcases List.mem_cons.1 hi with rfl | hi
  ·have:=hp.1; rw[e] at this; exact this
  ·exact SN hp.2 hi e
theorem Q9 (m:Nat):∀ {cs:List PV},cs.all LZ=true→PV.blws m cs=true
 | [],_=>rfl
 | p::cs,h=>by
  simp only[List.all_cons,Bool.and_eq_true,LZ] at h
  simp only[PV.blws,a0W m p h.1.2,Q9 m h.2,Bool.and_self]
theorem WV {m:Nat} {h:aG} {fl:List Nat} (hp:plainO h fl=true) (hb:OM m (MR fl 0 h)=true):OM m h=true:=by
 unfold OM at hb ⊢
 rw[List.all_eq_true] at hb ⊢
 intro o ho
 obtain ⟨k,hk⟩:=List.mem_iff_getElem?.1 ho
 have h1:=YB fl h 0 k o hk
 rw[Nat.zero_add] at h1
 cases hi:NQ fl k with
 | true =>
  cases o with
  | none=>rfl
  | some cs=>exact Q9 m (SN hp (inI_iff.1 hi) hk)
 | false =>
  rw[hi] at h1
  exact hb o (List.mem_of_getElem? h1)
theorem a00 {l:List Nat} {m:Nat} {σ:ASt} (hp:y9 l m σ=true) (hg:EO l m σ=true):QL l m σ=true:=by
 unfold EO at hg
 unfold QL
 rw[Bool.and_eq_true] at hg ⊢
 exact ⟨hg.1,WV hp hg.2⟩
def EL (E:AE) (m0:Nat) (y:Code) (k:ASt→R) (σ:ASt):R:=match E.jt.lookup (rid y) with
 | some l=>chk (y9 l (a4G m0 l σ) σ) (match decide (m0≤a4G m0 l σ)&&EO l (a4G m0 l σ) σ with | true=>k (σ.gc l (a4G m0 l σ)) | false=>none)
 | none=>k σ
def pX (k:ASt→R):List Nat→ASt→R
 | [],σ=>k σ
 | d::ds,σ=>match Nat.ble 9000000 d with
  | true=>(match bK (d-9000000) σ.s with
   | some (.ptr i 0)=>(match σ.h[i]? with
    | some (some cs)=>chk (decide (0<cs.length)&&cs.all fun p=>p.one&&p.flat) (pX k ds ⟨iH (d-9000000) (.cst ((dY cs.length cs 1).headD .nilp)) σ.s,σ.h.set i none⟩)
    | _=>pX k ds σ)
   | _=>pX k ds σ)
  | false=>match Nat.ble 5000000 d with
  | true=>(match bK ((d-5000000) / 100) σ.s with
   | some (.ptr i2 0)=>(match σ.h[i2]? with
    | some (some cs0)=>(match cs0[(d-5000000) % 100]? with
     | some (.slh i 0 n sz)=>(match σ.h[i]? with
      | some (some cs)=>chk (decide (n*sz≤cs.length)&&decide (0<sz)&&cs.all (fun p=>p.one&&p.flat) && !Nat.beq i i2) (pX k ds ⟨σ.s,(σ.h.set i none).set i2 (some (cs0.set ((d-5000000) % 100) (.sl false sz (dY sz cs n))))⟩)
      | _=>pX k ds σ)
     | _=>pX k ds σ)
    | _=>pX k ds σ)
   | _=>pX k ds σ)
  | false=>match Nat.ble 4000000 d with
  | true=>(match bK ((d-4000000) / 100) σ.s with
   | some (.ptr i 0)=>(match σ.h[i]? with
    | some (some cs0)=>(match cs0[(d-4000000) % 100]? with
     | some (.slp true n sz cs)=>aC (Nat.ble 1 n) (pX k ds ⟨σ.s,σ.h.set i (some (cs0.set ((d-4000000) % 100) (.slh σ.h.length 0 n sz))) ++ [some cs]⟩) (pX k ds ⟨σ.s,σ.h.set i (some (cs0.set ((d-4000000) % 100) (.sl false sz [])))⟩)
     | _=>pX k ds σ)
    | _=>pX k ds σ)
   | _=>pX k ds σ)
  | false=>match Nat.ble 3000000 d with
  | true=>(match bK ((d-3000000) % 500000) σ.s with
   | some (.slp true n sz cs)=>(match Nat.ble 3500000 d with
    | true=>chk (Nat.ble 1 n) (pX k ds ⟨iH ((d-3000000) % 500000) (.slh σ.h.length 0 n sz) σ.s,σ.h ++ [some cs]⟩)
    | false=>aC (Nat.ble 1 n) (pX k ds ⟨iH ((d-3000000) % 500000) (.slh σ.h.length 0 n sz) σ.s,σ.h ++ [some cs]⟩) (pX k ds ⟨iH ((d-3000000) % 500000) (.sl false sz []) σ.s,σ.h⟩))
   | _=>pX k ds σ)
  | false=>match Nat.ble 1000000 d with
   | true=>(match bK (d-1000000) σ.s with
    | some (.slh i 0 n sz)=>(match σ.h[i]? with
     | some (some cs)=>chk (decide (n*sz≤cs.length)&&decide (0<sz)&&cs.all fun p=>p.one&&p.flat) (pX k ds ⟨iH (d-1000000) (.sl false sz (dY sz cs n)) σ.s,σ.h.set i none⟩)
     | _=>pX k ds σ)
    | _=>pX k ds σ)
   | false=>pX k ds (F7 d σ)
def qC (E:AE) (m0:Nat) (y:Code) (k:ASt→R) (σ:ASt):R:=match E.ft.lookup (rid y) with
 | some ks=>pX (EL E m0 y k) ks σ
 | none=>EL E m0 y k σ
def NL (E:AE) (m0:Nat) (x:Code) (σ:ASt):List Nat×Nat:=match E.lt.lookup (rid x) with
 | some l=>(l,a4G m0 l σ)
 | none=>(σ.keys E,σ.h.length)
open Classical in
noncomputable def UF (a b:R):R:=match a with
 | some (r,h)=>(match b with | some (r',h')=>(match PV.eqb r r'&&VM h h' with | true=>some (r,h) | false=>if r=r'∧h=h' then some (r,h) else none) | none=>none)
 | none=>none
theorem I4 (a:R):UF a a=a:=by
 unfold UF
 cases a with
 | none=>rfl
 | some v =>
  obtain ⟨r,h⟩:=v
  dsimp only
  split
  ·rfl
  ·simp
theorem aEX {a b:R} {v:PV×aG} (h:UF a b=some v):a=some v∧b=some v:=by
 unfold UF at h
 split at h
 ·split at h
  ·split at h
   ·rename_i r1 h1 r2 h2 hc
    simp only[Bool.and_eq_true] at hc
    obtain rfl:=PV.eqb_eq hc.1
    obtain rfl:=P8 hc.2
    exact ⟨h,h⟩
   ·split at h
    ·rename_i hc; obtain ⟨rfl,rfl⟩:=hc; exact ⟨h,h⟩
    ·cases h
  ·cases h
 ·cases h
noncomputable def a4A:List R→R
 | []=>none
 | x::l=>match l with | []=>x | _::_=>UF x (a4A l)
noncomputable def JA (X:XE) (ops:Array Oper) (K:ASt→R):Nat→Array Bool→ASt→R
 | 0,L,σ=>(match Region.ready .any ops L with | []=>K σ | _::_=>none)
 | fuel+1,L,σ=>(match Region.ready .any ops L with
  | []=>K σ
  | i::is=>a4A ((match AL X.E ops L (i::is) with | some j => [j] | none=>i::is).map fun i=>match ops[i]? with
   | none=>none
   | some o=>gB X true ops [o] (JA X ops K fuel (L.setIfInBounds i true)) σ))
noncomputable def aTA (X:XE) (ops:Array Oper) (K:ASt→R) (σ:ASt):R:=JA X ops K ops.size (Array.replicate ops.size false) σ
theorem TG {v:PV×aG}:∀ {l:List R},a4A l=some v→∀ x,x∈l→x=some v
 | [],_,x,hx=>by cases hx
 | y::l,h,x,hx=>by
  unfold a4A at h
  cases l with
  | nil=>rw[List.mem_singleton] at hx; subst hx; exact h
  | cons z l' =>
   obtain ⟨h1,h2⟩:=aEX h
   rcases List.mem_cons.1 hx with hx | hx
   ·subst hx; exact h1
   ·exact TG h2 x hx
noncomputable def gW (X:XE):Code→(AX→ASt→R)→ASt→R
 | .skip,K,σ=>K .normal σ
 | .label _,K,σ=>K .normal σ
 | .exit id,K,σ=>K (.exit id) σ
 | .ret,K,σ=>K .ret σ
 | .region _ ops draw,K,σ=>(match draw with
  | true=>(match okD X.E ops with | true=>gB X true ops ops.toList (K .normal) (σ.head X.E) | false=>aTA X ops (K .normal) (σ.head X.E))
  | false=>gB X false ops ops.toList (K .normal) (σ.head X.E))
 | .seq x y,K,σ=>gW X x (qU (qC X.E X.m0 y (gW X y K)) K) σ
 | .cond c x y,K,σ=>(match σ.rd c with
  | some (.bool b)=>(match c with
   | .tmp d=>aC b (gW X x K (σ.lit d true)) (gW X y K (σ.lit d false))
   | _=>aC b (gW X x K σ) (gW X y K σ))
  | _=>none)
 | .block id x,K,σ=>gW X x (jH id K) σ
 | .scope x,K,σ=>gW X x K σ
 | .loop x,K,σ=>X.L (NL X.E X.m0 x σ).1 (NL X.E X.m0 x σ).2 x K (σ.gc (NL X.E X.m0 x σ).1 (NL X.E X.m0 x σ).2)
 | _,_,_=>none
section
variable {ι:Type} (Good:(ι→R)→Prop)
structure Fam:Prop where
 const:∀ c:R,Good fun _=>c
 bind:∀ (c:ι→R) (k:ι→PV→aG→R),Good c→(∀ r h,Good fun i=>k i r h)→Good fun i=>match c i with | some (r,h)=>k i r h | none=>none
variable {Good} (F:Fam Good)
theorem Fam.no (F:Fam Good):Good fun _=>none:=F.const none
include F
theorem aS {b:Bool} {A:ι→R} (h:Good A):Good fun i=>chk b (A i):=by
 cases b
 ·exact F.no
 ·exact h
theorem iO {b:Bool} {A B:ι→R} (h:Good A) (h':Good B):Good fun i=>aC b (A i) (B i):=by
 cases b
 ·exact h'
 ·exact h
open Classical in
theorem aHN {A B:ι→R} (h:Good A) (h':Good B):Good fun i=>UF (A i) (B i) :=
 F.bind A (fun i r h1=>match B i with | some (r',h')=>(match PV.eqb r r'&&VM h1 h' with | true=>some (r,h1) | false=>if r=r'∧h1=h' then some (r,h1) else none) | none=>none) h
  (fun r h1=>F.bind B (fun _ r' h'=>(match PV.eqb r r'&&VM h1 h' with | true=>some (r,h1) | false=>if r=r'∧h1=h' then some (r,h1) else none)) h' fun r' h'=>F.const _)
theorem UI {α:Type} {f:ι→α→R} (h:∀ a,Good fun i=>f i a):∀ l:List α,Good fun i=>a4A (l.map (f i))
 | []=>F.no
 | x::l=>by
  cases l with
  | nil=>exact h x
  | cons y l=>exact aHN F (h x) (UI h (y::l))
theorem aK {E:AE} {dst:Option Nat} {p:PV} {K:ι→ASt→R} {σ:ASt} (h:∀ σ,Good fun i=>K i σ):Good fun i=>dN E dst p (K i) σ:=by
 unfold dN; split
 ·exact h _
 ·exact F.no
theorem XB {E:AE} {dst:Option Nat} {p:Option PV} {K:ι→ASt→R} {σ:ASt} (h:∀ σ,Good fun i=>K i σ):Good fun i=>aJ1 E dst p (K i) σ:=by
 cases p
 ·exact F.no
 ·exact aK F h
theorem U9 {es:List PV} {n:Int} {K:ι→PV→R} (h:∀ p,Good fun i=>K i p):Good fun i=>fU es n (K i):=by
 unfold fU; split
 ·split
  ·exact h _
  ·exact F.no
 ·exact F.no
theorem a7W {es:List PV} {n:Nat} {K:ι→PV→R} (h:∀ p,Good fun i=>K i p):Good fun i=>a1T es n (K i):=by
 unfold a1T; split
 ·exact h _
 ·exact F.no
theorem aE3 {s:Option IntKind} {l:List PV} {q:PV} {A:ι→PV→R} {B:ι→R} (h:∀ p,Good fun i=>A i p) (h':Good B):Good fun i=>aEG s l q (A i) (B i):=by
 unfold aEG; split
 ·exact h _
 ·exact h'
 ·exact F.no
theorem U4 {s:Option IntKind} {q:PV} {A:ι→PV→R} {B:ι→R} (h:∀ p,Good fun i=>A i p) (h':Good B):∀ (l:List PV),Good fun i=>SV s l q (A i) (B i)
 | k::v::L=>by
  simp only[SV]
  split
  ·exact iO F (h _) (U4 h h' L)
  ·exact F.no
 | []=>h'
 | [_]=>F.no
theorem aC1 {es:List PV} {K:ι→Bool→R} (h:∀ b,Good fun i=>K i b):Good fun i=>a2Y es (K i):=by
 have:=F.bind (fun i=>K i false) (fun i r hh=>match es.isEmpty with | false=>some (r,hh) | true=>match K i true with | some (r',h')=>eqR (r,hh) (r',h') | none=>none) (h false) (fun r hh=>by
  cases es.isEmpty
  ·exact F.const _
  ·exact F.bind (fun i=>K i true) (fun _ r' h'=>eqR (r,hh) (r',h')) (h true) fun r' h'=>F.const _)
 exact this
theorem a6C {s:ByteArray} {n:Int} {K:ι→Int→R} (h:∀ p,Good fun i=>K i p):Good fun i=>qW s n (K i):=by
 unfold qW; split
 ·split
  ·exact h _
  ·exact F.no
 ·exact F.no
theorem QJ {C:ι→Cal} {g:FuncId} {args:List PV} {K:ι→PV→R} (hC:∀ g args h,Good fun i=>C i g args h) (h:∀ p,Good fun i=>K i p):Good fun i=>zT (C i) g args (K i):=by
 have:=F.bind (fun i=>C i g args []) (fun i r h=>match h with | []=>K i r | _=>none) (hC _ _ _) (fun r hh=>by
  cases hh
  ·exact h r
  ·exact F.no)
 refine cast (congrArg Good (funext fun i => ?_)) this
 unfold zT
 cases C i g args [] with
 | none=>rfl
 | some x=>obtain ⟨r,hh⟩:=x; cases hh<;>rfl
theorem JS {C:ι→Cal} {g:FuncId} {args:List PV} {hh:aG} {K:ι→PV→aG→R} (hC:∀ g args h,Good fun i=>C i g args h) (h:∀ p q,Good fun i=>K i p q):Good fun i=>clH (C i) g args hh (K i) :=
 F.bind (fun i=>C i g args hh) K (hC _ _ _) h
def XE.up (X:XE) (C:Cal) (L:List Nat→Nat→Code→(AX→ASt→R)→ASt→R):XE := { X with C:=C,L:=L }
def nZ (V:TypeId→PV→(PV→R)→R):Prop:=∀ t p,(∀ K,V t p K=K p)∨(∀ K,V t p K=none)
def oH (W:FuncId→aG→PV→aG→(PV→aG→R)→R):Prop:=∀ g h r h',(∀ K,W g h r h' K=K r h')∨(∀ K,W g h r h' K=none)
variable {X:XE} {C:ι→Cal} {L:ι→List Nat→Nat→Code→(AX→ASt→R)→ASt→R} (hV:nZ X.V) (hW:oH X.W) (hC:∀ g args h,Good fun i=>C i g args h)
 (hL:∀ (l:List Nat) (m:Nat) (x:Code) (K:ι→AX→ASt→R) (σ:ASt),(∀ e σ,Good fun i=>K i e σ)→Good fun i=>L i l m x (K i) σ)
theorem a3B {p:PV} {K:ι→Bool→R} (h:∀ b,Good fun i=>K i b):Good fun i=>fnX p (K i):=by
 unfold fnX
 split
 ·exact h _
 ·exact h _
 ·exact F.no
theorem aHC {p:PV} {K:ι→FuncId→List PV→List PV→R} (h:∀ g a b,Good fun i=>K i g a b):Good fun i=>fvX p (K i):=by
 unfold fvX
 split
 ·exact h _ _ _
 ·exact F.no
theorem XX {n:Int} {K:ι→PV→R} (h:∀ p,Good fun i=>K i p):∀ (cs:List PV) (k:Nat),Good fun i=>aJ6 cs k n (K i)
 | [],_=>F.no
 | p::r,k=>iO F (h p) (XX h r (k+1))
theorem a6K {o:Oper} {K:ι→ASt→R} {σ:ASt} (h:∀ σ,Good fun i=>K i σ):Good fun i=>kG (X.up (C i) (L i)) o (K i) σ:=by
 unfold kG
 show Good fun i=>match aU X.E o σ with | some (p,σ1)=>dN X.E o.dst p (K i) σ1 | none=>none
 split
 ·exact aK F h
 ·exact F.no
include hV in
theorem LJ {t:TypeId} {p:PV} {K:ι→PV→R} (h:∀ p,Good fun i=>K i p):Good fun i=>X.V t p (K i):=by
 rcases hV t p with e | e
 ·simp only[e]; exact h p
 ·simp only[e]; exact F.no
include hW in
theorem MC {g:FuncId} {hh h':aG} {r:PV} {K:ι→PV→aG→R} (h:∀ p q,Good fun i=>K i p q):Good fun i=>X.W g hh r h' (K i):=by
 rcases hW g hh r h' with e | e
 ·simp only[e]; exact h _ _
 ·simp only[e]; exact F.no
theorem a3Z {dst:Option Nat} {sz:Nat} {es:List PV} {lo hi:Option Operand} {K:ι→ASt→R} {σ:ASt} (h:∀ σ,Good fun i=>K i σ):Good fun i=>tZ (X.up (C i) (L i)) dst sz es lo hi (K i) σ:=by
 cases lo<;>cases hi<;>simp only[tZ,XE.up]
 ·exact aK F h
 all_goals
  split
  ·exact aS F (aK F h)
  ·exact F.no
theorem a2R {dst:Option Nat} {s:ByteArray} {lo hi:Option Operand} {K:ι→ASt→R} {σ:ASt} (h:∀ σ,Good fun i=>K i σ):Good fun i=>tC (X.up (C i) (L i)) dst s lo hi (K i) σ:=by
 cases lo<;>cases hi<;>simp only[tC,XE.up]
 ·exact aK F h
 all_goals
  split
  ·exact aS F (aK F h)
  ·exact F.no
theorem a3L {dst:Option Nat} {t:TypeId} {i off n sz:Nat} {lo hi:Option Operand} {K:ι→ASt→R} {σ:ASt} (h:∀ σ,Good fun i=>K i σ):Good fun j=>BC (X.up (C j) (L j)) dst t i off n sz lo hi (K j) σ:=by
 simp only[BC,XE.up]
 split
 ·split
  ·split
   ·split
    ·exact aS F (aK F h)
    ·exact F.no
   ·split
    ·exact aS F (iO F (aK F h) (aK F h))
    ·exact F.no
   ·exact F.no
  ·exact F.no
 ·exact F.no
theorem aCZ {dst:Option Nat} {t:TypeId} {l c:Operand} {K:ι→ASt→R} {σ:ASt} (h:∀ σ,Good fun i=>K i σ):Good fun j=>a0C (X.up (C j) (L j)) dst t l c (K j) σ:=by
 simp only[a0C,XE.up]
 split
 ·split
  ·refine aS F ?_
   split
   ·exact aK F h
   ·split
    ·exact aK F h
    ·exact F.no
  ·exact F.no
 ·exact F.no
theorem a8U {dst:Option Nat} {t:TypeId} {x:Operand} {K:ι→ASt→R} {σ:ASt} (h:∀ σ,Good fun i=>K i σ):Good fun j=>OX (X.up (C j) (L j)) dst t x (K j) σ:=by
 simp only[OX,XE.up]
 split
 ·split
  ·split
   ·exact aS F (h _)
   ·exact F.no
  ·exact F.no
 ·exact h _
 ·exact F.no
theorem a0S {dst:Option Nat} {t:TypeId} {m q x:PV} {K:ι→ASt→R} {σ:ASt} (h:∀ σ,Good fun i=>K i σ):Good fun j=>WZ (X.up (C j) (L j)) dst t m q x (K j) σ:=by
 simp only[WZ,XE.up]
 split
 ·split
  ·split
   ·split
    ·exact aS F (h _)
    ·exact F.no
   ·exact F.no
  ·exact F.no
 ·exact F.no
theorem aE6 {dst:Option Nat} {b:Bool} {q:Option PV} {K:ι→ASt→R} {σ:ASt} (h:∀ σ,Good fun i=>K i σ):Good fun j=>ZV (X.up (C j) (L j)) dst b q (K j) σ:=by
 simp only[ZV,XE.up]
 split
 ·split
  ·split
   ·split
    ·exact aS F (iO F (aK F h) (aK F h))
    ·exact F.no
   ·exact F.no
  ·exact F.no
 ·exact F.no
include hV in
theorem aCM {dst:Option Nat} {t:TypeId} {ok:Bool} {m q:PV} {K:ι→ASt→R} {σ:ASt} (h:∀ σ,Good fun i=>K i σ):Good fun j=>a02 (X.up (C j) (L j)) dst t ok m q (K j) σ:=by
 simp only[a02,XE.up]
 split
 ·split
  ·split
   ·split
    ·split
     ·exact U4 F (fun p=>aK F h) (aK F h) _
     ·exact aE3 F (fun p=>LJ F hV fun q=>aK F h) (aK F h)
    ·exact F.no
   ·exact F.no
  ·exact F.no
 ·exact F.no
include hV in
theorem WG {o:Oper} {K:ι→ASt→R} {σ:ASt} (h:∀ σ,Good fun i=>K i σ):Good fun i=>aEF (X.up (C i) (L i)) o (K i) σ:=by
 have hg:=fun {σ:ASt}=>a6K F (X:=X) (C:=C) (L:=L) (o:=o) (σ:=σ) h
 unfold aEF
 simp only[XE.up]
 split
 ·split
  ·split
   ·exact aS F (aK F h)
   ·exact F.no
  ·exact hg
 ·split
  ·simp only[aFX]
   split
   ·split
    ·exact U9 F fun p=>LJ F hV fun q=>aK F h
    ·exact F.no
   ·exact F.no
  ·split
   ·split
    ·split
     ·exact aS F (aK F h)
     ·exact F.no
    ·exact F.no
   ·exact hg
  ·split
   ·split
    ·exact aS F (aK F h)
    ·exact F.no
   ·exact hg
  ·split
   ·refine aS F (U9 F fun p=>LJ F hV fun q => ?_)
    split
    ·exact aK F h
    ·exact F.no
   ·exact hg
  ·exact hg
 ·split
  ·split
   ·split
    ·split
     ·exact aS F (LJ F hV fun q=>aK F h)
     ·split
      ·exact a7W F fun p=>LJ F hV fun q=>aK F h
      ·exact F.no
    ·exact F.no
   ·exact F.no
  ·split
   ·exact aS F (aK F h)
   ·exact hg
 ·split
  ·split
   ·split
    ·split
     ·split
      ·exact aS F (h _)
      ·exact F.no
     ·split
      ·exact aS F (h _)
      ·exact F.no
    ·exact F.no
   ·exact F.no
  ·split
   ·split
    ·split
     ·split
      ·exact aS F (h _)
      ·exact F.no
     ·exact F.no
    ·exact F.no
   ·exact hg
 ·split
  ·split
   ·exact a6C F fun p=>aK F h
   ·exact F.no
  ·split
   ·split
    ·refine aS F (XX F (fun p => ?_) _ _)
     split
     ·exact aK F h
     ·exact F.no
    ·exact F.no
   ·exact hg
  ·exact hg
 ·split
  ·exact iO F (XB F h) (XB F h)
  ·exact F.no
 ·split
  ·split
   ·split
    ·exact a3Z F h
    ·exact F.no
   ·exact F.no
  ·split
   ·exact a2R F h
   ·exact F.no
  ·exact a3L F h
  ·exact hg
 ·split
  ·split
   ·split
    ·exact aS F (aK F h)
    ·exact F.no
   ·exact F.no
  ·exact F.no
 ·exact aCZ F h
 ·split
  ·exact aCM F hV h
  ·exact F.no
 ·split
  ·exact a0S F h
  ·exact F.no
 ·split
  ·exact F.no
  ·split
   ·exact a0S F h
   ·exact F.no
 ·exact aE6 F h
 ·split
  ·split
   ·split
    ·exact aS F (aK F h)
    ·exact F.no
   ·exact hg
  ·exact hg
 ·split
  ·exact aS F (aK F h)
  ·exact hg
 ·split
  ·simp only[X9]; split
   ·exact aS F (aK F h)
   ·exact F.no
  ·simp only[X9]; split
   ·exact aS F (aK F h)
   ·exact F.no
  ·exact aS F (aK F h)
  ·exact aS F (aK F h)
  ·exact aS F (aK F h)
  ·simp only[aD8]; split
   ·exact a3B F fun b=>aK F h
   ·exact F.no
  ·simp only[aD8]; split
   ·exact a3B F fun b=>aK F h
   ·exact F.no
  ·exact hg
 ·split
  ·split
   ·exact a8U F h
   ·exact F.no
  ·split
   ·simp only[a7']
    split
    ·split
     ·split
      ·exact aS F (aK F h)
      ·exact F.no
     ·exact F.no
    ·split
     ·split
      ·exact aS F (aK F h)
      ·exact F.no
     ·exact F.no
    ·exact F.no
   ·exact F.no
  ·split
   ·split
    ·exact aS F hg
    ·exact aS F hg
    ·simp only[a5O]
     split
     ·split
      ·split
       ·exact aS F (aK F h)
       ·exact F.no
      ·exact F.no
     ·exact F.no
    ·exact aS F hg
    ·split
     ·exact aS F hg
     ·exact F.no
    ·exact F.no
   ·exact F.no
  ·exact hg
  ·exact F.no
 ·exact hg
include hW hC in
theorem a1I {draw:Bool} {o:Oper} {f:Operand} {args:List Operand} {K:ι→ASt→R} {σ:ASt} (h:∀ σ,Good fun i=>K i σ):Good fun i=>FH (X.up (C i) (L i)) draw o f args (K i) σ:=by
 have hH:∀ {dst:Option Nat} {g:FuncId} {full:List PV} {ids:List Nat},Good fun i=>kY (X.up (C i) (L i)) dst g full ids (K i) σ:=fun {dst g full ids}=>by
  simp only[kY]
  split
  ·exact JS F hC fun r h'=>MC F hW fun p q=>aK F h
  ·exact F.no
 unfold FH
 simp only[XE.up] at hH ⊢
 have hP:∀ {dst:Option Nat} {g:FuncId} {full:List PV} {ids:List Nat},Good fun i=>xZ (X.up (C i) (L i)) dst g full ids (K i) σ:=fun {dst g full ids}=>by
  simp only[xZ]
  split
  ·exact aS F (JS F hC fun r h'=>MC F hW fun p q=>aS F (aK F h))
  ·exact F.no
 simp only[XE.up] at hP
 split
 ·split
  ·split
   ·exact hP
   ·exact hH
  split
  ·refine QJ F hC fun r=>MC F hW fun p q => ?_
   cases (!draw&&dL X.E.mu o.dst)
   ·cases PV.flat p
    ·exact F.no
    ·exact aK F h
   ·simp only[a5A]
    split
    ·exact aS F (aK F h)
    ·exact iO F (aS F (aK F h)) (aK F h)
    ·exact F.no
  ·cases draw
   ·cases dL X.E.ln o.dst
    ·cases dL X.E.sy o.dst
     ·exact hH
     ·simp only[xZ]
      split
      ·exact aS F (JS F hC fun r h'=>MC F hW fun p q=>aS F (aK F h))
      ·exact F.no
    ·simp only[a6L]
     refine aS F (QJ F hC fun r=>MC F hW fun p q => ?_)
     cases PV.noref p
     ·exact F.no
     ·exact aK F h
   ·dsimp only
    split
    ·exact hH
    ·exact F.no
 ·exact F.no
include hV hW hC in
theorem a2C {draw:Bool} {o:Oper} {K:ι→ASt→R} {σ:ASt} (h:∀ σ,Good fun i=>K i σ):Good fun i=>ex1 (X.up (C i) (L i)) draw o (K i) σ:=by
 unfold ex1
 split
 ·simp only[XE.up]
  split
  ·simp only[PU]
   split
   ·refine aHC F fun g a b=>aS F (QJ F hC fun r=>LJ F hV fun r' => ?_)
    split
    ·exact aK F h
    ·exact F.no
   ·exact F.no
  ·exact a1I F hW hC h
 ·cases draw
  ·simp only[XE.up]
   split
   ·exact aC1 F fun b=>aK F h
   ·exact WG F hV h
  ·exact WG F hV h
include hV hW hC in
theorem sK {draw:Bool} {ops:Array Oper}:∀ (l:List Oper) {K:ι→ASt→R} {σ:ASt},(∀ σ,Good fun i=>K i σ)→Good fun i=>gB (X.up (C i) (L i)) draw ops l (K i) σ
 | [],K,σ,h=>h σ
 | o::l,K,σ,h=>by
  have ih:∀ σ,Good fun i=>gB (X.up (C i) (L i)) draw ops l (K i) σ:=fun σ=>sK l h
  have hp:∀ {p:PV} {σ:ASt},Good fun i=>dN X.E o.dst p (gB (X.up (C i) (L i)) draw ops l (K i)) σ:=aK F ih
  have hgd:∀ (d:Nat) (want v:Bool),Good fun i=>a3T (X.up (C i) (L i)) draw o d want v (gB (X.up (C i) (L i)) draw ops l (K i)) σ:=fun d want v=>by
   unfold a3T
   split
   ·exact a2C F hV hW hC ih
   ·exact hp
  simp only[gB]
  split
  ·exact a2C F hV hW hC ih
  ·split
   ·exact hp
   ·split
    ·exact iO F (hgd _ _ _) (hgd _ _ _)
    ·exact hp
    ·exact F.no
omit F in
theorem tV {k:ι→ASt→R} {K:ι→AX→ASt→R} (h:∀ σ,Good fun i=>k i σ) (h':∀ e σ,Good fun i=>K i e σ) (e:AX) (σ:ASt):Good fun i=>qU (k i) (K i) e σ:=by
 cases e
 ·exact h σ
 ·exact h' _ _
 ·exact h' _ _
omit F in
theorem MO {id:Nat} {K:ι→AX→ASt→R} (h':∀ e σ,Good fun i=>K i e σ) (e:AX) (σ:ASt):Good fun i=>jH id (K i) e σ:=by
 cases e with
 | normal=>exact h' _ _
 | ret=>exact h' _ _
 | exit j =>
  simp only[jH]; split
  ·exact h' _ _
  ·exact h' _ _
theorem dC {k:ι→ASt→R} (h:∀ σ,Good fun i=>k i σ):∀ (ks:List Nat) {σ:ASt},Good fun i=>pX (k i) ks σ
 | [],σ=>h σ
 | d::ds,σ=>by
  simp only[pX]
  split
  ·split
   ·split
    ·exact aS F (dC h ds)
    ·exact dC h ds
   ·exact dC h ds
  split
  ·split
   ·split
    ·split
     ·split
      ·exact aS F (dC h ds)
      ·exact dC h ds
     ·exact dC h ds
    ·exact dC h ds
   ·exact dC h ds
  split
  ·split
   ·split
    ·split
     ·exact iO F (dC h ds) (dC h ds)
     ·exact dC h ds
    ·exact dC h ds
   ·exact dC h ds
  split
  ·split
   ·split
    ·exact aS F (dC h ds)
    ·exact iO F (dC h ds) (dC h ds)
   ·exact dC h ds
  split
  ·split
   ·split
    ·exact aS F (dC h ds)
    ·exact dC h ds
   ·exact dC h ds
  ·exact dC h ds
include hV hW hC in
theorem SI {ops:Array Oper} {K:ι→ASt→R} (h:∀ σ,Good fun i=>K i σ):∀ (fuel:Nat) (B:Array Bool) (σ:ASt),Good fun i=>JA (X.up (C i) (L i)) ops (K i) fuel B σ
 | 0,B,σ=>by
  unfold JA
  cases Region.ready .any ops B with
  | nil=>exact h σ
  | cons _ _=>exact F.no
 | fuel+1,B,σ=>by
  unfold JA
  cases Region.ready .any ops B with
  | nil=>exact h σ
  | cons j js =>
   refine UI F (f:=fun i k=>match ops[k]? with
    | none=>none
    | some o=>gB (X.up (C i) (L i)) true ops [o] (JA (X.up (C i) (L i)) ops (K i) fuel (B.setIfInBounds k true)) σ) (fun k => ?_) (match AL X.E ops B (j::js) with | some j => [j] | none=>j::js)
   cases ops[k]? with
   | none=>exact F.no
   | some o=>exact sK F hV hW hC [o] fun σ=>SI h fuel _ σ
include hV hW hC hL in
theorem lU:∀ (c:Code) {K:ι→AX→ASt→R} {σ:ASt},(∀ e σ,Good fun i=>K i e σ)→Good fun i=>gW (X.up (C i) (L i)) c (K i) σ
 | .skip,K,σ,h=>h _ _
 | .label _,K,σ,h=>h _ _
 | .exit _,K,σ,h=>h _ _
 | .ret,K,σ,h=>h _ _
 | .region _ ops draw,K,σ,h=>by
  simp only[gW]
  cases draw
  ·exact sK F hV hW hC ops.toList (σ:=σ.head X.E) fun σ=>h .normal σ
  ·show Good fun i=>match okD X.E ops with | true=>gB (X.up (C i) (L i)) true ops ops.toList (K i .normal) (σ.head X.E) | false=>aTA (X.up (C i) (L i)) ops (K i .normal) (σ.head X.E)
   split
   ·exact sK F hV hW hC ops.toList (σ:=σ.head X.E) fun σ=>h .normal σ
   ·exact SI F hV hW hC (fun σ=>h .normal σ) _ _ _
 | .seq x y,K,σ,h=>by
  simp only[gW]
  refine lU x fun e σ=>tV (fun σ => ?_) h e σ
  show Good fun i=>qC X.E X.m0 y (gW (X.up (C i) (L i)) y (K i)) σ
  have hj:∀ σ,Good fun i=>EL X.E X.m0 y (gW (X.up (C i) (L i)) y (K i)) σ:=fun σ=>by
   unfold EL
   split
   ·refine aS F ?_
    split
    ·exact lU y h
    ·exact F.no
   ·exact lU y h
  unfold qC
  split
  ·exact dC F hj _
  ·exact hj _
 | .cond c x y,K,σ,h=>by
  simp only[gW]
  split
  ·split
   ·exact iO F (lU x h) (lU y h)
   ·exact iO F (lU x h) (lU y h)
  ·exact F.no
 | .block id x,K,σ,h=>by simp only[gW]; exact lU x fun e σ=>MO h e σ
 | .scope x,K,σ,h=>by simp only[gW]; exact lU x h
 | .loop x,K,σ,h=>hL (NL X.E X.m0 x σ).1 (NL X.E X.m0 x σ).2 x K (σ.gc (NL X.E X.m0 x σ).1 (NL X.E X.m0 x σ).2) h
 | .rangeFunc _ _ _ _,K,σ,h=>F.no
 | .goto _,K,σ,h=>F.no
 | .refuse _,K,σ,h=>F.no
end
end Go.Proofs.YtcdceiloganlnaaGreatDoor
namespace Go.Proofs.YtcdceiloganlnaaGreatDoor
open Go.RowKit
section
variable {X:XE} {K:ASt→R} {σ:ASt} {v:PV×aG} {o:Oper} {ops:Array Oper}
theorem dI {E:AE} {dst:Option Nat} {p:PV} (h:dN E dst p K σ=some v):bJ E dst p σ fun σ'=>K σ'=some v:=by
 unfold dN at h; unfold bJ
 split at h
 ·rename_i e; rw[e]; exact h
 ·cases h
theorem aP {b:Bool} {A:R} (h:chk b A=some v):b=true∧A=some v:=by
 cases b
 ·cases h
 ·exact ⟨rfl,h⟩
theorem aV {E:AE} {p:PV} {σ1:ASt} (h:aU E o σ=some (p,σ1)) (hs:eY E o σ) (hp:dN E o.dst p K σ1=some v):sW E o (fun σ'=>K σ'=some v) σ:=by
 unfold sW; rw[h]; exact ⟨hs,dI hp⟩
theorem bT (hs:eY X.E o σ) (h:kG X o K σ=some v):sW X.E o (fun σ'=>K σ'=some v) σ:=by
 unfold kG at h
 split at h
 ·rename_i p σ1 e; exact aV e hs h
 ·cases h
theorem PM {d:Nat} {b:Bool} (h:σ.rd (.tmp d)=some (.bool b)):σ.lit d b=σ:=by
 have:bK d σ.s=some (.bool b):=by
  simp only[ASt.rd,ASt.ev] at h
  cases hp:bK d σ.s with
  | none=>rw[hp] at h; cases h
  | some p =>
   rw[hp] at h
   cases p<;>simp[PV.un] at h
   rw[h]
 unfold ASt.lit; rw[YV this]
theorem mW {V:TypeId→PV→(PV→R)→R} (hV:nZ V) {t:TypeId} {p:PV} {K:PV→R} (h:V t p K=some v):K p=some v:=by
 rcases hV t p with e | e
 ·rw[e K] at h; exact h
 ·rw[e K] at h; cases h
theorem sF {W:FuncId→aG→PV→aG→(PV→aG→R)→R} (hW:oH W) {g:FuncId} {hh h':aG} {r:PV} {K:PV→aG→R} (h:W g hh r h' K=some v):K r h'=some v:=by
 rcases hW g hh r h' with e | e
 ·rw[e K] at h; exact h
 ·rw[e K] at h; cases h
theorem QK {es:List PV} {n:Int} {K:PV→R} (h:fU es n K=some v):0≤n∧∃ e,es[n.toNat]? = some e∧K e=some v:=by
 unfold fU at h
 split at h
 ·rename_i hn
  split at h
  ·rename_i e he; exact ⟨hn,e,he,h⟩
  ·cases h
 ·cases h
theorem a6G {es:List PV} {n:Nat} {K:PV→R} (h:a1T es n K=some v):∃ e,es[n]? = some e∧K e=some v:=by
 unfold a1T at h
 split at h
 ·rename_i e he; exact ⟨e,he,h⟩
 ·cases h
theorem aEC {es:List PV} {K:Bool→R} (h:a2Y es K=some v):K false=some v∧(es = []→K true=some v):=by
 unfold a2Y at h
 split at h
 ·rename_i r hh h0
  split at h
  ·rename_i he
   cases h
   exact ⟨h0,fun e=>by subst e; simp at he⟩
  ·split at h
   ·rename_i r' h' h1
    obtain ⟨e1,e2⟩:=aJK h
    subst e1
    exact ⟨h0,fun _=>by rw[h1,← e2]⟩
   ·cases h
 ·cases h
theorem a0X {p:PV} {K:Bool→R} (h:fnX p K=some v):∃ b,K b=some v∧((b=false∧∃ f a c,p = .func f a c)∨(b=true∧p = .raw .nilFunc)):=by
 unfold fnX at h
 split at h
 ·exact ⟨_,h,.inl ⟨rfl,_,_,_,rfl⟩⟩
 ·exact ⟨_,h,.inr ⟨rfl,rfl⟩⟩
 ·cases h
theorem aH7 {p:PV} {K:FuncId→List PV→List PV→R} (h:fvX p K=some v):∃ g a c,p = .func (.func g) a c∧K g a c=some v:=by
 unfold fvX at h
 split at h
 ·exact ⟨_,_,_,rfl,h⟩
 ·cases h
theorem XL {n:Int} {K:PV→R}:∀ {cs:List PV} {k:Nat},aJ6 cs k n K=some v→∃ j p,n=((k+j:Nat):Int)∧cs[j]? = some p∧K p=some v
 | [],_,h=>by cases h
 | p::r,k,h=>by
  rw[aJ6] at h
  cases hb:n==(k:Int) with
  | true=>rw[hb] at h; exact ⟨0,p,by simpa using hb,rfl,h⟩
  | false =>
   rw[hb] at h
   obtain ⟨j,q,e1,e2,e3⟩:=XL (cs:=r) (k:=k+1) h
   exact ⟨j+1,q,by rw[e1]; congr 1; omega,by simpa using e2,e3⟩
theorem aJD {t:TypeId} {p:PV} {P:Program} (ht:D5 P t=true) {b:Bool} (hp:(b=false∧∃ f a c,p = .func f a c)∨(b=true∧p = .raw .nilFunc)) (pos:Bool):BA P (match pos with | true => .eql | false => .neq) t p (.raw .nilFunc)=some (.bool (b==pos)):=by
 rcases hp with ⟨rfl,f,a,c,rfl⟩ | ⟨rfl,rfl⟩<;>cases pos<;>simp[BA,ht,sG]
theorem a8A {s:ByteArray} {n:Int} {K:Int→R} (h:qW s n K=some v):0≤n∧∃ b,s[n.toNat]? = some b∧K b.toNat=some v:=by
 unfold qW at h
 split at h
 ·rename_i hn
  split at h
  ·rename_i e he; exact ⟨hn,e,he,h⟩
  ·cases h
 ·cases h
theorem QZ {s:Option IntKind} {q:PV} {A:PV→R} {B:R} {v:PV×aG}:∀ {L:List PV},SV s L q A B=some v→(∃ p,oQ s L q=some (some p)∧A p=some v)∨(oQ s L q=some none∧B=some v)
 | k::x::L,h=>by
  simp only[SV] at h
  split at h
  ·rename_i b hb
   cases b with
   | true=>exact .inl ⟨x,by simp only[oQ,hb],h⟩
   | false =>
    have h:SV s L q A B=some v:=h
    rcases QZ h with ⟨p,h1,h2⟩ | ⟨h1,h2⟩
    ·exact .inl ⟨p,by simp only[oQ,hb]; exact h1,h2⟩
    ·exact .inr ⟨by simp only[oQ,hb]; exact h1,h2⟩
  ·cases h
 | [],h => .inr ⟨rfl,h⟩
 | [_],h=>by cases h
theorem aLP (hc:∀ c,o.op ≠ .call c) (E:AE):eY E o σ:=by
 obtain ⟨dst,op,ty,pos,af,g⟩:=o
 cases op<;>first | trivial | (exfalso; exact hc _ rfl)
theorem ZK {t:TypeId} {dst:Option Nat} {sz:Nat} {es:List PV} {ow:Bool} {lo hi:Option Operand} {x:Operand} {I:TI} (ht:dO X.E.P t=some I) (hI:I.size=sz) (hx:σ.rd x=some (.sl ow sz es)) (h:tZ X dst sz es lo hi K σ=some v) :
 ∃ p,pop X.E.P σ.rd (.slice t x lo hi none)=some p∧dN X.E dst p K σ=some v:=by
 have hsz:(dO X.E.P t).map TI.size=some sz:=by rw[ht]; simp[hI]
 cases lo with
 | none =>
  cases hi with
  | none=>exact ⟨_,by simp only[pop,hx,iV]; rw[if_pos ⟨hsz,by omega,by omega,by omega⟩]; simp,h⟩
  | some b =>
   simp only[tZ] at h
   split at h
   ·rename_i k n hb
    obtain ⟨h1,h2⟩:=aP h
    simp only[Bool.and_eq_true,decide_eq_true_eq] at h1
    exact ⟨_,by simp only[pop,hx,hb,Option.bind_some,iV]; rw[if_pos ⟨hsz,by omega,by omega,by omega⟩]; simp,h2⟩
   ·cases h
 | some a =>
  cases hi with
  | none =>
   simp only[tZ] at h
   split at h
   ·rename_i k n hb
    obtain ⟨h1,h2⟩:=aP h
    simp only[Bool.and_eq_true,decide_eq_true_eq] at h1
    exact ⟨_,by simp only[pop,hx,hb,Option.bind_some,iV]; rw[if_pos ⟨hsz,by omega,by omega,by omega⟩]; simp,h2⟩
   ·cases h
  | some b =>
   simp only[tZ] at h
   split at h
   ·rename_i k n k' n' ha hb
    obtain ⟨h1,h2⟩:=aP h
    simp only[Bool.and_eq_true,decide_eq_true_eq] at h1
    exact ⟨_,by simp only[pop,hx,ha,hb,Option.bind_some,iV]; rw[if_pos ⟨hsz,by omega,by omega,by omega⟩],h2⟩
   ·cases h
theorem YS {t:TypeId} {dst:Option Nat} {s:ByteArray} {lo hi:Option Operand} {x:Operand} (ht:kC X.E.P t=true) (hx:σ.rd x=some (.str s)) (h:tC X dst s lo hi K σ=some v) :
 ∃ p,pop X.E.P σ.rd (.slice t x lo hi none)=some p∧dN X.E dst p K σ=some v:=by
 cases lo with
 | none =>
  cases hi with
  | none=>exact ⟨_,by simp only[pop,hx,iV]; rw[if_pos ⟨ht,by omega,by omega,by omega⟩]; rfl,h⟩
  | some b =>
   simp only[tC] at h
   split at h
   ·rename_i k n hb
    obtain ⟨h1,h2⟩:=aP h
    simp only[Bool.and_eq_true,decide_eq_true_eq] at h1
    exact ⟨_,by simp only[pop,hx,hb,Option.bind_some,iV]; rw[if_pos ⟨ht,by omega,by omega,by omega⟩]; rfl,h2⟩
   ·cases h
 | some a =>
  cases hi with
  | none =>
   simp only[tC] at h
   split at h
   ·rename_i k n hb
    obtain ⟨h1,h2⟩:=aP h
    simp only[Bool.and_eq_true,decide_eq_true_eq] at h1
    exact ⟨_,by simp only[pop,hx,hb,Option.bind_some,iV]; rw[if_pos ⟨ht,by omega,by omega,by omega⟩]; rfl,h2⟩
   ·cases h
  | some b =>
   simp only[tC] at h
   split at h
   ·rename_i k n k' n' ha hb
    obtain ⟨h1,h2⟩:=aP h
    simp only[Bool.and_eq_true,decide_eq_true_eq] at h1
    exact ⟨_,by simp only[pop,hx,ha,hb,Option.bind_some,iV]; rw[if_pos ⟨ht,by omega,by omega,by omega⟩],h2⟩
   ·cases h
theorem ZQ {t:TypeId} {dst:Option Nat} {i off n sz:Nat} {lo hi:Option Operand} {x:Operand} (hx:σ.rd x=some (.slh i off n sz)) (h:BC X dst t i off n sz lo hi K σ=some v) :
 ∃ p,pop X.E.P σ.rd (.slice t x lo hi none)=some p∧dN X.E dst p K σ=some v:=by
 unfold BC at h
 split at h
 ·rename_i I hT
  split at h
  ·rename_i hz
   simp only[Bool.and_eq_true,Nat.blt_eq] at hz
   have hsz:=Nat.eq_of_beq_eq_true hz.1
   have hm:(dO X.E.P t).map TI.size=some sz:=by rw[hT]; simp[hsz]
   split at h
   ·rename_i hh
    split at h
    ·rename_i k b hb
     obtain ⟨h1,h2⟩:=aP h
     simp only[Bool.and_eq_true,decide_eq_true_eq] at h1
     refine ⟨_,?_,h2⟩
     simp only[pop,hx,hb,Option.bind_some,iV,qM]
     rw[if_pos ⟨hm,Int.le_refl _,h1.1.1,h1.1.2,hz.2⟩,if_pos (by omega)]
     simp
    ·cases h
   ·rename_i l
    split at h
    ·rename_i k a ha
     obtain ⟨h1,h2⟩:=aP h
     simp only[Bool.and_eq_true,decide_eq_true_eq] at h1
     simp only[pop,hx,ha,Option.bind_some,iV,qM]
     rw[if_pos ⟨hm,h1.1,h1.2,Int.le_refl _,hz.2⟩]
     by_cases hl:a<(n:Int)
     ·rw[decide_eq_true hl] at h2
      exact ⟨_,by rw[if_pos hl]; simp,h2⟩
     ·rw[decide_eq_false hl] at h2
      exact ⟨_,by rw[if_neg hl],h2⟩
    ·cases h
   ·cases h
  ·cases h
 ·cases h
theorem O3 {P:Program} {t:TypeId} {m:Nat} {e:TypeId} (h:a0F P t=some (m,e)):∃ I,JM P t=some (m,I)∧I.size=1∧I.agg=false:=by
 unfold a0F at h
 split at h
 ·rename_i m' e' hu
  split at h
  ·rename_i I hI
   split at h
   ·rename_i hc
    cases h
    simp only[Bool.and_eq_true,Bool.not_eq_true'] at hc
    exact ⟨I,by simp[JM,hu,hI],Nat.eq_of_beq_eq_true hc.1,hc.2⟩
   ·cases h
  ·cases h
 ·cases h
theorem FI (hV:nZ X.V) (hc:kE o=none) (h:aEF X o K σ=some v):sW X.E o (fun σ'=>K σ'=some v) σ:=by
 obtain ⟨dst,op,ty,pos,af,g⟩:=o
 unfold aEF at h
 simp only at h
 split at h
 ·rename_i s d x
  have hs:eY X.E ⟨dst,.convert s d x,ty,pos,af,g⟩ σ:=trivial
  split at h
  ·rename_i ow sz es hx
   split at h
   ·rename_i ht
    simp only[Bool.and_eq_true] at ht
    obtain ⟨h1,h2⟩:=aP h
    exact aV (by simp only[aU,pop,hx,Option.bind_some,RI]; rw[if_pos ⟨ht.1,ht.2,h1⟩]; rfl) hs h2
   ·cases h
  ·exact bT hs h
 ·rename_i t x i
  have hs:eY X.E ⟨dst,.indexAddr t x i,ty,pos,af,g⟩ σ:=trivial
  split at h
  ·rename_i ow sz es k n hx hi
   unfold aFX at h
   split at h
   ·rename_i e I h1 h2
    split at h
    ·rename_i hI
     obtain ⟨hn,p,hp,h⟩:=QK h
     have h:=mW hV h
     exact aV (by simp only[aU,pop,hx,hi,h2,Option.map_some]; rw[if_pos ⟨by rw[hI],hn⟩,hp]; try rfl) hs h
    ·cases h
   ·cases h
  ·rename_i i0 off m sz k n hx hi
   split at h
   ·split at h
    ·rename_i I hI
     split at h
     ·rename_i hz
      rw[aRP] at h
      obtain ⟨h1,h2⟩:=aP h
      simp only[Bool.and_eq_true,decide_eq_true_eq] at h1
      exact aV (p := .ptr i0 (off+n.toNat*sz)) (by simp only[aU,pop,hx,hi]; rw[if_pos ⟨by rw[hI]; simp[Nat.eq_of_beq_eq_true hz],h1.1,h1.2⟩]; simp) hs h2
     ·cases h
    ·cases h
   ·exact bT hs h
  ·rename_i i0 off k n hx hi
   split at h
   ·split at h
    ·rename_i m I hI
     obtain ⟨h1,h2⟩:=aP h
     simp only[Bool.and_eq_true,decide_eq_true_eq] at h1
     exact aV (p := .ptr i0 (off+n.toNat*I.size)) (by simp only[aU,pop,hx,hi,hI]; rw[if_pos ⟨h1.1,h1.2⟩]; simp) hs h2
    ·cases h
   ·exact bT hs h
  ·rename_i cs k n hx hi
   split at h
   ·rename_i m e ht
    obtain ⟨h1,h2⟩:=aP h
    obtain ⟨hn,p,hp,h⟩:=QK h2
    have h:=mW hV h
    obtain ⟨I,hI,hsz,hag⟩:=O3 ht
    split at h
    ·rename_i ho
     refine aV (p := .cst p.un) (by
      simp only[aU,pop,hx,hi,hI]
      rw[if_pos ⟨hn,by simpa using h1⟩]
      simp only[lL,hsz,hag,Nat.mul_one,hp,Bool.false_eq_true,if_false,Option.bind_some,ho,if_true,Option.map_some]) hs h
    ·cases h
   ·exact bT hs h
  ·exact bT hs h
 ·rename_i t a
  have hs:eY X.E ⟨dst,.load t a,ty,pos,af,g⟩ σ:=trivial
  split at h
  ·rename_i hsy
   have hln:dL X.E.ln dst=false:=by
    simp only[Bool.and_eq_true,Bool.not_eq_true'] at hsy
    exact hsy.2
   split at h
   ·rename_i I i0 off hI ha
    split at h
    ·rename_i cs hcs
     split at h
     ·rename_i hag
      obtain ⟨h1,h2⟩:=aP h
      have h:=mW hV h2
      exact aV (σ1:=σ) (by simp only[aU,hI,ha,hln,Bool.false_and,jR,hcs,hag,if_true]; rw[if_pos (of_decide_eq_true h1)]) hs h
     ·rename_i hag
      split at h
      ·rename_i hc
       simp only[Bool.not_eq_true'] at hc
       obtain ⟨q,hq,h⟩:=a6G h
       have h:=mW hV h
       exact aV (p:=q.un) (σ1:=σ) (by simp only[aU,hI,ha,hln,Bool.false_and,jR,hcs,hag,hc,hq,Bool.false_eq_true,if_false]) hs h
      ·cases h
    ·cases h
   ·cases h
  ·split at h
   ·rename_i e I ha hI
    obtain ⟨h1,h2⟩:=aP h
    simp only[Bool.and_eq_true,decide_eq_true_eq] at h1
    refine aV (p:=e.un) (σ1:=σ) ?_ hs h2
    simp only[aU,hI,ha,b2E,jR]
    split<;>simp[h1.1,h1.2]
   ·exact bT hs h
 ·rename_i t a x
  have hs:eY X.E ⟨dst,.store t a x,ty,pos,af,g⟩ σ:=trivial
  split at h
  ·rename_i hsy
   have hso:∀ r,aD7 X.E.mu X.E.ln (uI a) r=true:=fun r=>by
    simp only[Bool.and_eq_true,Bool.not_eq_true'] at hsy
    unfold aD7
    rw[hsy.2]
   split at h
   ·rename_i I i0 off q hI ha hx
    split at h
    ·rename_i cs hcs
     have hcl:(σ.clr x).h=σ.h:=by cases x<;>simp only[ASt.clr]<;>split<;>rfl
     split at h
     ·rename_i ds
      split at h
      ·rename_i hc
       simp only[Bool.and_eq_true] at hc
       obtain ⟨h1,h2⟩:=aP h
       have hsv:kQ I (.ptr i0 off) (.agg ds) (σ.clr x)=some { σ.clr x with h:=(σ.clr x).h.set i0 (some (cs.take off ++ ds.map PV.un ++ cs.drop (off+I.size))) }:=by
        simp only[kQ,hcl,hcs]
        rw[if_pos ⟨Nat.eq_of_beq_eq_true hc.1,of_decide_eq_true h1,hc.2⟩]
       exact aV (p := .tuple []) (σ1 := { σ.clr x with h:=(σ.clr x).h.set i0 (some (cs.take off ++ ds.map PV.un ++ cs.drop (off+I.size))) }) (by simp only[aU,hso,hI,ha,hx,hsv,Option.map_some]) hs (by unfold dN; simp only[ASt.put]; exact h2)
      ·cases h
     ·rename_i q' hna
      split at h
      ·rename_i hc
       simp only[Bool.and_eq_true] at hc
       obtain ⟨h1,h2⟩:=aP h
       have hsv:kQ I (.ptr i0 off) q (σ.clr x)=some { σ.clr x with h:=(σ.clr x).h.set i0 (some (cs.set off q)) }:=by
        simp only[kQ,hcl,hcs]
        have hlt:off<cs.length:=by simpa using h1
        cases q<;>first | exact (hna _ rfl).elim | (simp[PV.one] at hc; done) | (simp[PV.one,Nat.eq_of_beq_eq_true hc.2,hlt])
       exact aV (p := .tuple []) (σ1 := { σ.clr x with h:=(σ.clr x).h.set i0 (some (cs.set off q)) }) (by simp only[aU,hso,hI,ha,hx,hsv,Option.map_some]) hs (by unfold dN; simp only[ASt.put]; exact h2)
      ·cases h
    ·cases h
   ·cases h
  ·split at h
   ·rename_i ds hx
    split at h
    ·rename_i I i0 off hI ha
     split at h
     ·rename_i cs hcs
      split at h
      ·rename_i hc
       simp only[Bool.and_eq_true,Nat.ble_eq] at hc
       obtain ⟨hso,hc1,hc2⟩:=hc
       obtain ⟨h1,h2⟩:=aP h
       have hcl:(σ.clr x).h=σ.h:=by cases x<;>simp only[ASt.clr]<;>split<;>rfl
       have hsv:kQ I (.ptr i0 off) (.agg ds) (σ.clr x)=some { σ.clr x with h:=(σ.clr x).h.set i0 (some (cs.take off ++ ds.map PV.un ++ cs.drop (off+I.size))) }:=by
        simp only[kQ,hcl,hcs]
        rw[if_pos ⟨Nat.eq_of_beq_eq_true hc1,hc2,h1⟩]
       exact aV (p := .tuple []) (σ1 := { σ.clr x with h:=(σ.clr x).h.set i0 (some (cs.take off ++ ds.map PV.un ++ cs.drop (off+I.size))) }) (by simp only[aU]; rw[hso]; simp only[hI,ha,hx,hsv,Option.map_some]) hs (by unfold dN; simp only[ASt.put]; exact h2)
      ·cases h
     ·cases h
    ·cases h
   ·exact bT hs h
 ·rename_i t x i
  have hs:eY X.E ⟨dst,.index t x i,ty,pos,af,g⟩ σ:=trivial
  split at h
  ·rename_i s k n hx hi
   split at h
   ·rename_i ht
    obtain ⟨hn,b,hb,h⟩:=a8A h
    exact aV (by simp only[aU,pop,hx,hi]; rw[if_pos ⟨ht,hn⟩,hb]; try rfl) hs h
   ·cases h
  ·rename_i cs k n hx hi
   split at h
   ·split at h
    ·rename_i m e hm
     obtain ⟨c1,h⟩:=aP h
     simp only[Bool.and_eq_true,decide_eq_true_eq] at c1
     obtain ⟨I,h1,h2,h3⟩:=O3 hm
     obtain ⟨j,p,e1,e2,h⟩:=XL h
     split at h
     ·rename_i ho
      have ej:n.toNat=j:=by omega
      exact aV (p:=p.un) (σ1:=σ) (by simp only[aU,pop,hx,hi,h1]; rw[if_pos c1,h2,h3,lL,Nat.mul_one,ej,e2]; simp[ho]) hs h
     ·cases h
    ·cases h
   ·exact bT hs h
  ·exact bT hs h
 ·rename_i c a b
  have hs:eY X.E ⟨dst,.pick c a b,ty,pos,af,g⟩ σ:=trivial
  split at h
  ·rename_i w hw
   cases w with
   | true =>
    have h:aJ1 X.E dst (σ.rd a) K σ=some v:=h
    cases ha:σ.rd a with
    | none=>rw[ha] at h; cases h
    | some p =>
     rw[ha] at h
     exact aV (by simp only[aU,pop,hw,ha]; try rfl) hs h
   | false =>
    have h:aJ1 X.E dst (σ.rd b) K σ=some v:=h
    cases ha:σ.rd b with
    | none=>rw[ha] at h; cases h
    | some p =>
     rw[ha] at h
     exact aV (by simp only[aU,pop,hw,ha]; try rfl) hs h
  ·cases h
 ·rename_i t x lo hi
  have hs:eY X.E ⟨dst,.slice t x lo hi none,ty,pos,af,g⟩ σ:=trivial
  split at h
  ·rename_i ow sz es hx
   split at h
   ·rename_i I hI
    split at h
    ·rename_i hz
     obtain ⟨p,h1,h2⟩:=ZK hI hz hx h
     exact aV (by simp only[aU,h1,Option.map_some]; try rfl) hs h2
    ·cases h
   ·cases h
  ·rename_i s hx
   split at h
   ·rename_i ht
    obtain ⟨p,h1,h2⟩:=YS ht hx h
    exact aV (by simp only[aU,h1,Option.map_some]; try rfl) hs h2
   ·cases h
  ·rename_i i0 off m sz hx
   obtain ⟨p,h1,h2⟩:=ZQ hx h
   exact aV (by simp only[aU,h1,Option.map_some]; try rfl) hs h2
  ·exact bT hs h
 ·rename_i t x l u m
  have hs:eY X.E ⟨dst,.slice t x (some l) (some u) (some m),ty,pos,af,g⟩ σ:=trivial
  split at h
  ·rename_i ow sz es k1 a k2 b k3 c hx hl hu hm
   split at h
   ·rename_i I hI
    split at h
    ·rename_i hz
     obtain ⟨h1,h2⟩:=aP h
     simp only[Bool.and_eq_true,decide_eq_true_eq] at h1
     obtain ⟨⟨⟨b1,b2⟩,b3⟩,b4⟩:=h1
     exact aV (σ1:=σ) (by simp only[aU,pop,hx,hl,hu,hm,IB]; rw[if_pos ⟨by rw[hI,Option.map_some,Nat.eq_of_beq_eq_true hz],b1,b2,b3,b4⟩]; rfl) hs h2
    ·cases h
   ·cases h
  ·cases h
 ·rename_i t l c
  have hs:eY X.E ⟨dst,.makeSlice t l c,ty,pos,af,g⟩ σ:=trivial
  unfold a0C at h
  split at h
  ·rename_i I k n k' n' hT hl hc
   split at h
   ·rename_i hz
    simp only[Bool.and_eq_true,Nat.blt_eq,Nat.ble_eq] at hz
    obtain ⟨h1,h2⟩:=aP h
    simp only[Bool.and_eq_true,decide_eq_true_eq] at h1
    have hcond:n=n'∧0≤n∧n≤1073741824∧0<I.size∧I.bytes≤1024:=⟨h1.1.1,h1.1.2,h1.2,hz.1,hz.2⟩
    split at h2
    ·rename_i hm
     exact aV (σ1:=⟨σ.s,σ.h ++ [some (lN n.toNat I)]⟩) (by simp only[aU,hT,hl,hc]; rw[if_pos hcond,if_pos hm]) hs h2
    ·rename_i hm
     split at h2
     ·rename_i hze
      simp only[Bool.and_eq_true] at hze
      exact aV (σ1:=σ) (by simp only[aU,hT,hl,hc]; rw[if_pos hcond,if_neg (by rw[hm]; simp),if_pos ⟨Nat.eq_of_beq_eq_true hze.1,hze.2⟩]) hs h2
     ·cases h2
   ·cases h
  ·cases h
 ·rename_i t m k ok
  have hs:eY X.E ⟨dst,.lookup t m k ok,ty,pos,af,g⟩ σ:=trivial
  split at h
  ·rename_i pm q hm hq
   unfold a02 at h
   split at h
   ·rename_i s z i ht
    split at h
    ·rename_i cs hcs
     split at h
     ·rename_i b L hin
      split at h
      ·rename_i hik
       split at h
       ·rcases QZ h with ⟨p,hg,h⟩ | ⟨hg,h⟩
        ·exact aV (σ1:=σ) (p:=AC ok z (some p)) (by simp only[aU,ht,hm,hq,hcs,hin,hik,hg]) hs h
        ·exact aV (σ1:=σ) (p:=AC ok z none) (by simp only[aU,ht,hm,hq,hcs,hin,hik,hg]) hs h
       ·unfold aEG at h
        split at h
        ·rename_i p hg
         have h:=mW hV h
         exact aV (σ1:=σ) (p:=AC ok z (some p)) (by simp only[aU,ht,hm,hq,hcs,hin,hik,hg]) hs h
        ·rename_i hg
         exact aV (σ1:=σ) (p:=AC ok z none) (by simp only[aU,ht,hm,hq,hcs,hin,hik,hg]) hs h
        ·cases h
      ·cases h
     ·cases h
    ·cases h
   ·cases h
  ·cases h
 ·rename_i t m k x
  have hs:eY X.E ⟨dst,.mapUpdate t m k x,ty,pos,af,g⟩ σ:=trivial
  split at h
  ·rename_i pm q y hm hq hy
   unfold WZ at h
   split at h
   ·rename_i s z i ht
    split at h
    ·rename_i cs hcs
     split at h
     ·rename_i b L hin
      split at h
      ·rename_i hik
       obtain ⟨h1,h2⟩:=aP h
       exact aV (p := .tuple []) (σ1 := { σ with h:=σ.h.set i (some [qO b (eG s L q y)]) }) (by simp only[aU,ht,hm,hq,hy,hcs,hin,hik,h1,Bool.and_self]) hs (by simpa[dN,ASt.put] using h2)
      ·cases h
     ·cases h
    ·cases h
   ·cases h
  ·cases h
 ·rename_i t m k x
  have hs:eY X.E ⟨dst,.insert t m k x,ty,pos,af,g⟩ σ:=trivial
  split at h
  ·cases h
  rename_i hso
  split at h
  ·rename_i pm q y hm hq hy
   unfold WZ at h
   split at h
   ·rename_i s z i ht
    split at h
    ·rename_i cs hcs
     split at h
     ·rename_i b L hin
      split at h
      ·rename_i hik
       obtain ⟨h1,h2⟩:=aP h
       exact aV (p := .tuple []) (σ1 := { σ with h:=σ.h.set i (some [qO b (eG s L q y)]) }) (by rw[hm] at hso; simp only[aU,hso,ht,hm,hq,hy,hcs,hin,hik,h1,Bool.and_self]) hs (by simpa[dN,ASt.put] using h2)
      ·cases h
     ·cases h
    ·cases h
   ·cases h
  ·cases h
 ·rename_i x b
  have hs:eY X.E ⟨dst,.next x b,ty,pos,af,g⟩ σ:=trivial
  unfold ZV at h
  split at h
  ·rename_i T i hx
   split at h
   ·rename_i cs hcs
    split at h
    ·rename_i s p hin
     split at h
     ·rename_i hT
      obtain ⟨h1,h2⟩:=aP h
      cases hp:decide (p<(s.size:Int)) with
      | true =>
       rw[hp] at h2
       exact aV (p := .tuple [.bool true,.int .i64 p,.int .i32 (ZI s p)]) (σ1 := { σ with h:=σ.h.set i (some [wU s (MI s p)]) }) (by simp only[aU,hx,hcs,hin,hT,h1,hp,Bool.and_self]) hs h2
      | false =>
       rw[hp] at h2
       exact aV (p := .tuple [.bool false]) (σ1:=σ) (by simp only[aU,hx,hcs,hin,hT,h1,hp,Bool.and_self]) hs h2
     ·cases h
    ·cases h
   ·cases h
  ·cases h
 ·rename_i s x f
  have hs:eY X.E ⟨dst,.fieldAddr s x f,ty,pos,af,g⟩ σ:=trivial
  split at h
  ·rename_i cs fs hx hfs
   split at h
   ·rename_i off z hf
    split at h
    ·rename_i p hz hp
     obtain ⟨h1,h2⟩:=aP h
     have hz:z≠0:=fun e=>by subst e; exact absurd hz (by decide)
     exact aV (p := .cst p.un) (σ1:=σ) (by simp only[aU,pop,hfs,hx,hf,Option.bind_some,if_neg hz,JC,lL,hp,h1,if_true,Bool.false_eq_true,if_false,Option.map_some]) hs h2
    ·cases h
   ·exact bT hs h
  ·exact bT hs h
 ·rename_i t x
  have hs:eY X.E ⟨dst,.box t x,ty,pos,af,g⟩ σ:=trivial
  split at h
  ·rename_i ds hf hx
   obtain ⟨h1,h2⟩:=aP h
   rw[Bool.and_eq_true] at h1
   exact aV (p := .cst (.agg (ds.map PV.un))) (σ1:=σ) (by simp only[aU,hf,hx,Option.bind_some,if_true]; rw[show WN (.agg ds)=some (.agg (ds.map PV.un)) by simp only[WN,PV.newCells,h1.1,if_true,PV.flat,h1.2]]; rfl) hs h2
  ·exact bT hs h
 ·rename_i bop t x y t'
  have hs:eY X.E ⟨dst,.binOp bop t x y t',ty,pos,af,g⟩ σ:=trivial
  split at h
  ·rename_i k a k' b hx hy
   unfold X9 at h
   split at h
   ·rename_i e
    obtain ⟨h1,h2⟩:=aP h
    have h1:b≠0:=by simpa using h1
    exact aV (by simp only[aU,pop,hx,hy,BA,if_pos e,LK,if_neg h1]; try rfl) hs h2
   ·cases h
  ·rename_i k a k' b hx hy
   unfold X9 at h
   split at h
   ·rename_i e
    obtain ⟨h1,h2⟩:=aP h
    have h1:b≠0:=by simpa using h1
    exact aV (by simp only[aU,pop,hx,hy,BA,if_pos e,LK,if_neg h1]; try rfl) hs h2
   ·cases h
  ·rename_i k a k' b hx hy
   obtain ⟨h1,h2⟩:=aP h
   have h1:¬ b<0:=by simpa using h1
   exact aV (by simp only[aU,pop,hx,hy,BA,wP,if_neg h1]; try rfl) hs h2
  ·rename_i k a k' b hx hy
   obtain ⟨h1,h2⟩:=aP h
   have h1:¬ b<0:=by simpa using h1
   exact aV (by simp only[aU,pop,hx,hy,BA,wP,if_neg h1]; try rfl) hs h2
  ·rename_i a b hx hy
   obtain ⟨h1,h2⟩:=aP h
   have h1:=of_decide_eq_true h1
   exact aV (by simp only[aU,pop,hx,hy,BA,UG,if_pos h1]; try rfl) hs h2
  ·rename_i p hx hy
   unfold aD8 at h
   split at h
   ·rename_i ht
    obtain ⟨b,h1,h2⟩:=a0X h
    exact aV (σ1:=σ) (by simp only[aU,pop,hx,hy]; rw[aJD ht h2 true]; rfl) hs h1
   ·cases h
  ·rename_i p hx hy
   unfold aD8 at h
   split at h
   ·rename_i ht
    obtain ⟨b,h1,h2⟩:=a0X h
    exact aV (σ1:=σ) (by simp only[aU,pop,hx,hy]; rw[aJD ht h2 false]; rfl) hs h1
   ·cases h
  ·exact bT hs h
 ·rename_i c
  split at h
  ·rename_i hca
   split at h
   ·rename_i x t h1 h2
    have hs:eY X.E ⟨dst,.call c,ty,pos,af,g⟩ σ:=by simp only[eY,hca]
    unfold OX at h
    split at h
    ·rename_i I i0 off m sz hT hx
     split at h
     ·rename_i cs hcs
      split at h
      ·rename_i hz
       obtain ⟨c1,c2⟩:=aP h
       exact aV (p := .tuple []) (σ1 := { σ with h:=σ.h.set i0 (some (cs.take off ++ (lN m I).map PV.un ++ cs.drop (off+m*sz))) }) (by simp only[aU,hca,h1,h2,hT,hx,hcs]; rw[if_pos ⟨Nat.eq_of_beq_eq_true hz,of_decide_eq_true c1⟩]) hs (by unfold dN; simp only[ASt.put]; exact c2)
      ·cases h
     ·cases h
    ·rename_i I o' z' hT hx
     exact aV (p := .tuple []) (σ1:=σ) (by simp only[aU,hca,h1,h2,hT,hx]) hs (by unfold dN; simp only[ASt.put]; exact h)
    ·cases h
   ·cases h
  ·rename_i hca
   split at h
   ·rename_i x y t u h1 h2
    have hs:eY X.E ⟨dst,.call c,ty,pos,af,g⟩ σ:=by simp only[eY,hca]
    unfold a7' at h
    split at h
    ·rename_i I i0 off n sz o' sz' es hT hx hy
     split at h
     ·rename_i cs hcs
      split at h
      ·rename_i hz
       simp only[Bool.and_eq_true,Nat.blt_eq] at hz
       obtain ⟨z1,z2,z3⟩:=hz
       obtain ⟨c1,c2⟩:=aP h
       exact aV (p := .int .i64 ((Nat.min es.length n:Nat):Int)) (σ1 := { σ with h:=σ.h.set i0 (some (cs.take off ++ (aX es).take (Nat.min es.length n*sz) ++ cs.drop (off+Nat.min es.length n*sz))) }) (by simp only[aU,hca,h1,h2,hT,hx,hy,hcs,pJ,z3]; rw[if_pos ⟨Nat.eq_of_beq_eq_true z1,z2,of_decide_eq_true c1⟩]) hs c2
      ·cases h
     ·cases h
    ·rename_i I i0 off n sz j0 off2 m sz' hT hx hy
     split at h
     ·rename_i cs cs2 hcs hcs2
      split at h
      ·rename_i hz
       simp only[Bool.and_eq_true,Nat.blt_eq] at hz
       obtain ⟨z1,z2,z3⟩:=hz
       have z3:=Nat.eq_of_beq_eq_true z3
       subst z3
       obtain ⟨c1,c2⟩:=aP h
       simp only[Bool.and_eq_true,decide_eq_true_eq] at c1
       exact aV (p := .int .i64 ((Nat.min m n:Nat):Int)) (σ1 := { σ with h:=σ.h.set i0 (some (cs.take off ++ (((cs2.drop off2).take (m*sz')).map PV.un).take (Nat.min m n*sz') ++ cs.drop (off+Nat.min m n*sz'))) }) (by
        have e1:pJ σ sz' (.slh j0 off2 m sz')=some (m,((cs2.drop off2).take (m*sz')).map PV.un):=by simp only[pJ,hcs2]; rw[if_pos ⟨trivial,c1.2⟩]
        simp only[aU,hca,h1,h2,hT,hx,hy,hcs,e1]; rw[if_pos ⟨Nat.eq_of_beq_eq_true z1,z2,c1.1⟩]) hs c2
      ·cases h
     ·cases h
    ·cases h
   ·cases h
  ·rename_i hca
   split at h
   ·rename_i s x hxs
    split at h
    ·rename_i o1 z1 es o2 z2 es' he hx
     obtain ⟨h1,h2⟩:=aP h
     exact bT (by simp only[eY,hca,hxs,he,hx]; exact of_decide_eq_true h1) h2
    ·rename_i o1 z1 es b he hx
     obtain ⟨h1,h2⟩:=aP h
     exact bT (by simp only[eY,hca,hxs,he,hx]; exact of_decide_eq_true h1) h2
    ·rename_i n1 z1 cs o2 z2 es' he hx
     unfold a5O at h
     split at h
     ·rename_i t u hts
      split at h
      ·rename_i I hT
       split at h
       ·rename_i hc
        simp only[Bool.and_eq_true,Bool.or_eq_true,Nat.blt_eq,Nat.ble_eq] at hc
        obtain ⟨c1,c2,c3,c4,c5⟩:=hc
        obtain ⟨h1,h2⟩:=aP h
        simp only[Bool.and_eq_true] at h1
        have c1:=Nat.eq_of_beq_eq_true c1
        have c4:=Nat.eq_of_beq_eq_true c4
        have c5:z2=I.size∨z2=0:=c5.imp (fun e=>Nat.eq_of_beq_eq_true e) fun e=>Nat.eq_of_beq_eq_true e
        subst c1; subst c4
        exact aV (σ1:=σ.clr s) (by simp only[aU,hca,hxs,hts,hT,he,hx]; rw[if_pos ⟨trivial,c2,c3,trivial,c5,h1.2⟩]) (by simp only[eY,hca,hxs,he,hx]; exact of_decide_eq_true h1.1) h2
       ·cases h
      ·cases h
     ·cases h
    ·rename_i l b he hx
     obtain ⟨h1,h2⟩:=aP h
     exact bT (by simp only[eY,hca,hxs,he,hx]; exact of_decide_eq_true h1) h2
    ·rename_i l o2 z2 es' he hx
     split at h
     ·rename_i c hob
      obtain ⟨h1,h2⟩:=aP h
      simp only[Bool.and_eq_true,decide_eq_true_eq] at h1
      exact bT (by simp only[eY,hca,hxs,he,hx,hob]; exact ⟨h1.1.1,h1.1.2,h1.2⟩) h2
     ·cases h
    ·cases h
   ·cases h
  ·rename_i hnot hca
   refine bT ?_ h
   simp only[eY,hca]
   split
   ·rename_i e; injection e with e; exact absurd e hnot
   ·trivial
  ·cases h
 ·refine bT (aLP (fun c e => ?_) _) h
  rename_i hnc
  exact hnc c e
def kK (P:Program) (C:Cal):Prop:=∀ g args h r h',C g args h=some (r,h')→Ev P g args h r h'
theorem D8 {M:Mem} {B:bY} {P:Program}:∀ {ts:List TypeId} {ps:List PV} {vs:List Value},Reps M B ps vs→Reps M B (uB P ts ps) vs
 | [],ps,vs,h=>by cases ps<;>exact h
 | t::ts,[],vs,h=>h
 | t::ts,p::ps,vs,h=>by
  obtain ⟨u,us,rfl,h1,h2⟩:=reps_cons.1 h
  exact reps_cons.2 ⟨u,us,rfl,by unfold aPE; split<;>first | exact h1 | exact wI _ h1,D8 h2⟩
theorem mO {M:Mem} {B:bY}:∀ {ps qs:List PV} {vs:List Value},Reps M B (ps ++ qs) vs→∃ us ws,vs=us ++ ws∧Reps M B ps us∧Reps M B qs ws
 | [],qs,vs,h=>⟨[],vs,rfl,reps_nil.2 rfl,h⟩
 | p::ps,qs,vs,h=>by
  obtain ⟨u,us,rfl,h1,h2⟩:=reps_cons.1 h
  obtain ⟨a,b,rfl,h3,h4⟩:=mO h2
  exact ⟨u::a,b,rfl,reps_cons.2 ⟨u,a,rfl,h1,h3⟩,h4⟩
theorem EvG.args {P:Program} {cp:CP} {g:FuncId} {az as':List PV} {h:aG} {r:PV} {h':aG} (k:EvG P cp g as' h r h') (hr:∀ (M:Mem) (B:bY) (vs:List Value),Reps M B az vs→Reps M B as' vs):EvG P cp g az h r h' :=
 ⟨k.1,fun out M B w vals h1 h2 h3 h4 h5=>k.2 out M B w vals h1 h2 h3 h4 (hr _ _ _ h5)⟩
theorem Ev.args {P:Program} {g:FuncId} {az as':List PV} {h:aG} {r:PV} {h':aG} (k:Ev P g as' h r h') (hr:∀ (M:Mem) (B:bY) (vs:List Value),Reps M B az vs→Reps M B as' vs):Ev P g az h r h':=EvG.args k hr
theorem wK {P:Program}:∀ {ts:List TypeId} {ps:List PV},PV.flats (uB P ts ps)=PV.flats ps
 | [],ps=>by cases ps<;>rfl
 | t::ts,[]=>rfl
 | t::ts,p::ps=>by
  have h1:∀ z (p:PV),(p.resz z).flat=p.flat:=fun z p=>by
   cases p with
   | sl o s es =>
    rw[PV.resz]
    split
    ·unfold Z5; split<;>rfl
    ·rfl
   | _=>rfl
  have h2:∀ zs (cs:List PV),PV.flats (a3C zs cs)=PV.flats cs:=by
   intro zs
   induction zs with
   | nil=>intro cs; cases cs<;>rfl
   | cons z zs ih =>
    intro cs
    cases cs with
    | nil=>rfl
    | cons c cs=>rw[a3C,PV.flats,PV.flats,h1,ih]
  have h3:(p.reszT (KU P 8 t)).flat=p.flat:=by
   cases p with
   | agg cs=>simp only[PV.reszT,PV.flat,h2]
   | _=>simp only[PV.reszT,h1]
  have h4:(aPE (KU P 8 t) p).flat=p.flat:=by unfold aPE; split<;>first | rfl | exact h3
  rw[uB,PV.flats,PV.flats,h4,wK]
theorem dV:∀ {a b:List PV},PV.flats (a ++ b)=(PV.flats a&&PV.flats b)
 | [],b=>by simp[PV.flats]
 | p::a,b=>by simp[PV.flats,dV (a:=a),Bool.and_assoc]
theorem EC {cp:CP} (hcm:RU cp) (hW:oH X.W) (hC:∀ g args h r h',X.C g args h=some (r,h')→EvG X.E.P cp g args h r h') {dst:Option Nat} {g:FuncId} {full full':List PV} {ids:List Nat} (hconv:∀ (M:Mem) (B:bY) (vs:List Value),Reps M B full' vs→Reps M B full vs) (h:kY X dst g full ids K σ=some v) :
 ∃ r h',EvG X.E.P cp g full' σ.h r (DN ids σ.h h')∧bJ X.E dst r { σ with h:=DN ids σ.h h' } (fun σ'=>K σ'=some v):=by
 simp only[kY] at h
 split at h
 ·rename_i hok
  unfold clH at h
  split at h
  ·rename_i r h' hr
   have h:=sF hW h
   simp only[aST,Bool.and_eq_true] at hok
   obtain ⟨k1,k2,k3,k4⟩:=hok
   have he:=(EvG.sub hcm (hC _ _ _ _ _ hr) k1 (fun i hi=>by
    have:=List.all_eq_true.1 k2 i hi
    simpa[Nat.blt_eq] using this) k3 (fun i cs hi hcs=>by
    have:=List.all_eq_true.1 k4 i hi
    rw[getO_some.2 hcs] at this; exact this)).args (az:=full') hconv
   exact ⟨_,_,he,dI h⟩
  ·cases h
 ·cases h
theorem JB (hW:oH X.W) (hC:kK X.E.P X.C) {dst:Option Nat} {g:FuncId} {full full':List PV} {ids:List Nat} (hconv:∀ (M:Mem) (B:bY) (vs:List Value),Reps M B full' vs→Reps M B full vs) (h:kY X dst g full ids K σ=some v) :
 ∃ r h',Ev X.E.P g full' σ.h r (DN ids σ.h h')∧bJ X.E dst r { σ with h:=DN ids σ.h h' } (fun σ'=>K σ'=some v):=EC (xP _) hW hC hconv h
theorem EN (hW:oH X.W) (hC:kK X.E.P X.C) {dst:Option Nat} {g:FuncId} {full full':List PV} {ids:List Nat} (hconv:∀ (M:Mem) (B:bY) (vs:List Value),Reps M B full' vs→Reps M B full vs) (h:kY X dst g full ids K σ=some v) :
 WM X.E g full' dst (fun σ'=>K σ'=some v) σ:=by
 obtain ⟨r,h',h1,h2⟩:=JB hW hC hconv h
 exact ⟨r,_,h1,h2⟩
theorem aO1 {E:AE} {ids:List Nat} {H:aG} (h:b39 E.ln ids H.length=true) (h':aG):VI E (DN ids H h') H:=by
 intro i hi
 have hm:1000000+i∈E.ln:=by simpa[dL] using hi
 have:=List.all_eq_true.1 h _ hm
 rw[show Nat.ble 1000000 (1000000+i)=true by rw[Nat.ble_eq]; omega,Nat.add_sub_cancel_left] at this
 simp only[Bool.and_eq_true,Bool.not_eq_true'] at this
 obtain ⟨h1,h2⟩:=this
 have hlt:i<H.length:=by simpa[Nat.blt_eq] using h1
 have hni:i∉ids:=fun hc=>by rw[inI_iff.2 hc] at h2; cases h2
 unfold DN
 rw[List.getElem?_append_left (by rw[iZ]; exact hlt),sS hni]
theorem a2T (hW:oH X.W) (hC:kK X.E.P X.C) {f:Operand} {args:List Operand} (h:FH X true o f args K σ=some v) :
 ∃ g first caps az,σ.rd f=some (.func (.func g) first caps)∧bQ (args.map σ.rd)=some az∧YN X.E g (first ++ az ++ caps) o.dst (fun σ'=>K σ'=some v) σ:=by
 unfold FH at h
 split at h
 ·rename_i g first caps az hf ha
  try simp only[Bool.not_true,Bool.false_and] at h
  have hconv:∀ (M:Mem) (B:bY) (vs:List Value),Reps M B (first ++ az ++ caps) vs→Reps M B (first ++ uB X.E.P (jL X.E o) az ++ caps) vs:=fun M B vs hv=>by
   obtain ⟨a1,a2,rfl,h1,h2⟩:=mO hv
   obtain ⟨a3,a4,rfl,h3,h4⟩:=mO h1
   exact dU (dU h3 (D8 h4)) h2
  split at h
  ·rename_i hfl
   unfold zT at h
   split at h
   ·rename_i r hr
    have h:=sF hW h
    try simp only[Bool.not_true,Bool.false_and] at h
    split at h
    ·rename_i hrf
     exact ⟨g,first,caps,az,hf,ha,O8 ((hC _ _ _ _ _ hr).args hconv) hrf (by rw[dV,dV,wK] at hfl; rw[dV,dV]; exact hfl) (dI h)⟩
    ·cases h
   ·cases h
  ·split at h
   ·rename_i hsy
    rw[Bool.and_eq_true] at hsy
    obtain ⟨r,h',h1,h2⟩:=JB hW hC hconv h
    exact ⟨g,first,caps,az,hf,ha,.inr ⟨hsy.1,r,_,h1,aO1 hsy.2 h',h2⟩⟩
   ·cases h
 ·cases h
theorem X8 (f:Nat→Nat):∀ {cs:List PV},cs.all LZ=true→kZ f cs=cs
 | [],_=>by simp[kZ]
 | p::cs,h=>by
  rw[List.all_cons,Bool.and_eq_true] at h
  have h1:=h.1
  unfold LZ at h1
  rw[Bool.and_eq_true] at h1
  rw[kZ,WL f p h1.2,X8 f h.2]
theorem a7M (f:Nat→Nat) {o:Option (List PV)} (h:yS o=true):nC f o=o:=by
 cases o with
 | none=>rfl
 | some cs=>simp only[nC]; rw[X8 f h]
theorem uQ (f:Nat→Nat):∀ {h:aG},h.all yS=true→h.map (nC f)=h
 | [],_=>rfl
 | o::h,e=>by
  rw[List.all_cons,Bool.and_eq_true] at e
  rw[List.map_cons,a7M f e.1,uQ f e.2]
theorem ND (D:Nat→Bool):∀ {cs:List PV},cs.all LZ=true→PV.allIL D cs=true
 | [],_=>by simp[PV.allIL]
 | p::cs,h=>by
  rw[List.all_cons,Bool.and_eq_true] at h
  have h1:=h.1
  unfold LZ at h1
  rw[Bool.and_eq_true] at h1
  rw[PV.allIL,XF p h1.2,ND D h.2]; rfl
theorem a7D (ids:List Nat) (H:aG) {h':aG} (e:h'.all yS=true):DN ids H h'=aUQ ids H h':=by
 unfold DN aUQ
 have e1:(h'.take ids.length).all yS=true:=List.all_eq_true.2 fun x hx=>List.all_eq_true.1 e x (List.mem_of_mem_take hx)
 have e2:(h'.drop ids.length).all yS=true:=List.all_eq_true.2 fun x hx=>List.all_eq_true.1 e x (List.mem_of_mem_drop hx)
 rw[uQ _ e1,uQ _ e2]
theorem EP (hW:oH X.W) (hC:kK X.E.P X.C) {dst:Option Nat} {g:FuncId} {full full':List PV} {ids:List Nat} (hconv:∀ (M:Mem) (B:bY) (vs:List Value),Reps M B full' vs→Reps M B full vs) (h:xZ X dst g full ids K σ=some v):WM X.E g full' dst (fun σ'=>K σ'=some v) σ:=by
 simp only[xZ] at h
 split at h
 ·rename_i hok
  obtain ⟨c1,h⟩:=aP h
  unfold clH at h
  split at h
  ·rename_i r h' hr
   have h:=sF hW h
   obtain ⟨c2,h⟩:=aP h
   simp only[Bool.and_eq_true] at hok
   obtain ⟨k1,k2,k3⟩:=hok
   rw[← uQ (wB _) c1] at hr
   have he:=(Ev.sub (hC _ _ _ _ _ hr) k1 (fun i hi=>by
    have:=List.all_eq_true.1 k2 i hi
    simpa[Nat.blt_eq] using this) k3 (fun i cs hi hcs=>by
    have:=List.all_eq_true.1 c1 (rZ σ.h i) (List.mem_map_of_mem hi)
    rw[getO_some.2 hcs] at this
    exact ND _ this)).args (az:=full') hconv
   rw[a7D _ _ c2] at he
   exact ⟨_,_,he,dI h⟩
  ·cases h
 ·cases h
theorem a7K (hW:oH X.W) (hC:kK X.E.P X.C) {f:Operand} {args:List Operand} (h:FH X false o f args K σ=some v) :
 ∃ g first caps az,σ.rd f=some (.func (.func g) first caps)∧bQ (args.map σ.rd)=some az∧WM X.E g (first ++ az ++ caps) o.dst (fun σ'=>K σ'=some v) σ:=by
 unfold FH at h
 split at h
 ·rename_i g first caps az hf ha
  have hconv:∀ (M:Mem) (B:bY) (vs:List Value),Reps M B (first ++ az ++ caps) vs→Reps M B (first ++ uB X.E.P (jL X.E o) az ++ caps) vs:=fun M B vs hv=>by
   obtain ⟨a1,a2,rfl,h1,h2⟩:=mO hv
   obtain ⟨a3,a4,rfl,h3,h4⟩:=mO h1
   exact dU (dU h3 (D8 h4)) h2
  split at h
  ·split at h
   ·exact ⟨g,first,caps,az,hf,ha,EP hW hC hconv h⟩
   ·exact ⟨g,first,caps,az,hf,ha,EN hW hC hconv h⟩
  split at h
  ·rename_i hfl
   unfold zT at h
   split at h
   ·rename_i r hr
    have h:=sF hW h
    split at h
    ·unfold a5A at h
     split at h
     ·rename_i es
      obtain ⟨h1,h2⟩:=aP h
      simp only[Bool.and_eq_true,decide_eq_true_eq] at h1
      exact ⟨g,first,caps,az,hf,ha,_,_,(Ev.thaw (H:=σ.h) (hC _ _ _ _ _ hr) hfl h1.1 h1.2).args hconv,dI h2⟩
     ·rename_i sz es _ _
      by_cases hpos:0<es.length
      ·rw[decide_eq_true hpos] at h
       obtain ⟨h1,h2⟩:=aP h
       exact ⟨g,first,caps,az,hf,ha,_,_,(Ev.thawG (H:=σ.h) (hC _ _ _ _ _ hr) hfl hpos h1).args hconv,dI h2⟩
      ·rw[decide_eq_false hpos] at h
       have e0:es = []:=List.eq_nil_of_length_eq_zero (by omega)
       subst e0
       exact ⟨g,first,caps,az,hf,ha,FU ((hC _ _ _ _ _ hr).args hconv) rfl (by rw[dV,dV,wK] at hfl; rw[dV,dV]; exact hfl) (dI h)⟩
     ·cases h
    ·split at h
     ·rename_i hrf
      exact ⟨g,first,caps,az,hf,ha,FU ((hC _ _ _ _ _ hr).args hconv) hrf (by rw[dV,dV,wK] at hfl; rw[dV,dV]; exact hfl) (dI h)⟩
     ·cases h
   ·cases h
  ·split at h
   ·rename_i e; cases e
   ·split at h
    ·unfold a6L at h
     obtain ⟨h1,h2⟩:=aP h
     unfold zT at h2
     split at h2
     ·rename_i r hr
      have h2:=sF hW h2
      split at h2
      ·rename_i hrn
       exact ⟨g,first,caps,az,hf,ha,_,_,(Ev.lend (hC _ _ _ _ _ hr) hrn h1).args hconv,dI h2⟩
      ·cases h2
     ·cases h2
    ·split at h
     ·exact ⟨g,first,caps,az,hf,ha,EP hW hC hconv h⟩
     exact ⟨g,first,caps,az,hf,ha,EN hW hC hconv h⟩
 ·cases h
theorem GY (hV:nZ X.V) (hC:kK X.E.P X.C) {f:Operand} {args:List Operand} (h:PU X o f args K σ=some v) :
 ∃ g first caps az r,σ.rd f=some (.func (.func g) first caps)∧bQ (args.map σ.rd)=some az∧Ev X.E.P g (first ++ az ++ caps) [] r []∧r.flat=true∧PV.flats (first ++ az ++ caps)=true∧bJ X.E o.dst r σ (fun σ'=>K σ'=some v):=by
 unfold PU at h
 split at h
 ·rename_i p az hf ha
  obtain ⟨g,first,caps,rfl,h⟩:=aH7 h
  obtain ⟨hfl,h⟩:=aP h
  have hconv:∀ (M:Mem) (B:bY) (vs:List Value),Reps M B (first ++ az ++ caps) vs→Reps M B (first ++ uB X.E.P (jL X.E o) az ++ caps) vs:=fun M B vs hv=>by
   obtain ⟨a1,a2,rfl,h1,h2⟩:=mO hv
   obtain ⟨a3,a4,rfl,h3,h4⟩:=mO h1
   exact dU (dU h3 (D8 h4)) h2
  unfold zT at h
  split at h
  ·rename_i r hr
   have h:=mW hV h
   split at h
   ·rename_i hrf
    exact ⟨g,first,caps,az,r,hf,ha,(hC _ _ _ _ _ hr).args hconv,hrf,by rw[dV,dV,wK] at hfl; rw[dV,dV]; exact hfl,dI h⟩
   ·cases h
  ·cases h
 ·cases h
theorem YD (hV:nZ X.V) (hW:oH X.W) (hC:kK X.E.P X.C) (h:ex1 X false o K σ=some v):uH X.E o (fun σ'=>K σ'=some v) σ:=by
 unfold ex1 at h
 split at h
 ·rename_i f args hc
  obtain ⟨g,first,caps,az,hf,ha,h2⟩:∃ g first caps az,σ.rd f=some (.func (.func g) first caps)∧bQ (args.map σ.rd)=some az∧WM X.E g (first ++ az ++ caps) o.dst (fun σ'=>K σ'=some v) σ:=by
   split at h
   ·obtain ⟨g,first,caps,az,r,h1,h2,h3,h4,h5,h6⟩:=GY hV hC h
    exact ⟨g,first,caps,az,h1,h2,FU h3 h4 h5 h6⟩
   ·exact a7K hW hC h
  clear h
  obtain ⟨dst,op,type,pos,after,guard⟩:=o
  cases op<;>simp[kE] at hc
  rename_i c
  obtain ⟨callee,cargs,ts⟩:=c
  cases callee<;>simp at hc
  obtain ⟨rfl,rfl⟩:=hc
  simp only[uH,hf,ha]
  exact h2
 ·rename_i hc
  rw[a6Q hc]
  split at h
  ·exact .inl (FI hV hc h)
  ·split at h
   ·rename_i es pos hn
    refine .inr ?_
    unfold aI4
    rw[hn]
    intro b hb
    obtain ⟨h1,h2⟩:=aEC h
    cases b
    ·exact dI h1
    ·exact dI (h2 (hb rfl))
   ·exact .inl (FI hV hc h)
theorem TK (hV:nZ X.V) (hW:oH X.W) (hC:kK X.E.P X.C) (h:ex1 X true o K σ=some v):qK X.E o (fun σ'=>K σ'=some v) σ:=by
 unfold ex1 at h
 unfold qK
 split at h
 ·rename_i f args hc
  obtain ⟨g,first,caps,az,hf,ha,h⟩:∃ g first caps az,σ.rd f=some (.func (.func g) first caps)∧bQ (args.map σ.rd)=some az∧YN X.E g (first ++ az ++ caps) o.dst (fun σ'=>K σ'=some v) σ:=by
   split at h
   ·obtain ⟨g,first,caps,az,r,h1,h2,h3,h4,h5,h6⟩:=GY hV hC h
    exact ⟨g,first,caps,az,h1,h2,O8 h3 h4 h5 h6⟩
   ·exact a2T hW hC h
  simp only[hc,hf,ha]
  exact h
 ·rename_i hc
  simp only[hc]
  exact FI hV hc h
theorem P7 {d:Nat} {b:Bool} (h:bK d σ.s=some (.bool b)):σ.lit d b=σ:=by unfold ASt.lit; rw[YV h]
theorem qA (hV:nZ X.V) (hW:oH X.W) (hC:kK X.E.P X.C):∀ (l:List Oper) {K:ASt→R} {σ:ASt},gB X false ops l K σ=some v→dZ X.E ops l (fun σ'=>K σ'=some v) σ
 | [],K,σ,h=>h
 | o::l,K,σ,h=>by
  have ih:∀ σ,gB X false ops l K σ=some v→dZ X.E ops l (fun σ'=>K σ'=some v) σ:=fun σ h=>qA hV hW hC l h
  rw[gB] at h
  rw[dZ]
  split at h
  ·rename_i hg
   simp only[hg]
   exact y7 ih (YD hV hW hC h)
  ·rename_i j want hg
   simp only[hg,OG]
   split at h
   ·rename_i hd
    simp only[hd]
    exact dG ih (dI h)
   ·rename_i d hd
    simp only[hd]
    split at h
    ·rename_i b hb
     simp only[hb]
     have key:a3T X false o d want b (gB X false ops l K) σ=some v:=by
      cases b
      ·exact h
      ·exact h
     unfold a3T at key
     split at key
     ·rename_i e
      have e:b=want:=by simpa using e
      rw[P7 hb] at key
      exact ⟨fun _=>y7 ih (YD hV hW hC key),fun h=>absurd e h⟩
     ·rename_i e
      have e:b≠want:=by simpa using e
      rw[P7 hb] at key
      exact ⟨fun h=>absurd h e,fun _=>dG ih (dI key)⟩
    ·rename_i hb
     simp only[hb]
     exact dG ih (dI h)
    ·cases h
theorem xN (hV:nZ X.V) (hW:oH X.W) (hC:kK X.E.P X.C):∀ (l:List Oper) {K:ASt→R} {σ:ASt},gB X true ops l K σ=some v→eX X.E ops l (fun σ'=>K σ'=some v) σ
 | [],K,σ,h=>h
 | o::l,K,σ,h=>by
  have ih:∀ σ,gB X true ops l K σ=some v→eX X.E ops l (fun σ'=>K σ'=some v) σ:=fun σ h=>xN hV hW hC l h
  rw[gB] at h
  rw[eX]
  split at h
  ·rename_i hg
   simp only[hg]
   exact uT ih (TK hV hW hC h)
  ·rename_i j want hg
   simp only[hg,OG]
   split at h
   ·rename_i hd
    simp only[hd]
    exact dG ih (dI h)
   ·rename_i d hd
    simp only[hd]
    split at h
    ·rename_i b hb
     simp only[hb]
     have key:a3T X true o d want b (gB X true ops l K) σ=some v:=by
      cases b
      ·exact h
      ·exact h
     unfold a3T at key
     split at key
     ·rename_i e
      have e:b=want:=by simpa using e
      rw[P7 hb] at key
      exact ⟨fun _=>uT ih (TK hV hW hC key),fun h=>absurd e h⟩
     ·rename_i e
      have e:b≠want:=by simpa using e
      rw[P7 hb] at key
      exact ⟨fun h=>absurd h e,fun _=>dG ih (dI key)⟩
    ·rename_i hb
     simp only[hb]
     exact dG ih (dI h)
    ·cases h
def OA (X:XE):Prop:=∀ l m x (K:AX→ASt→R) σ v,X.L l m x K (σ.gc l m)=some v→aTD X.m0 (kP X.E X.m0 x) (fun e σ'=>K e σ'=some v) σ
theorem NH (hV:nZ X.V) (hW:oH X.W) (hC:kK X.E.P X.C) {K:ASt→R}:∀ (fuel:Nat) {L:Array Bool} {σ:ASt},JA X ops K fuel L σ=some v→a7R X.E ops (fun σ'=>K σ'=some v) fuel L σ
 | 0,L,σ,h=>by
  unfold JA at h
  split at h
  ·rename_i hr; exact ⟨hr,h⟩
  ·cases h
 | fuel+1,L,σ,h=>by
  unfold JA at h
  split at h
  ·rename_i hr; exact ⟨fun _=>h,fun i hi=>by rw[hr] at hi; simp[AL] at hi⟩
  ·rename_i a l hr
   refine ⟨fun e=>(by rw[hr] at e; cases e),fun i hi => ?_⟩
   rw[hr] at hi
   have h1:=TG h _ (List.mem_map.2 ⟨i,hi,rfl⟩)
   cases ho:ops[i]? with
   | none=>rw[ho] at h1; cases h1
   | some o =>
    rw[ho] at h1
    obtain ⟨σ',h2,h3⟩:=a3P (xN hV hW hC [o] h1)
    exact ⟨o,rfl,σ',h2,NH hV hW hC fuel h3⟩
theorem dB {k:ASt→R}:∀ (ks:List Nat) {σ:ASt} {v:PV×aG},pX k ks σ=some v→∃ ks',k (HY ks' σ)=some v
 | [],σ,v,h=>⟨[],h⟩
 | d::ds,σ,v,h=>by
  unfold pX at h
  split at h
  ·rename_i hd
   split at h
   ·rename_i i hs
    split at h
    ·rename_i p hc
     obtain ⟨h1,h2⟩:=aP h
     obtain ⟨ks',h3⟩:=dB ds h2
     refine ⟨d::ks',?_⟩
     have:F7 d σ=⟨iH (d-9000000) (.cst ((dY p.length p 1).headD .nilp)) σ.s,σ.h.set i none⟩:=by
      simp only[F7,hd,aKW,hs,hc,h1]
     rw[HY,this]; exact h3
    ·exact dB ds h
   ·exact dB ds h
  rename_i hd9
  split at h
  ·rename_i hd
   split at h
   ·rename_i i2 hs
    split at h
    ·rename_i cs0 hc
     split at h
     ·rename_i i n sz hj
      split at h
      ·rename_i cs hi
       obtain ⟨h1,h2⟩:=aP h
       obtain ⟨ks',h3⟩:=dB ds h2
       refine ⟨d::ks',?_⟩
       have:F7 d σ=⟨σ.s,(σ.h.set i none).set i2 (some (cs0.set ((d-5000000) % 100) (.sl false sz (dY sz cs n))))⟩:=by
        simp only[F7,hd9,hd,aNH,hs,hc,hj,hi,h1]
       rw[HY,this]; exact h3
      ·exact dB ds h
     ·exact dB ds h
    ·exact dB ds h
   ·exact dB ds h
  rename_i hd5
  split at h
  ·rename_i hd
   split at h
   ·rename_i i hs
    split at h
    ·rename_i cs0 hc
     split at h
     ·rename_i n sz cs hj
      cases hn:Nat.ble 1 n with
      | true =>
       rw[hn,aC] at h
       obtain ⟨ks',h3⟩:=dB ds h
       refine ⟨d::ks',?_⟩
       rw[HY]
       simp only[F7,hd9,hd5,hd,aHT,hs,hc,hj,hn]
       exact h3
      | false =>
       rw[hn,aC] at h
       obtain ⟨ks',h3⟩:=dB ds h
       refine ⟨d::ks',?_⟩
       rw[HY]
       simp only[F7,hd9,hd5,hd,aHT,hs,hc,hj,hn]
       exact h3
     ·exact dB ds h
    ·exact dB ds h
   ·exact dB ds h
  rename_i hd4
  split at h
  ·rename_i hd
   split at h
   ·rename_i n sz cs hs
    split at h
    ·obtain ⟨hn,h⟩:=aP h
     obtain ⟨ks',h3⟩:=dB ds h
     refine ⟨d::ks',?_⟩
     rw[HY]
     simp only[F7,hd9,hd5,hd4,hd,thw,hs,hn]
     exact h3
    cases hn:Nat.ble 1 n with
    | true =>
     rw[hn,aC] at h
     obtain ⟨ks',h3⟩:=dB ds h
     refine ⟨d::ks',?_⟩
     rw[HY]
     simp only[F7,hd9,hd5,hd4,hd,thw,hs,hn]
     exact h3
    | false =>
     rw[hn,aC] at h
     obtain ⟨ks',h3⟩:=dB ds h
     refine ⟨d::ks',?_⟩
     rw[HY]
     simp only[F7,hd9,hd5,hd4,hd,thw,hs,hn]
     exact h3
   ·exact dB ds h
  rename_i hd3
  split at h
  ·rename_i hd
   split at h
   ·rename_i i n sz hs
    split at h
    ·rename_i cs hc
     obtain ⟨h1,h2⟩:=aP h
     obtain ⟨ks',h3⟩:=dB ds h2
     refine ⟨d::ks',?_⟩
     have:F7 d σ=⟨iH (d-1000000) (.sl false sz (dY sz cs n)) σ.s,σ.h.set i none⟩:=by
      simp only[F7,hd9,hd5,hd4,hd3,hd,aMM,hs,hc,h1]
     rw[HY,this]; exact h3
    ·exact dB ds h
   ·exact dB ds h
  ·obtain ⟨ks',h3⟩:=dB ds h
   exact ⟨d::ks',h3⟩
theorem eQ (hV:nZ X.V) (hW:oH X.W) (hC:kK X.E.P X.C) (hL:OA X):∀ (c:Code) {K:AX→ASt→R} {σ:ASt},gW X c K σ=some v→kP X.E X.m0 c (fun e σ'=>K e σ'=some v) σ
 | .skip,K,σ,h=>h
 | .label _,K,σ,h=>h
 | .exit _,K,σ,h=>h
 | .ret,K,σ,h=>h
 | .region _ ops draw,K,σ,h=>by
  simp only[gW] at h
  rw[kP]
  cases draw with
  | false=>exact qA hV hW hC _ h
  | true =>
   cases hok:okD X.E ops with
   | true =>
    simp only[hok] at h
    exact .inl ⟨hok,xN hV hW hC _ h⟩
   | false =>
    simp only[hok] at h
    exact .inr (NH hV hW hC _ h)
 | .seq x y,K,σ,h=>by
  simp only[gW] at h
  rw[kP]
  refine iD x (fun e σ' he => ?_) (eQ hV hW hC hL x h)
  cases e with
  | normal =>
   have he:qC X.E X.m0 y (gW X y K) σ'=some v:=he
   have hj:∀ σ',EL X.E X.m0 y (gW X y K) σ'=some v→kP X.E X.m0 y (fun e σ=>K e σ=some v) σ'∨∃ l m,X.m0≤m∧QL l m σ'=true∧kP X.E X.m0 y (fun e σ=>K e σ=some v) (σ'.gc l m):=fun σ' he=>by
    unfold EL at he
    cases hl:X.E.jt.lookup (rid y) with
    | none=>rw[hl] at he; exact .inl (eQ hV hW hC hL y he)
    | some l =>
     rw[hl] at he
     simp only at he
     obtain ⟨hpl,he⟩:=aP he
     split at he
     ·rename_i hg
      simp only[Bool.and_eq_true,decide_eq_true_eq] at hg
      exact .inr ⟨l,_,hg.1,a00 hpl hg.2,eQ hV hW hC hL y he⟩
     ·cases he
   unfold qC at he
   split at he
   ·obtain ⟨ks,he⟩:=dB _ he
    exact ⟨ks,hj _ he⟩
   ·exact ⟨[],hj _ he⟩
  | ret=>exact he
  | exit i=>exact he
 | .cond c x y,K,σ,h=>by
  simp only[gW] at h
  rw[kP]
  split at h
  ·rename_i b hb
   simp only[hb]
   split at h
   ·rename_i d
    cases b with
    | true =>
     have h:gW X x K (σ.lit d true)=some v:=h
     rw[PM hb] at h
     exact ⟨fun _=>eQ hV hW hC hL x h,fun e=>by cases e⟩
    | false =>
     have h:gW X y K (σ.lit d false)=some v:=h
     rw[PM hb] at h
     exact ⟨fun e=>(by cases e),fun _=>eQ hV hW hC hL y h⟩
   ·cases b with
    | true=>exact ⟨fun _=>eQ hV hW hC hL x h,fun e=>by cases e⟩
    | false=>exact ⟨fun e=>(by cases e),fun _=>eQ hV hW hC hL y h⟩
  ·cases h
 | .block id x,K,σ,h=>by
  simp only[gW] at h
  rw[kP]
  refine iD x (fun e σ' he => ?_) (eQ hV hW hC hL x h)
  cases e with
  | normal=>exact he
  | ret=>exact he
  | exit i =>
   simp only[jH] at he
   simp only[KZ]
   split at he
   ·rename_i e; rw[if_pos e]; exact he
   ·rename_i e; rw[if_neg e]; exact he
 | .scope x,K,σ,h=>by
  simp only[gW] at h
  rw[kP]
  exact eQ hV hW hC hL x h
 | .loop x,K,σ,h=>by
  simp only[gW] at h
  rw[kP]
  exact hL _ _ _ _ _ _ h
 | .rangeFunc _ _ _ _,K,σ,h=>by simp[gW] at h
 | .goto _,K,σ,h=>by simp[gW] at h
 | .refuse _,K,σ,h=>by simp[gW] at h
end
end Go.Proofs.YtcdceiloganlnaaGreatDoor
namespace Go.Proofs.YtcdceiloganlnaaGreatDoor
open Go.RowKit
structure Prm where
 vars:List Nat
 mv:List Nat
 mu:List Nat
 sz:List (Nat×List Nat)
 jt:List (Nat×List Nat)
 lt:List (Nat×List Nat)
 pt:List (Nat×List Nat)
 fz:List Nat
 ro:List (List Nat×Bool)
 ft:List (Nat×List Nat) := []
 sy:List Nat := []
 ln:List Nat := []
 df:Bool:=false
abbrev Lop:=AE→Nat→List Nat→Nat→Code→(AX→ASt→R)→ASt→R
structure SE where
 P:Program
 prm:FuncId→Prm
 V:TypeId→PV→(PV→R)→R
 W:FuncId→aG→PV→aG→(PV→aG→R)→R
 C0:Cal
def SE.ae (S:SE) (g:FuncId) (n:Nat):AE:=⟨S.P,n,(S.prm g).vars,(S.prm g).mv,(S.prm g).mu,(S.prm g).sz,(S.prm g).jt,(S.prm g).lt,(S.prm g).pt,(S.prm g).fz,(S.prm g).ft,(S.prm g).sy,(S.prm g).ln⟩
def SE.xe (S:SE) (C:Cal) (L:Lop) (E:AE) (m0:Nat):XE:=⟨E,C,S.V,S.W,L E m0,m0⟩
def GN:PV→Nat
 | .ptr i _=>i+1
 | .tuple ps=>PV.topsL ps
 | _=>0
def b2V (P:Program) (rs:List ResultVar) (σ:ASt):Option PV:=match rs with
 | [x]=>resV P σ x
 | rs=>(bQ (rs.map (resV P σ))).map fun ps=>PV.tuple (ps.map PV.un)
def a'8:PV→List Nat
 | .tuple ps=>DW ps
 | _ => []
def ZZ (P:Program) (rs:List ResultVar) (ro:List (List Nat×Bool)) (m0:Nat) (fl:List Nat) (σ:ASt):R:=match b2V P rs σ with
 | some r=>chk (plainO (σ.h.take (Nat.max m0 (GN r))) (GH fl (a'8 r))) (match decide (Nat.max m0 (GN r)≤σ.h.length)&&(r.blw (Nat.max m0 (GN r))&&OM (Nat.max m0 (GN r)) (MR (GH fl (a'8 r)) 0 (σ.h.take (Nat.max m0 (GN r))))) with
  | true=>some (AO ro r,σ.h.take (Nat.max m0 (GN r)))
  | false=>none)
 | none=>none
def a06 (P:Program) (rs:List ResultVar) (ro:List (List Nat×Bool)) (m0:Nat) (fl:List Nat):AX→ASt→R
 | .normal,σ=>ZZ P rs ro m0 fl σ
 | .ret,σ=>ZZ P rs ro m0 fl σ
 | .exit _,_=>none
def b2L (o:Oper):Bool:=match o.op with | .defer _=>true | _=>false
def VS:Code→Bool
 | .region _ ops draw => !draw&&ops.toList.any b2L
 | .seq x y=>VS x||VS y
 | .cond _ x y=>VS x||VS y
 | .block _ x=>VS x
 | _=>false
def ZT:List Oper→Option (List Oper×Oper×Call×List Oper)
 | []=>none
 | o::l=>match o.op with
  | .defer c=>some ([],o,c,l)
  | _=>(match ZT l with | some (a,o',c,b)=>some (o::a,o',c,b) | none=>none)
abbrev KDT:=Nat→FuncId→List PV→AX→ASt→R
def aOS (m0:Nat) (o:Oper) (c:Call) (K:Nat→FuncId→List PV→ASt→R) (σ:ASt):R:=match o.guard,o.dst,c.callee with
 | none,none,.value f=>(match σ.rd f,bQ (c.args.toList.map σ.rd) with
  | some (.func (.func g) first caps),some az=>(match PV.blws (Nat.max m0 (PV.topsL (first ++ az ++ caps))) (first ++ az ++ caps) with
   | true=>K (Nat.max m0 (PV.topsL (first ++ az ++ caps))) g (first ++ az ++ caps) σ
   | false=>none)
  | _,_=>none)
 | _,_,_=>none
noncomputable def SE.exD (S:SE) (C:Cal) (L:Lop) (E:AE) (m0:Nat):Code→(AX→ASt→R)→KDT→ASt→R
 | .seq x y,K0,KD,σ=>(match VS x with
  | true=>S.exD C L E m0 x (qU (qC E m0 y (gW (S.xe C L E m0) y K0)) K0) (fun m g ps=>qU (qC E m y (gW (S.xe C L E m) y (KD m g ps))) (KD m g ps)) σ
  | false=>gW (S.xe C L E m0) x (qU (S.exD C L E m0 y K0 KD) K0) σ)
 | .cond c x y,K0,KD,σ=>(match σ.rd c with
  | some (.bool b)=>(match c with
   | .tmp d=>aC b (match VS x with | true=>S.exD C L E m0 x K0 KD (σ.lit d true) | false=>gW (S.xe C L E m0) x K0 (σ.lit d true)) (match VS y with | true=>S.exD C L E m0 y K0 KD (σ.lit d false) | false=>gW (S.xe C L E m0) y K0 (σ.lit d false))
   | _=>none)
  | _=>none)
 | .block id x,K0,KD,σ=>S.exD C L E m0 x (jH id K0) (fun m g ps=>jH id (KD m g ps)) σ
 | .region _ ops draw,_,KD,σ=>(match draw with
  | true=>none
  | false=>(match ZT ops.toList with
   | some (pre,o,c,post)=>gB (S.xe C L E m0) false ops pre (aOS m0 o c fun m g ps=>gB (S.xe C L E m0) false ops post (KD m g ps .normal)) (σ.head E)
   | none=>none))
 | _,_,_,_=>none
def SE.CD (S:SE) (C:Cal):Cal:=fun g args h=>match S.C0 g args h with
 | some _=>none
 | none=>(match (S.prm g).df with | true=>none | false=>C g args h)
noncomputable def SE.retD (S:SE) (C:Cal) (L:Lop) (E:AE) (rs:List ResultVar) (ro:List (List Nat×Bool)) (m0:Nat) (fl:List Nat):KDT:=fun _ g ps e σ=>match e with
 | .exit _=>none
 | _=>kY (S.xe (S.CD C) L E m0) none g ps (zY σ.h 3 (GH [] (PV.idsL ps))) (ZZ S.P rs ro m0 fl) σ
noncomputable def SE.run (S:SE) (C:Cal) (L:Lop) (g:FuncId) (args:List PV) (h:aG):R:=match S.P.funcs[g]? with
 | some fn=>(match fn.body with
  | some c=>(match decide (args.length≤fn.ntmps)&&(fn.name != "runtime.NumGoroutine") with
   | true=>(match (S.prm g).df with
    | false=>gW (S.xe C L (S.ae g fn.ntmps) h.length) c (a06 S.P fn.results.toList (S.prm g).ro h.length (DW args)) ⟨dX 0 args,h⟩
    | true=>S.exD C L (S.ae g fn.ntmps) h.length c (a06 S.P fn.results.toList (S.prm g).ro h.length (DW args)) (S.retD C L (S.ae g fn.ntmps) fn.results.toList (S.prm g).ro h.length (DW args)) ⟨dX 0 args,h⟩)
   | false=>none)
  | none=>none)
 | none=>none
def SE.wp (S:SE) (E:AE):AE := { E with P:=S.P }
noncomputable def SE.turn (S:SE) (C:Cal) (L:Lop):Lop:=fun E m0 l m x K σ =>
 chk (y9 l m σ) (match decide (m0≤m)&&EO l m σ with
 | true=>gW (S.xe C L (S.wp E) m0) x (qU (fun σ'=>L E m0 l m x K (σ'.gc l m)) K) (σ.gc l m)
 | false=>none)
def orR (a b:R):R:=match a with | some x=>some x | none=>b
noncomputable def SE.sem (S:SE):Nat→Cal×Lop
 | 0=>(S.C0,fun _ _ _ _ _ _ _=>none)
 | n+1=>(fun g args h=>orR (S.C0 g args h) (S.run (S.sem n).1 (S.sem n).2 g args h),S.turn (S.sem n).1 (S.sem n).2)
open Classical in
noncomputable def lim (f:Nat→R):R:=if h:∃ n v,f n=some v then some (Classical.choose (Classical.choose_spec h)) else none
noncomputable def SE.CC (S:SE):Cal:=fun g args h=>lim fun n=>(S.sem n).1 g args h
noncomputable def SE.LL (S:SE):Lop:=fun E m0 l m x K σ=>lim fun n=>(S.sem n).2 E m0 l m x K σ
structure SE.OK (S:SE):Prop where
 V:nZ S.V
 W:oH S.W
section
variable {S:SE}
theorem aHQ (l:List Nat) (m:Nat) (σ:ASt):(σ.gc l m).gc l m=σ.gc l m:=by
 simp only[ASt.gc,List.filter_filter,Bool.and_self,List.take_take,Nat.min_self]
theorem aS4 (l:List Nat) (m:Nat) (σ:ASt):EO l m (σ.gc l m)=EO l m σ:=by unfold EO; rw[aHQ]
theorem aCL (l:List Nat) (m:Nat) (σ:ASt):y9 l m (σ.gc l m)=y9 l m σ:=by unfold y9; rw[aHQ]
theorem aP1 (C:Cal) (L:Lop) (E:AE) (m0:Nat) (l:List Nat) (m:Nat) (x:Code) (K:AX→ASt→R) (σ:ASt):S.turn C L E m0 l m x K (σ.gc l m)=S.turn C L E m0 l m x K σ:=by
 unfold SE.turn; rw[aS4,aCL,aHQ]
variable {ι:Type} {Good:(ι→R)→Prop} (F:Fam Good) (hS:S.OK) {C:ι→Cal} {L:ι→Lop} (hC:∀ g args h,Good fun i=>C i g args h)
 (hL:∀ (E:AE) (m0:Nat) (l:List Nat) (m:Nat) (x:Code) (K:ι→AX→ASt→R) (σ:ASt),(∀ e σ,Good fun i=>K i e σ)→Good fun i=>L i E m0 l m x (K i) σ)
include F hS hC hL in
theorem xH {E:AE} {m0:Nat} (c:Code) {K:ι→AX→ASt→R} {σ:ASt} (h:∀ e σ,Good fun i=>K i e σ):Good fun i=>gW (S.xe (C i) (L i) E m0) c (K i) σ :=
 lU F (X:=S.xe (fun _ _ _=>none) (fun _ _ _ _ _ _ _=>none) E m0) (C:=C) (L:=fun i=>L i E m0) hS.V hS.W hC (fun l m x K σ h=>hL E m0 l m x K σ h) c h
include F hS hC hL in
theorem Y9 {E:AE} {m0:Nat} {ops:Array Oper} (l:List Oper) {K:ι→ASt→R} {σ:ASt} (h:∀ σ,Good fun i=>K i σ):Good fun i=>gB (S.xe (C i) (L i) E m0) false ops l (K i) σ :=
 sK F (X:=S.xe (fun _ _ _=>none) (fun _ _ _ _ _ _ _=>none) E m0) (C:=C) (L:=fun i=>L i E m0) hS.V hS.W hC l h
include F hS hC hL in
theorem QE {E:AE} {m0:Nat} {y:Code} {K:ι→AX→ASt→R} {σ:ASt} (h:∀ e σ,Good fun i=>K i e σ):Good fun i=>qC E m0 y (gW (S.xe (C i) (L i) E m0) y (K i)) σ:=by
 have hj:∀ σ,Good fun i=>EL E m0 y (gW (S.xe (C i) (L i) E m0) y (K i)) σ:=fun σ=>by
  unfold EL
  split
  ·refine aS F ?_
   split
   ·exact xH F hS hC hL y h
   ·exact F.no
  ·exact xH F hS hC hL y h
 unfold qC
 split
 ·exact dC F hj _
 ·exact hj _
include F in
theorem aDH {m0:Nat} {o:Oper} {c:Call} {K:ι→Nat→FuncId→List PV→ASt→R} {σ:ASt} (h:∀ m g ps σ,Good fun i=>K i m g ps σ):Good fun i=>aOS m0 o c (K i) σ:=by
 unfold aOS
 split
 ·split
  ·split
   ·exact h _ _ _ _
   ·exact F.no
  ·exact F.no
 ·exact F.no
include F hS hC hL in
theorem wX {E:AE} {m0:Nat}:∀ (c:Code) {K0:ι→AX→ASt→R} {KD:ι→KDT} {σ:ASt},(∀ e σ,Good fun i=>K0 i e σ)→(∀ m g ps e σ,Good fun i=>KD i m g ps e σ)→Good fun i=>S.exD (C i) (L i) E m0 c (K0 i) (KD i) σ
 | .seq x y,K0,KD,σ,h,h'=>by
  simp only[SE.exD]
  split
  ·exact wX x (fun e σ=>tV (fun σ=>QE F hS hC hL h) h e σ) (fun m g ps e σ=>tV (fun σ=>QE F hS hC hL (h' m g ps)) (h' m g ps) e σ)
  ·exact xH F hS hC hL x fun e σ=>tV (fun σ=>wX y h h') h e σ
 | .cond c x y,K0,KD,σ,h,h'=>by
  simp only[SE.exD]
  split
  ·split
   ·refine iO F ?_ ?_
    ·split
     ·exact wX x h h'
     ·exact xH F hS hC hL x h
    ·split
     ·exact wX y h h'
     ·exact xH F hS hC hL y h
   ·exact F.no
  ·exact F.no
 | .block id x,K0,KD,σ,h,h'=>by
  simp only[SE.exD]
  exact wX x (fun e σ=>MO h e σ) (fun m g ps e σ=>MO (h' m g ps) e σ)
 | .region _ ops draw,K0,KD,σ,h,h'=>by
  simp only[SE.exD]
  split
  ·exact F.no
  ·split
   ·exact Y9 F hS hC hL _ fun σ=>aDH F fun m g ps σ=>Y9 F hS hC hL _ fun σ=>h' m g ps .normal σ
   ·exact F.no
 | .skip,K0,KD,σ,h,h'=>F.no
 | .label _,K0,KD,σ,h,h'=>F.no
 | .exit _,K0,KD,σ,h,h'=>F.no
 | .ret,K0,KD,σ,h,h'=>F.no
 | .scope _,K0,KD,σ,h,h'=>F.no
 | .loop _,K0,KD,σ,h,h'=>F.no
 | .rangeFunc _ _ _ _,K0,KD,σ,h,h'=>F.no
 | .goto _,K0,KD,σ,h,h'=>F.no
 | .refuse _,K0,KD,σ,h,h'=>F.no
include F hS hC in
theorem aC8 {E:AE} {rs:List ResultVar} {ro:List (List Nat×Bool)} {m0:Nat} {fl:List Nat} (m:Nat) (g:FuncId) (ps:List PV) (e:AX) (σ:ASt):Good fun i=>S.retD (C i) (L i) E rs ro m0 fl m g ps e σ:=by
 have hC':∀ g args h,Good fun i=>S.CD (C i) g args h:=fun g args h=>by
  unfold SE.CD
  split
  ·exact F.no
  ·split
   ·exact F.no
   ·exact hC _ _ _
 have hH:Good fun i=>kY (S.xe (S.CD (C i)) (L i) E m0) none g ps (zY σ.h 3 (GH [] (PV.idsL ps))) (ZZ S.P rs ro m0 fl) σ:=by
  simp only[kY]
  split
  ·exact JS F hC' fun r h'=>MC (X:=S.xe (fun _ _ _=>none) (fun _ _ _ _ _ _ _=>none) E m0) F hS.W fun p q=>aK F fun σ=>F.const _
  ·exact F.no
 unfold SE.retD
 cases e
 ·exact hH
 ·exact hH
 ·exact F.no
include F hS hC hL in
theorem TY {g:FuncId} {args:List PV} {h:aG}:Good fun i=>S.run (C i) (L i) g args h:=by
 unfold SE.run
 split
 ·split
  ·split
   ·split
    ·exact xH F hS hC hL _ fun e σ=>F.const _
    ·exact wX F hS hC hL _ (fun e σ=>F.const _) fun m g ps e σ=>aC8 F hS hC m g ps e σ
   ·exact F.no
  ·exact F.no
 ·exact F.no
include F hS hC hL in
theorem D6 {E:AE} {m0:Nat} {l:List Nat} {m:Nat} {x:Code} {K:ι→AX→ASt→R} {σ:ASt} (h:∀ e σ,Good fun i=>K i e σ):Good fun i=>S.turn (C i) (L i) E m0 l m x (K i) σ:=by
 unfold SE.turn
 refine aS F ?_
 split
 ·exact xH F hS hC hL _ fun e σ=>tV (fun σ=>hL _ _ _ _ _ _ _ h) h e σ
 ·exact F.no
include F in
theorem Z4 {a:R} {f:ι→R} (h:Good f):Good fun i=>orR a (f i):=by
 cases a
 ·exact h
 ·exact F.const _
theorem MJ (F:Fam Good) (hS:S.OK):∀ (n:Nat) (E:AE) (m0:Nat) (l:List Nat) (m:Nat) (x:Code) (K:ι→AX→ASt→R) (σ:ASt),(∀ e σ,Good fun i=>K i e σ)→Good fun i=>(S.sem n).2 E m0 l m x (K i) σ
 | 0,_,_,_,_,_,_,_,_=>F.no
 | n+1,_,_,_,_,_,_,_,h=>D6 F hS (C:=fun _=>(S.sem n).1) (L:=fun _=>(S.sem n).2) (fun _ _ _=>F.const _) (MJ F hS n) h
def vM (F:Bool→R):Prop:=∀ v,F false=some v→F true=some v
theorem RQ:Fam vM:=⟨fun _ _ h=>h,fun c k hc hk v h=>by
 have h:(match c false with | some (r,h)=>k false r h | none=>none)=some v:=h
 show (match c true with | some (r,h)=>k true r h | none=>none)=some v
 cases hf:c false with
 | none=>rw[hf] at h; cases h
 | some x =>
  obtain ⟨r,hh⟩:=x
  rw[hf] at h
  rw[hc _ hf]
  exact hk r hh v h⟩
theorem lH (hS:S.OK):∀ n,(∀ g args h v,(S.sem n).1 g args h=some v→(S.sem (n+1)).1 g args h=some v) ∧
 (∀ E m0 l m x (K K':AX→ASt→R) σ v,(∀ e σ v,K e σ=some v→K' e σ=some v)→(S.sem n).2 E m0 l m x K σ=some v→(S.sem (n+1)).2 E m0 l m x K' σ=some v)
 | 0=>⟨fun g args h v hv=>by show orR (S.C0 g args h) _=some v; rw[show S.C0 g args h=some v from hv]; rfl,fun _ _ _ _ _ _ _ _ _ _ h=>by cases h⟩
 | n+1=>by
  obtain ⟨ih1,ih2⟩:=lH hS n
  have hC:∀ g args h,vM fun i=>(bif i then (S.sem (n+1)).1 else (S.sem n).1) g args h:=fun g args h v hv=>ih1 g args h v hv
  have hL:∀ (E:AE) (m0:Nat) (l:List Nat) (m:Nat) (x:Code) (K:Bool→AX→ASt→R) (σ:ASt),(∀ e σ,vM fun i=>K i e σ)→vM fun i=>(bif i then (S.sem (n+1)).2 else (S.sem n).2) E m0 l m x (K i) σ :=
   fun E m0 l m x K σ hK v hv=>ih2 E m0 l m x _ _ σ v (fun e σ v h=>hK e σ v h) hv
  refine ⟨fun g args h v hv => ?_,fun E m0 l m x K K' σ v hK hv => ?_⟩
  ·exact Z4 RQ (TY RQ hS hC hL) v hv
  ·exact D6 RQ hS hC hL (K:=fun i=>bif i then K' else K) (fun e σ v h=>hK e σ v h) v hv
theorem aY6 (hS:S.OK) {E:AE} {m0:Nat} {l:List Nat} {m:Nat} {x:Code} {K:AX→ASt→R} {σ:ASt} {v:PV×aG} {n k:Nat} (hk:n≤k) (hv:(S.sem n).2 E m0 l m x K σ=some v):(S.sem k).2 E m0 l m x K σ=some v:=by
 induction hk with
 | refl=>exact hv
 | step _ ih=>exact (lH hS _).2 _ _ _ _ _ _ _ _ _ (fun _ _ _ h=>h) ih
theorem aAD (hS:S.OK) (n:Nat) {E:AE} {m0:Nat} {l:List Nat} {m:Nat} {x:Code} {K K':AX→ASt→R} {σ:ASt} {v:PV×aG} (hK:∀ e σ v,K e σ=some v→K' e σ=some v) (hv:(S.sem n).2 E m0 l m x K σ=some v):(S.sem n).2 E m0 l m x K' σ=some v :=
 MJ RQ hS n E m0 l m x (fun i=>bif i then K' else K) σ (fun e σ v h=>hK e σ v h) v hv
theorem RX {f:Nat→R} (hm:∀ n v,f n=some v→f (n+1)=some v) {v:PV×aG}:lim f=some v↔∃ n,f n=some v:=by
 have hle:∀ {n k:Nat} {v:PV×aG},n≤k→f n=some v→f k=some v:=fun hk hv=>by
  induction hk with
  | refl=>exact hv
  | step _ ih=>exact hm _ _ ih
 have hu:∀ {n k:Nat} {v u:PV×aG},f n=some v→f k=some u→v=u:=fun {n k v u} h1 h2=>by
  have a:=hle (Nat.le_max_left n k) h1
  have b:=hle (Nat.le_max_right n k) h2
  rw[a] at b; injection b
 unfold lim
 constructor
 ·intro h
  split at h
  ·rename_i hx
   injection h with h
   exact ⟨_,by rw[← h]; exact Classical.choose_spec (Classical.choose_spec hx)⟩
  ·cases h
 ·intro ⟨n,hn⟩
  have hx:∃ n v,f n=some v:=⟨n,v,hn⟩
  rw[dif_pos hx]
  exact congrArg some (hu (Classical.choose_spec (Classical.choose_spec hx)) hn)
structure GoodLim (F:Option Nat→R):Prop where
 mono:∀ n v,F (some n)=some v→F (some (n+1))=some v
 lim:∀ v,F none=some v↔∃ n,F (some n)=some v
theorem GoodLim.le {F:Option Nat→R} (h:GoodLim F) {n k:Nat} {v:PV×aG} (hk:n≤k) (hv:F (some n)=some v):F (some k)=some v:=by
 induction hk with
 | refl=>exact hv
 | step _ ih=>exact h.mono _ _ ih
theorem famLim:Fam GoodLim:=⟨fun c=>⟨fun _ _ h=>h,fun v=>⟨fun h=>⟨0,h⟩,fun ⟨_,h⟩=>h⟩⟩,fun c k hc hk=>by
 refine ⟨fun n v h => ?_,fun v=>⟨fun h => ?_,fun ⟨n,h⟩ => ?_⟩⟩
 ·cases hf:c (some n) with
  | none=>rw[hf] at h; cases h
  | some x =>
   obtain ⟨r,hh⟩:=x
   rw[hf] at h
   rw[hc.mono _ _ hf]
   exact (hk r hh).mono _ _ h
 ·cases hf:c none with
  | none=>rw[hf] at h; cases h
  | some x =>
   obtain ⟨r,hh⟩:=x
   rw[hf] at h
   obtain ⟨n1,h1⟩:=(hc.lim _).1 hf
   obtain ⟨n2,h2⟩:=((hk r hh).lim v).1 h
   refine ⟨max n1 n2,?_⟩
   rw[hc.le (Nat.le_max_left n1 n2) h1]
   exact (hk r hh).le (Nat.le_max_right n1 n2) h2
 ·cases hf:c (some n) with
  | none=>rw[hf] at h; cases h
  | some x =>
   obtain ⟨r,hh⟩:=x
   rw[hf] at h
   rw[(hc.lim _).2 ⟨n,hf⟩]
   exact ((hk r hh).lim v).2 ⟨n,h⟩⟩
noncomputable def SE.cals (S:SE):Option Nat→Cal | none=>S.CC | some n=>(S.sem n).1
noncomputable def SE.lops (S:SE):Option Nat→Lop | none=>S.LL | some n=>(S.sem n).2
theorem wC (hS:S.OK) (g:FuncId) (args:List PV) (h:aG):GoodLim fun i=>S.cals i g args h :=
 ⟨fun n v hv=>(lH hS n).1 g args h v hv,fun _=>RX fun n v hv=>(lH hS n).1 g args h v hv⟩
theorem LU (hS:S.OK) (E:AE) (m0:Nat) (l:List Nat) (m:Nat) (x:Code) (K:Option Nat→AX→ASt→R) (σ:ASt) (hK:∀ e σ,GoodLim fun i=>K i e σ):GoodLim fun i=>S.lops i E m0 l m x (K i) σ:=by
 have hl:∀ v,S.LL E m0 l m x (K none) σ=some v↔∃ n,(S.sem n).2 E m0 l m x (K none) σ=some v:=fun v=>RX fun n v hv=>(lH hS n).2 _ _ _ _ _ _ _ _ _ (fun _ _ _ h=>h) hv
 refine ⟨fun n v hv=>(lH hS n).2 _ _ _ _ _ _ _ _ _ (fun e σ v h=>(hK e σ).mono n v h) hv,fun v=>⟨fun h => ?_,fun ⟨n,h⟩ => ?_⟩⟩
 ·obtain ⟨n,hn⟩:=(hl v).1 h
  obtain ⟨k,hk⟩:=((MJ famLim hS n E m0 l m x K σ hK).lim v).1 hn
  refine ⟨max n k,?_⟩
  exact aY6 hS (Nat.le_max_left n k) (aAD hS n (fun e σ v h=>(hK e σ).le (Nat.le_max_right n k) h) hk)
 ·exact (hl v).2 ⟨n,aAD hS n (fun e σ v h=>((hK e σ).lim v).2 ⟨n,h⟩) h⟩
theorem XP (hS:S.OK) (g:FuncId) (args:List PV) (h:aG):S.CC g args h=orR (S.C0 g args h) (S.run S.CC S.LL g args h):=by
 have hg:=Z4 famLim (a:=S.C0 g args h) (TY famLim hS (wC hS) (LU hS) (g:=g) (args:=args) (h:=h))
 refine Option.ext fun v => ?_
 have h1:S.CC g args h=some v↔∃ n,(S.sem n).1 g args h=some v:=(wC hS g args h).lim v
 have h2:orR (S.C0 g args h) (S.run S.CC S.LL g args h)=some v↔∃ n,(S.sem (n+1)).1 g args h=some v:=hg.lim v
 rw[h1,h2]
 exact ⟨fun ⟨n,hn⟩=>⟨n,(lH hS n).1 _ _ _ _ hn⟩,fun ⟨n,hn⟩=>⟨n+1,hn⟩⟩
theorem aBM (hS:S.OK) (E:AE) (m0:Nat) (l:List Nat) (m:Nat) (x:Code) (K:AX→ASt→R) (σ:ASt):S.LL E m0 l m x K σ=S.turn S.CC S.LL E m0 l m x K σ:=by
 have hg:=D6 famLim hS (wC hS) (LU hS) (E:=E) (m0:=m0) (l:=l) (m:=m) (x:=x) (K:=fun _=>K) (σ:=σ) fun e σ=>famLim.const _
 refine Option.ext fun v => ?_
 have h1:S.LL E m0 l m x K σ=some v↔∃ n,(S.sem n).2 E m0 l m x K σ=some v:=(LU hS E m0 l m x (fun _=>K) σ fun e σ=>famLim.const _).lim v
 have h2:S.turn S.CC S.LL E m0 l m x K σ=some v↔∃ n,(S.sem (n+1)).2 E m0 l m x K σ=some v:=hg.lim v
 rw[h1,h2]
 exact ⟨fun ⟨n,hn⟩=>⟨n,(lH hS n).2 _ _ _ _ _ _ _ _ _ (fun _ _ _ h=>h) hn⟩,fun ⟨n,hn⟩=>⟨n+1,hn⟩⟩
theorem EE (hS:S.OK) {E:AE} {m0:Nat} {l:List Nat} {m:Nat} {x:Code} {K:AX→ASt→R} {σ:ASt} (hm:m0≤m) (hg:EO l m σ=true) (hP:S.wp E=E) :
 S.LL E m0 l m x K σ=chk (y9 l m σ) (gW (S.xe S.CC S.LL E m0) x (qU (fun σ'=>S.LL E m0 l m x K (σ'.gc l m)) K) (σ.gc l m)):=by
 rw[aBM hS]; unfold SE.turn; rw[decide_eq_true hm,hg,hP]; rfl
theorem jY (hS:S.OK) {g:FuncId} {args:List PV} {h:aG} (h0:S.C0 g args h=none):S.CC g args h=S.run S.CC S.LL g args h:=by
 rw[XP hS,h0]; rfl
theorem a7O {P:Program} {rs:List ResultVar} {ro:List (List Nat×Bool)} {m0:Nat} {fl:List Nat} {σ:ASt} {r:PV} {h':aG} (h:ZZ P rs ro m0 fl σ=some (r,h')):∃ r0,IC P rs m0 r0 h' σ∧AO ro r0=r:=by
 unfold ZZ at h
 split at h
 ·rename_i q hq
  obtain ⟨hpl,h⟩:=aP h
  split at h
  ·rename_i hb
   injection h with h
   injection h with h1 h2
   subst h1
   simp only[Bool.and_eq_true,decide_eq_true_eq] at hb
   obtain ⟨b1,b2,b3⟩:=hb
   have hlen:h'.length=Nat.max m0 (GN q):=by rw[← h2,List.length_take]; omega
   refine ⟨q,⟨by rw[hlen]; exact Nat.le_max_left _ _,by rw[hlen]; exact h2,by rw[hlen]; exact b2,by rw[hlen,← h2]; exact WV hpl b3,?_⟩,rfl⟩
   unfold b2V at hq
   split at hq
   ·exact hq
   ·rename_i hne
    split
    ·rename_i x; exact absurd rfl (hne x)
    ·exact hq
  ·cases h
 ·cases h
theorem XJ:∀ {l:List Oper} {a:List Oper} {o:Oper} {c:Call} {b:List Oper},ZT l=some (a,o,c,b)→l=a ++ o::b∧o.op = .defer c
 | [],_,_,_,_,h=>by cases h
 | x::l,a,o,c,b,h=>by
  unfold ZT at h
  split at h
  ·rename_i hx; cases h; exact ⟨rfl,hx⟩
  ·split at h
   ·rename_i a' o' c' b' hs
    cases h
    obtain ⟨h1,h2⟩:=XJ hs
    exact ⟨by rw[h1]; rfl,h2⟩
   ·cases h
def DRep (M:Mem) (B:bY) (m:Nat) (g:FuncId) (ps:List PV) (d:Deferred):Prop:=∃ cap vals,d.target = .fn (.func g) cap∧d.args ++ cap=vals∧Reps M (B.take m) ps vals.toList
section
variable {n:Nat} {out:Nat→Nat} {m m0:Nat} {M M':Mem} {B B':bY} {σ σ':ASt} {t t':Array Value} {w w':World} {g:FuncId} {ps:List PV} {d:Deferred}
theorem DRep.mono (h:DRep M B m g ps d) (hG:GoodC n out m M B σ t w M' B' σ' t' w'):DRep M' B' m g ps d:=by
 obtain ⟨cap,vals,h1,h2,h3⟩:=h
 refine ⟨cap,vals,h1,h2,h3.mono ⟨hG.mem,fun i c hi => ?_⟩⟩
 rw[List.getElem?_take] at hi ⊢
 split at hi
 ·rename_i hlt; rw[if_pos hlt]; exact hG.pre i c hlt hi
 ·cases hi
theorem GoodC.lessM (h:GoodC n out m M B σ t w M' B' σ' t' w') (hm:m0≤m):GoodC n out m0 M B σ t w M' B' σ' t' w':=⟨h.inv,h.mem,fun i c hi e=>h.pre i c (Nat.lt_of_lt_of_le hi hm) e,h.fr,h.own⟩
end
def a0V (E:AE) (out:Nat→Nat) (m0:Nat) (M:Mem) (B:bY) (σ:ASt) (t:Array Value) (w:World) (v:PV×aG) (K0:AX→ASt→R) (KD:KDT) (e:Exit) (a':Act) (w':World):Prop :=
 ∃ ax σ' M' B',e=ax.toExit∧GoodC E.n out m0 M B σ t w M' B' σ' a'.tmps w'∧((K0 ax σ'=some v∧a'.defers = [])∨∃ m g ps d,m0≤m∧a'.defers = [d]∧DRep M' B' m g ps d∧KD m g ps ax σ'=some v)
theorem a4D {E:AE} {out:Nat→Nat} {m0:Nat} {M M1:Mem} {B B1:bY} {σ σ1:ASt} {t t1:Array Value} {w w1:World} {v:PV×aG} {K0:AX→ASt→R} {KD:KDT} (h:GoodC E.n out m0 M B σ t w M1 B1 σ1 t1 w1) {e:Exit} {a':Act} {w':World} (k:a0V E out m0 M1 B1 σ1 t1 w1 v K0 KD e a' w'):a0V E out m0 M B σ t w v K0 KD e a' w':=by
 obtain ⟨ax,σ',M',B',h1,h2,h3⟩:=k
 exact ⟨ax,σ',M',B',h1,h.trans h2,h3⟩
theorem UR {E:AE} {n:Nat} {out:Nat→Nat} {m0:Nat} {M:Mem} {B:bY} {σ:ASt} {t:Array Value} {w:World} {y:Code} {k:ASt→R} {v:PV×aG} (hI:Inv n M B out σ t w) (h:qC E m0 y k σ=some v) :
 ∃ M2 B2 σ2,GoodC n out m0 M B σ t w M2 B2 σ2 t w∧k σ2=some v:=by
 have hj:∀ {M1:Mem} {B1:bY} {σ1:ASt},GoodC n out m0 M B σ t w M1 B1 σ1 t w→EL E m0 y k σ1=some v→∃ M2 B2 σ2,GoodC n out m0 M B σ t w M2 B2 σ2 t w∧k σ2=some v:=fun {M1 B1 σ1} hG he=>by
  unfold EL at he
  cases hl:E.jt.lookup (rid y) with
  | none=>rw[hl] at he; exact ⟨M1,B1,σ1,hG,he⟩
  | some l =>
   rw[hl] at he
   simp only at he
   obtain ⟨hpl,he⟩:=aP he
   split at he
   ·rename_i hg
    simp only[Bool.and_eq_true,decide_eq_true_eq] at hg
    exact ⟨_,_,_,hG.trans (rE hG.inv hg.1 (a00 hpl hg.2)),he⟩
   ·cases he
 unfold qC at h
 split at h
 ·obtain ⟨ks,he⟩:=dB _ h
  obtain ⟨M2,B2,hz⟩:=CG (m0:=m0) ks hI
  exact hj hz he
 ·exact hj (GoodC.refl hI) h
theorem rP {C:Cal} {L:Lop} {E:AE} {out:Nat→Nat} {m0:Nat} {v:PV×aG} (hm:E.P.follows .mixedOrders=true) (hS:S.OK) (hC:kK E.P C) (hL:∀ m,OA (S.xe C L E m)):∀ (c:Code) {K0:AX→ASt→R} {KD:KDT} {M:Mem} {B:bY} {σ:ASt} {a:Act} {w:World},
 S.exD C L E m0 c K0 KD σ=some v→Inv E.n M B out σ a.tmps w→a.defers = []→c.wp E.P (a0V E out m0 M B σ a.tmps w v K0 KD) a w
 | .seq x y,K0,KD,M,B,σ,a,w,h,hI,hd0=>by
  simp only[SE.exD] at h
  split at h
  ·refine wp_seq (wp_mono (rP hm hS hC hL x h hI hd0) fun e a' w' hl => ?_)
   obtain ⟨ax,σ',M',B',rfl,hG,hl⟩:=hl
   rcases hl with ⟨hq,hd⟩ | ⟨m,g,ps,d,hm0,hd,hD,hq⟩
   ·cases ax with
    | normal =>
     obtain ⟨M2,B2,σ2,hj,hk⟩:=UR hG.inv hq
     refine wp_mono (fC (m0:=m0) hm y hj.inv (eQ (X:=S.xe C L E m0) hS.V hS.W hC (hL m0) y hk)) fun e a2 w2 hl2 => ?_
     obtain ⟨ax2,σ3,M3,B3,rfl,hq3,hd3,hG3⟩:=hl2
     exact ⟨ax2,σ3,M3,B3,rfl,(hG.trans hj).trans hG3,.inl ⟨hq3,by rw[hd3,hd]⟩⟩
    | ret=>exact ⟨.ret,σ',M',B',rfl,hG,.inl ⟨hq,hd⟩⟩
    | exit i=>exact ⟨.exit i,σ',M',B',rfl,hG,.inl ⟨hq,hd⟩⟩
   ·cases ax with
    | normal =>
     obtain ⟨M2,B2,σ2,hj,hk⟩:=UR hG.inv hq
     refine wp_mono (fC (m0:=m) hm y hj.inv (eQ (X:=S.xe C L E m) hS.V hS.W hC (hL m) y hk)) fun e a2 w2 hl2 => ?_
     obtain ⟨ax2,σ3,M3,B3,rfl,hq3,hd3,hG3⟩:=hl2
     exact ⟨ax2,σ3,M3,B3,rfl,hG.trans ((hj.trans hG3).lessM hm0),.inr ⟨m,g,ps,d,hm0,by rw[hd3,hd],hD.mono (hj.trans hG3),hq3⟩⟩
    | ret=>exact ⟨.ret,σ',M',B',rfl,hG,.inr ⟨m,g,ps,d,hm0,hd,hD,hq⟩⟩
    | exit i=>exact ⟨.exit i,σ',M',B',rfl,hG,.inr ⟨m,g,ps,d,hm0,hd,hD,hq⟩⟩
  ·refine wp_seq (wp_mono (fC (m0:=m0) hm x hI (eQ (X:=S.xe C L E m0) hS.V hS.W hC (hL m0) x h)) fun e a' w' hl => ?_)
   obtain ⟨ax,σ',M',B',rfl,hq,hd,hG⟩:=hl
   cases ax with
   | normal=>exact wp_mono (rP hm hS hC hL y hq hG.inv (by rw[hd,hd0])) fun e a2 w2 hl2=>a4D hG hl2
   | ret=>exact ⟨.ret,σ',M',B',rfl,hG,.inl ⟨hq,by rw[hd,hd0]⟩⟩
   | exit i=>exact ⟨.exit i,σ',M',B',rfl,hG,.inl ⟨hq,by rw[hd,hd0]⟩⟩
 | .cond c x y,K0,KD,M,B,σ,a,w,h,hI,hd0=>by
  have hx:∀ (x:Code),(∀ {σ1:ASt},S.exD C L E m0 x K0 KD σ1=some v→Inv E.n M B out σ1 a.tmps w→x.wp E.P (a0V E out m0 M B σ1 a.tmps w v K0 KD) a w)→(match VS x with | true=>S.exD C L E m0 x K0 KD σ | false=>gW (S.xe C L E m0) x K0 σ)=some v→x.wp E.P (a0V E out m0 M B σ a.tmps w v K0 KD) a w:=fun x ih hh=>by
   cases hd:VS x with
   | true=>rw[hd] at hh; exact ih hh hI
   | false =>
    rw[hd] at hh
    refine wp_mono (fC (m0:=m0) hm x hI (eQ (X:=S.xe C L E m0) hS.V hS.W hC (hL m0) x hh)) fun e a2 w2 hl2 => ?_
    obtain ⟨ax2,σ3,M3,B3,rfl,hq3,hd3,hG3⟩:=hl2
    exact ⟨ax2,σ3,M3,B3,rfl,hG3,.inl ⟨hq3,by rw[hd3,hd0]⟩⟩
  simp only[SE.exD] at h
  split at h
  ·rename_i b hb
   have he:=rep_bool.1 (hI.rd _ _ hb).1
   split at h
   ·rename_i d
    cases b with
    | true =>
     simp only[aC,PM hb] at h
     exact wp_cond_split he (fun _=>hx x (fun k1 k2=>rP hm hS hC hL x k1 k2 hd0) h) (fun e=>by cases e)
    | false =>
     simp only[aC,PM hb] at h
     exact wp_cond_split he (fun e=>by cases e) (fun _=>hx y (fun k1 k2=>rP hm hS hC hL y k1 k2 hd0) h)
   ·cases h
  ·cases h
 | .block id x,K0,KD,M,B,σ,a,w,h,hI,hd0=>by
  simp only[SE.exD] at h
  refine wp_block (wp_mono (rP hm hS hC hL x h hI hd0) fun e a' w' hl => ?_)
  obtain ⟨ax,σ',M',B',rfl,hG,hl⟩:=hl
  cases ax with
  | normal=>exact ⟨.normal,σ',M',B',rfl,hG,hl⟩
  | ret=>exact ⟨.ret,σ',M',B',rfl,hG,hl⟩
  | exit i =>
   simp only[AX.toExit,Exit.inBlock]
   simp only[jH] at hl
   split
   ·rename_i e; simp only[if_pos e] at hl; exact ⟨.normal,σ',M',B',rfl,hG,hl⟩
   ·rename_i e; simp only[if_neg e] at hl; exact ⟨.exit i,σ',M',B',rfl,hG,hl⟩
 | .region id ops draw,K0,KD,M,B,σ,a,w,h,hI,hd0=>by
  simp only[SE.exD] at h
  split at h
  ·cases h
  ·split at h
   ·rename_i pre o c post hs
    obtain ⟨hl,ho⟩:=XJ hs
    have hk:=D7 (E:=E) hI
    refine wp_region_list ?_
    rw[hl]
    refine A7 (E:=E) pre hk.inv (qA (X:=S.xe C L E m0) hS.V hS.W hC pre h) fun σ1 M1 B1 a1 w1 hq hG hd => ?_
    unfold aOS at hq
    split at hq
    ·rename_i f hg hdst hcal
     split at hq
     ·rename_i g first caps az hf has
      split at hq
      ·rename_i hbl
       obtain ⟨f',c',e1,r1,r2⟩:=rep_func.1 (hG.inv.rd _ _ hf).1
       obtain ⟨ra,_⟩:=tH hG.inv.rd has
       unfold wpList
       rw[if_pos (by simp[Region.wanted,hg])]
       refine .inl ?_
       unfold Oper.wp
       have hrun:(execOp a1.eval o).run E.P w1 = .ok (.defer { target := .fn (.func g) c',args:=f' ++ c.args.map a1.eval }) w1:=by
        obtain ⟨callee,cargs,cts⟩:=c
        simp only at hcal
        subst hcal
        unfold execOp
        rw[ho]
        simp only[resolve,e1,Deferred.ofValue,Sem.run_bind,Sem.run_pure,Result.andThen_ok]
       rw[hrun,Oper.upon_defer]
       have hput:∀ (a:Act) (u:Value),a.put o.dst u=a:=fun a u=>by rw[hdst]; rfl
       rw[hput]
       refine nY (E:=E) post (a := { a1 with defers := { target := .fn (.func g) c',args:=f' ++ c.args.map a1.eval }::a1.defers }) hG.inv (qA (X:=S.xe C L E m0) hS.V hS.W hC post hq) fun σ2 M2 B2 a2 w2 hq2 hG2 hd2 => ?_
       refine ⟨.normal,σ2,M2,B2,rfl,((hk.trans hG).trans hG2).c,.inr ⟨_,g,_,{ target := .fn (.func g) c',args:=f' ++ c.args.map a1.eval },Nat.le_max_left _ _,by rw[hd2]; simp only[hd,hd0],DRep.mono (m:=_) ?_ hG2.c,hq2⟩⟩
       refine ⟨c',_,rfl,rfl,?_⟩
       have hr:Reps M1 B1 (first ++ az ++ caps) (f' ++ c.args.map a1.eval ++ c').toList:=by simpa using dU (dU r1 ra) r2
       exact hr.blw hbl
      ·cases hq
     ·cases hq
    ·cases hq
   ·cases h
 | .skip,_,_,_,_,_,_,_,h,_,_=>by cases h
 | .label _,_,_,_,_,_,_,_,h,_,_=>by cases h
 | .exit _,_,_,_,_,_,_,_,h,_,_=>by cases h
 | .ret,_,_,_,_,_,_,_,h,_,_=>by cases h
 | .scope _,_,_,_,_,_,_,_,h,_,_=>by cases h
 | .loop _,_,_,_,_,_,_,_,h,_,_=>by cases h
 | .rangeFunc _ _ _ _,_,_,_,_,_,_,_,h,_,_=>by cases h
 | .goto _,_,_,_,_,_,_,_,h,_,_=>by cases h
 | .refuse _,_,_,_,_,_,_,_,h,_,_=>by cases h
theorem Ev.of_exD {C:Cal} {L:Lop} {g:FuncId} {fn:Func} {c:Code} (hm:S.P.follows .mixedOrders=true) (hS:S.OK) (hC:kK S.P C) (hCD:∀ g args h r h',S.CD C g args h=some (r,h')→EvG S.P (CD S.P) g args h r h') (hL:∀ m,OA (S.xe C L (S.ae g fn.ntmps) m))
 (hf:S.P.funcs[g]? = some fn) (hb:fn.body=some c) (hn:(fn.name != "runtime.NumGoroutine")=true) {args:List PV} {h:aG} {r:PV} {h':aG} (hlen:args.length≤fn.ntmps)
 (hA:S.exD C L (S.ae g fn.ntmps) h.length c (a06 S.P fn.results.toList (S.prm g).ro h.length (DW args)) (S.retD C L (S.ae g fn.ntmps) fn.results.toList (S.prm g).ro h.length (DW args)) ⟨dX 0 args,h⟩=some (r,h')):Ev S.P g args h r h':=by
 refine ⟨by simp[callable,hf,hb]; simpa using hn,fun out M B w vals hmem hheap hcnt hnew hv => ?_⟩
 have hI:=XM (n:=fn.ntmps) hlen hmem hheap hcnt hnew hv
 refine calls_of_wp_defers hf hb (wp_mono (rP (E:=S.ae g fn.ntmps) (out:=out) (a := { tmps:=vals ++ Array.replicate (fn.ntmps-vals.size) undef,defers := [] }) hm hS hC hL c hA hI rfl) fun e a' w' hl => ?_)
 obtain ⟨ax,σ',M',B',rfl,hG,hl⟩:=hl
 have fin:∀ {M2 B2 σ2 w2},GoodC fn.ntmps out h.length M B ⟨dX 0 args,h⟩ (vals ++ Array.replicate (fn.ntmps-vals.size) undef) w M2 B2 σ2 a'.tmps w2→ZZ S.P fn.results.toList (S.prm g).ro h.length (DW args) σ2=some (r,h')→∃ v,(results fn a'.tmps).run S.P w2 = .ok v w2∧∃ v' M' B',Ending.returned v = .returned v'∧Post h B out M w r h' v' M' B' w2:=fun {M2 B2 σ2 w2} hG2 hk=>by
  obtain ⟨r0,hret,rfl⟩:=a7O hk
  obtain ⟨v,hrun,M'',B'',hpost⟩:=a4K (ro:=(S.prm g).ro) hheap hG2 hret
  exact ⟨v,hrun,v,M'',B'',rfl,hpost⟩
 rcases hl with ⟨hk,hd⟩ | ⟨m,g2,ps,d,hm0,hd,hD,hk⟩
 ·have key:ZZ S.P fn.results.toList (S.prm g).ro h.length (DW args) σ'=some (r,h')→Leaves S.P fn a'.tmps (fun e w'=>∃ v M' B',e = .returned v∧Post h B out M w r h' v M' B' w') a'.defers .returning w':=fun hk=>by
   rw[hd]; exact fin hG hk
  cases ax with
  | normal=>exact key hk
  | ret=>exact key hk
  | exit i=>cases hk
 ·have key:kY (S.xe (S.CD C) L (S.ae g fn.ntmps) h.length) none g2 ps (zY σ'.h 3 (GH [] (PV.idsL ps))) (ZZ S.P fn.results.toList (S.prm g).ro h.length (DW args)) σ'=some (r,h')→Leaves S.P fn a'.tmps (fun e w'=>∃ v M' B',e = .returned v∧Post h B out M w r h' v M' B' w') a'.defers .returning w':=fun hk=>by
   obtain ⟨r1,h1,hE,hp⟩:=EC (X:=S.xe (S.CD C) L (S.ae g fn.ntmps) h.length) (Y0 S.P) hS.W hCD (full':=ps) (fun _ _ _ x=>x) hk
   unfold bJ at hp
   split at hp
   ·rename_i σ2 hput
    obtain ⟨cap,vs,htar,hvals,hreps⟩:=hD
    have hreps:Reps M' B' ps vs.toList:=hreps.mono ⟨fun _ _ _ x=>x,fun i c hi=>by
     rw[List.getElem?_take] at hi
     split at hi
     ·exact hi
     ·cases hi⟩
    have hcall:=hE.1
    unfold callable at hcall
    split at hcall
    ·rename_i fn2 hfn2
     simp only[Bool.and_eq_true,bne_iff_ne,ne_eq] at hcall
     have hinv:(invoke d.target d.args).run S.P w' = .ok (.enter g2 vs) w':=by
      rw[htar]
      have hfn2':S.P.funcs[g2]? = some fn2:=hfn2
      simp only[invoke,callFunc,run_program,Sem.run_bind,Sem.run_pure,Result.andThen_ok]
      have hnb:fn2.body.isNone=false:=by cases hb:fn2.body<;>simp[hb] at hcall ⊢
      have hnn:(fn2.name == "runtime.NumGoroutine")=false:=by simpa using hcall.1
      rw[hvals,hfn2']; simp only[hnn,hnb,Bool.false_eq_true,if_false,Sem.run_pure]
     rw[hd]
     refine ⟨by simp,_,cap,g2,vs,htar,hinv,?_⟩
     refine CallsD.mono (NJ (E:=S.ae g fn.ntmps) (Y0 S.P) hG.inv hreps hE (dst:=none) hput (a:=a') (R:=fun e w2=>∃ v,e = .returned v∧∃ v2,(results fn a'.tmps).run S.P w2 = .ok v2 w2∧∃ v' M' B',Ending.returned v2 = .returned v'∧Post h B out M w r h' v' M' B' w2) fun v M2 B2 w2 hG2 => ?_) fun e u' w2 hh => ?_
     ·exact ⟨v,rfl,fin (hG.trans hG2.c) hp⟩
     ·obtain ⟨rfl,v,rfl,hh⟩:=hh
      exact hh
    ·cases hcall
   ·exact hp.elim
  cases ax with
  | normal=>exact key hk
  | ret=>exact key hk
  | exit i=>cases hk
theorem LX (hm:S.P.follows .mixedOrders=true) (hS:S.OK) (h0:kK S.P S.C0):∀ n,(kK S.P (S.sem n).1∧∀ g args h r h',S.CD (S.sem n).1 g args h=some (r,h')→EvG S.P (CD S.P) g args h r h') ∧
 ∀ E m0 l m x (K:AX→ASt→R) σ v,S.wp E=E→(S.sem n).2 E m0 l m x K (σ.gc l m)=some v→yM m0 (kP E m0 x) (fun e σ'=>K e σ'=some v) n σ
 | 0=>by
  refine ⟨⟨h0,fun g args h r h' hv => ?_⟩,fun _ _ _ _ _ _ _ _ _ h=>by cases h⟩
  unfold SE.CD at hv
  split at hv
  ·cases hv
  ·rename_i hc
   split at hv
   ·cases hv
   ·rw[show (S.sem 0).1 g args h=S.C0 g args h from rfl,hc] at hv; cases hv
 | n+1=>by
  obtain ⟨⟨ih1,ihD⟩,ih2⟩:=LX hm hS h0 n
  have hlop:∀ E m0,S.wp E=E→OA (S.xe (S.sem n).1 (S.sem n).2 E m0):=fun E m0 hE l m x K σ v hv=>by
   refine ⟨n,?_⟩
   exact ih2 E m0 l m x K σ v hE hv
  have body:∀ {cp:CP} (g:FuncId) (args:List PV) (h:aG) (r:PV) (h':aG),(∀ (fn:Func) (c:Code),S.P.funcs[g]? = some fn→fn.body=some c→∀ (vals:Array Value) (w:World) (R:Ending→World→Prop),c.wp S.P (bodyPost S.P fn R) { tmps:=vals ++ Array.replicate (fn.ntmps-vals.size) undef,defers := [] } w→cp g vals w R) →
   (S.prm g).df=false→S.run (S.sem n).1 (S.sem n).2 g args h=some (r,h')→EvG S.P cp g args h r h':=fun {cp} g args h r h' hcp hdf hv=>by
   unfold SE.run at hv
   split at hv
   ·rename_i fn hf
    split at hv
    ·rename_i c hb
     split at hv
     ·rename_i hd
      rw[hdf] at hv
      simp only[Bool.and_eq_true,decide_eq_true_eq] at hd
      have key:=eQ (X:=S.xe (S.sem n).1 (S.sem n).2 (S.ae g fn.ntmps) h.length) hS.V hS.W ih1 (hlop _ _ rfl) c hv
      refine EvG.of_awp (cp:=cp) (fun k=>hcp _ _ hf hb _ _ _ k) hm hf hb hd.2 (S.prm g).vars (S.prm g).mv (S.prm g).mu (S.prm g).sz (S.prm g).jt (S.prm g).lt (S.prm g).pt (S.prm g).fz (S.prm g).ro (S.prm g).ft (S.prm g).sy (S.prm g).ln hd.1 (iD c (fun e σ' he => ?_) key)
      cases e with
      | normal=>exact ⟨trivial,a7O he⟩
      | ret=>exact ⟨trivial,a7O he⟩
      | exit i=>cases he
     ·cases hv
    ·cases hv
   ·cases hv
  refine ⟨⟨fun g args h r h' hv => ?_,fun g args h r h' hv => ?_⟩,fun E m0 l m x K σ v hE hv => ?_⟩
  ·have hv:orR (S.C0 g args h) (S.run (S.sem n).1 (S.sem n).2 g args h)=some (r,h'):=hv
   cases hc:S.C0 g args h with
   | some x=>rw[hc] at hv; injection hv with hv; subst hv; exact h0 _ _ _ _ _ hc
   | none =>
    rw[hc] at hv
    have hv:S.run (S.sem n).1 (S.sem n).2 g args h=some (r,h'):=hv
    cases hdf:(S.prm g).df with
    | false=>exact body (cp:=Calls S.P) g args h r h' (fun _ _ hf hb _ _ _ k=>calls_of_wp hf hb k) hdf hv
    | true =>
     unfold SE.run at hv
     split at hv
     ·rename_i fn hf
      split at hv
      ·rename_i c hb
       split at hv
       ·rename_i hd
        rw[hdf] at hv
        simp only[Bool.and_eq_true,decide_eq_true_eq] at hd
        exact Ev.of_exD hm hS ih1 ihD (fun m=>hlop _ _ rfl) hf hb hd.2 hd.1 hv
       ·cases hv
      ·cases hv
     ·cases hv
  ·unfold SE.CD at hv
   split at hv
   ·cases hv
   ·rename_i hc
    split at hv
    ·cases hv
    ·rename_i hdf
     have hv:orR (S.C0 g args h) (S.run (S.sem n).1 (S.sem n).2 g args h)=some (r,h'):=hv
     rw[hc] at hv
     exact body (cp:=CD S.P) g args h r h' (fun _ _ hf hb _ _ _ k=>callsD_of_wp hf hb k) hdf hv
  ·have hv:S.turn (S.sem n).1 (S.sem n).2 E m0 l m x K (σ.gc l m)=some v:=hv
   rw[aP1] at hv
   unfold SE.turn at hv
   obtain ⟨hpl,hv⟩:=aP hv
   split at hv
   ·rename_i hc
    simp only[Bool.and_eq_true,decide_eq_true_eq] at hc
    rw[hE] at hv
    refine ⟨l,m,hc.1,a00 hpl hc.2,iD x (fun e σ' he => ?_) (eQ (X:=S.xe (S.sem n).1 (S.sem n).2 E m0) hS.V hS.W (by rw[← hE]; exact ih1) (hlop _ _ hE) x hv)⟩
    cases e with
    | normal=>exact ih2 E m0 l m x K σ' v hE he
    | ret=>exact he
    | exit i=>exact he
   ·cases hv
theorem rQ (hS:S.OK) (n:Nat) {g:FuncId} {args:List PV} {h:aG} {v:PV×aG} (e:(S.sem n).1 g args h=some v):S.CC g args h=some v:=((wC hS g args h).lim v).2 ⟨n,e⟩
theorem wV (hm:S.P.follows .mixedOrders=true) (hS:S.OK) (h0:kK S.P S.C0):kK S.P S.CC:=fun g args h r h' hv=>by
 obtain ⟨n,hn⟩:=((wC hS g args h).lim _).1 hv
 exact (LX hm hS h0 n).1.1 g args h r h' hn
end
end Go.Proofs.YtcdceiloganlnaaGreatDoor
namespace Go.Proofs.YtcdceiloganlnaaGreatDoor
open Go.RowKit
def vI (k:IntKind) (p:PV) (K:Int→R):R:=match p with | .int k' n=>(match decide (k'=k) with | true=>K n | false=>none) | _=>none
def vB (p:PV) (K:Bool→R):R:=match p with | .bool b=>K b | _=>none
def vS (p:PV) (K:ByteArray→R):R:=match p with | .str b=>K b | _=>none
def vL (o:Bool) (z:Nat) (p:PV) (K:List PV→R):R:=match p with | .sl o' z' es=>(match o'==o&&Nat.beq z' z with | true=>K es | false=>none) | _=>none
def w0 (p:PV) (K:R):R:=match p with | .tuple []=>K | _=>none
@[simp] theorem A8 (k : IntKind) (n : Int) (K : Int → R) : vI k (.int k n) K = K n := by simp [vI]
@[simp] theorem zV (b : Bool) (K : Bool → R) : vB (.bool b) K = K b := rfl
@[simp] theorem uV (b : ByteArray) (K : ByteArray → R) : vS (.str b) K = K b := rfl
@[simp] theorem aT1 (o : Bool) (z : Nat) (es : List PV) (K : List PV → R) : vL o z (.sl o z es) K = K es := by simp [vL]
@[simp] theorem b9H (K : R) : w0 (.tuple []) K = K := rfl
theorem mQ (k:IntKind) (p:PV):(∀ K:PV→R,vI k p (fun n=>K (.int k n))=K p)∨(∀ K:PV→R,vI k p (fun n=>K (.int k n))=none):=by
 unfold vI; split
 ·split
  ·rename_i h; have h:=of_decide_eq_true h; subst h; exact .inl fun _=>rfl
  ·exact .inr fun _=>rfl
 ·exact .inr fun _=>rfl
theorem O7 (p:PV):(∀ K:PV→R,vB p (fun n=>K (.bool n))=K p)∨(∀ K:PV→R,vB p (fun n=>K (.bool n))=none):=by
 unfold vB; split
 ·exact .inl fun _=>rfl
 ·exact .inr fun _=>rfl
theorem a4E (p:PV):(∀ K:PV→R,vS p (fun n=>K (.str n))=K p)∨(∀ K:PV→R,vS p (fun n=>K (.str n))=none):=by
 unfold vS; split
 ·exact .inl fun _=>rfl
 ·exact .inr fun _=>rfl
theorem jE (o:Bool) (z:Nat) (p:PV):(∀ K:PV→R,vL o z p (fun n=>K (.sl o z n))=K p)∨(∀ K:PV→R,vL o z p (fun n=>K (.sl o z n))=none):=by
 unfold vL; split
 ·split
  ·rename_i h
   simp only[Bool.and_eq_true,beq_iff_eq] at h
   have h2:=Nat.eq_of_beq_eq_true h.2
   obtain ⟨rfl,_⟩:=h
   subst h2
   exact .inl fun _=>rfl
  ·exact .inr fun _=>rfl
 ·exact .inr fun _=>rfl
theorem b26 (p:PV) (h:aG):(∀ K:PV→aG→R,w0 p (K (.tuple []) h)=K p h)∨(∀ K:PV→aG→R,w0 p (K (.tuple []) h)=none):=by
 unfold w0; split
 ·exact .inl fun _=>rfl
 ·exact .inr fun _=>rfl
theorem oM {f:(PV→R)→R} {p:PV} (hf:(∀ K:PV→R,f K=K p)∨(∀ K:PV→R,f K=none)) (h:aG):(∀ K:PV→aG→R,f (fun q=>K q h)=K p h)∨(∀ K:PV→aG→R,f (fun q=>K q h)=none):=by
 rcases hf with e | e
 ·exact .inl fun K=>e _
 ·exact .inr fun K=>e _
theorem aF {b:Bool} {f g:(PV→R)→R} {p:PV} (hf:(∀ K:PV→R,f K=K p)∨(∀ K:PV→R,f K=none)) (hg:(∀ K:PV→R,g K=K p)∨(∀ K:PV→R,g K=none)) :
 (∀ K:PV→R,aC b (f K) (g K)=K p)∨(∀ K:PV→R,aC b (f K) (g K)=none):=by
 cases b
 ·exact hg
 ·exact hf
theorem eP {b:Bool} {f g:(PV→aG→R)→R} {p:PV} {h:aG} (hf:(∀ K:PV→aG→R,f K=K p h)∨(∀ K:PV→aG→R,f K=none)) (hg:(∀ K:PV→aG→R,g K=K p h)∨(∀ K:PV→aG→R,g K=none)) :
 (∀ K:PV→aG→R,aC b (f K) (g K)=K p h)∨(∀ K:PV→aG→R,aC b (f K) (g K)=none):=by
 cases b
 ·exact hg
 ·exact hf
def jC (f:Func):Code:=match f.body with | some c=>c | none => .skip
def Code.sub:List Bool→Code→Code
 | [],c=>c
 | b::p,.seq x y=>match b with | true=>Code.sub p y | false=>Code.sub p x
 | b::p,.cond _ x y=>match b with | true=>Code.sub p y | false=>Code.sub p x
 | b::p,.rangeFunc _ _ x y=>match b with | true=>Code.sub p y | false=>Code.sub p x
 | _::p,.block _ x=>Code.sub p x
 | _::p,.scope x=>Code.sub p x
 | _::p,.loop x=>Code.sub p x
 | _,c=>c
@[simp] theorem aB (A B : R) : aC true A B = A := rfl
@[simp] theorem aA (A B : R) : aC false A B = B := rfl
theorem xA (b:Bool) (A B:R):aC b A B=if b=true then A else B:=by cases b<;>rfl
theorem aT {b:Bool} {A:R} (h:b=true):chk b A=A:=by subst h; rfl
theorem dM {es:List PV} {n:Int} {K:PV→R} {e:PV} (h0:0≤n) (h:es[n.toNat]? = some e):fU es n K=K e:=by unfold fU; rw[if_pos h0,h]
theorem lT {s:ByteArray} {n:Int} {K:Int→R} {b:UInt8} (h0:0≤n) (h:s[n.toNat]? = some b):qW s n K=K b.toNat:=by unfold qW; rw[if_pos h0,h]
theorem iE {C:Cal} {g:FuncId} {args:List PV} {K:PV→R} {r:PV} (h:C g args []=some (r,[])):zT C g args K=K r:=by unfold zT; rw[h]
theorem aAL {es:List PV} {K:Bool→R} {v:PV×aG} (h1:K false=some v) (h2:es = []→K true=some v):a2Y es K=some v:=by
 unfold a2Y
 rw[h1]
 obtain ⟨r,h⟩:=v
 cases es with
 | nil=>simp[h2 rfl,aGA]
 | cons a l=>rfl
end Go.Proofs.YtcdceiloganlnaaGreatDoor
namespace Go.Proofs.YtcdceiloganlnaaGreatDoor
open Go.RowKit
section
variable {E:AE} {ops:Array Oper} {K:ASt→Prop}
end
end Go.Proofs.YtcdceiloganlnaaGreatDoor
namespace Go.Proofs.YtcdceiloganlnaaGreatDoor
open Go.RowKit Go.ChangeShapes Go.WideShapes Go.ChangeAt
def MG (w:World) (b o:Nat):Option Value:=match w.cell? ⟨b,o,none⟩ with | some v=>if v.oneCell' then some v else none | none=>none
theorem whole0_some {w:World} {b o:Nat} {v:Value}:MG w b o=some v↔w.cell? ⟨b,o,none⟩=some v∧v.oneCell'=true:=by
 unfold MG
 cases h:w.cell? ⟨b,o,none⟩ with
 | none=>simp
 | some u =>
  simp only
  by_cases hu:u.oneCell'=true
  ·rw[if_pos hu]
   exact ⟨fun e=>by injection e with e; subst e; exact ⟨rfl,hu⟩,fun e=>by rw[e.1]⟩
  ·rw[if_neg hu]
   exact ⟨fun e=>(by cases e),fun ⟨e1,e2⟩=>by injection e1 with e1; subst e1; exact absurd e2 hu⟩
def GW (w:World):Prop:=∃ m,∀ b o v,QA m b o=some v→MG w b o=some v
noncomputable def whole (w:World) (h:GW w):Mem:=⟨Classical.choose h,MG w,Classical.choose_spec h⟩
theorem whole_some {w:World} {hw:GW w} {b o:Nat} {v:Value}:whole w hw b o=some v↔w.cell? ⟨b,o,none⟩=some v∧v.oneCell'=true:=whole0_some
theorem aC6 (w:World) (hw:GW w):qV (whole w hw) w:=fun _ _ _ h=>whole_some.1 h
def news (M:Mem) (n:Nat) (w:World):Mem:=mkM M.m fun b o=>if n≤b then MG w b o else M b o
theorem PX {M:Mem} {w:World} (hm:qV M w) (w':World) (b o:Nat):news M w.heap.size w' b o=if w.heap.size≤b then MG w' b o else M b o:=by
 refine sJ (fun b o v e => ?_) b o
 have:=World.block_lt_of_cell? _ _ (hm b o v (M.g _ _ _ e)).1
 simp only at this
 rw[if_neg (by omega)]; exact M.g _ _ _ e
theorem aGP {M:Mem} {w:World} (hm:qV M w) {w':World} {b o:Nat} {v:Value} (hb:w.heap.size≤b) (h:w'.cell? ⟨b,o,none⟩=some v) (h1:v.oneCell'=true):news M w.heap.size w' b o=some v:=by
 rw[PX hm,if_pos hb]; exact whole0_some.2 ⟨h,h1⟩
theorem Ev.top {P:Program} {g:FuncId} {args:List PV} {r:PV} {w:World} {hw:GW w} {vals:Array Value} (h:Ev P g args [] r []) (ha:Reps (whole w hw) [] args vals.toList) :
 Calls P g vals w fun e w'=>∃ v M',e = .returned v∧Rep M' [] r v∧qV M' w'∧Below w.heap.size w w':=by
 have h0:∀ w b,aJ w [] [] b=0:=fun w b=>by simp[aJ]
 refine (h.2 (fun _=>0) (whole w hw) [] w vals (aC6 w hw) ⟨rfl,fun i cs hi=>by simp at hi⟩ (fun b=>by rw[h0]; omega) (fun b _=>by rw[h0]) ha).mono fun e w' he => ?_
 obtain ⟨v,M',B',rfl,hP⟩:=he
 have hB':B' = []:=List.eq_nil_of_length_eq_zero (by have:=hP.heap.1; simpa using this.symm)
 subst hB'
 exact ⟨v,M',rfl,hP.rep,hP.mem,hP.fr.os,hP.fr.tape,hP.fr.output,hP.fr.size,fun k hk=>(hP.fr.blk k hk (h0 w k)).1⟩
theorem Ev.of_calls {P:Program} {g:FuncId} {args:List PV} {r:PV} (hc:callable P g=true) (ho:r.own=false) (_:PV.flats args=true)
 (h:∀ (M:Mem) (w:World) (vals:Array Value),qV M w→Reps M [] args vals.toList→Calls P g vals w fun e w'=>∃ v,e = .returned v∧Rep (news M w.heap.size w') [] r v∧Below w.heap.size w w'):Ev P g args [] r []:=by
 refine ⟨hc,fun out M B w vals hmem hheap hcnt hnew hv => ?_⟩
 have hB:B = []:=List.eq_nil_of_length_eq_zero (by have:=hheap.1; simpa using this.symm)
 subst hB
 have h0:∀ w b,aJ w [] [] b=0:=fun w b=>by simp[aJ]
 refine (h M w vals hmem hv).mono fun e w' ⟨v,he,hr,bel⟩ => ?_
 have hlt:∀ b o v,M b o=some v→b<w.heap.size:=fun b o v h=>World.block_lt_of_cell? _ _ (hmem b o v h).1
 refine ⟨v,news M w.heap.size w',[],he,fun b o v h => ?_,⟨fun b o v h => ?_,fun _ _ h=>h⟩,⟨bel.os,bel.tape,bel.output,bel.size,fun b hb _=>⟨bel.block b hb,fun o=>by rw[PX hmem,if_neg (by omega)]⟩⟩,⟨rfl,fun i cs hi=>by simp at hi⟩,hr,cO ho,fun b _=>by rw[aN ho,h0]; omega,fun b => ?_,fun b hb => ?_⟩
 ·rw[PX hmem] at h
  split at h
  ·exact whole0_some.1 h
  ·have:=hmem b o v h
   exact ⟨by rw[World.cell?_of_block (w:=w) (bel.block b (hlt b o v h))]; exact this.1,this.2⟩
 ·rw[PX hmem,if_neg (by have:=hlt b o v h; omega)]; exact h
 ·rw[aN ho,h0]; have:=hcnt b; rw[h0] at this; omega
 ·rw[aN ho,h0]; have:=hnew b (Nat.le_trans bel.size hb); rw[h0] at this; omega
def VE (P:Program) (t:TypeId):Bool:=match P.underlying t with | some (.struct _) | some (.array ..)=>true | _=>false
def yX (P:Program) (t:TypeId) (qs:List PV):PV:=if VE P t then .agg qs else qs.headD .nilp
def parts (P:Program) (t:TypeId):List (Nat×TypeId):=match P.underlying t with
 | some (.struct fs)=>fs.toList.map fun f=>(f.offset,f.type)
 | some (.array n e)=>(List.range n).map fun i=>(i*P.cellsOf e,e)
 | _ => []
def XT (P:Program):Nat→TypeId→List PV→Prop
 | 0,_,_=>False
 | fuel+1,t,ps=>match P.underlying t with
  | some .bool=>∃ b,ps = [.bool b]
  | some (.int k)=>∃ n,ps = [.int k n]∧(Lit.int k n).wf=true
  | some .string=>∃ s:ByteArray,ps = [.str s]∧s.size≤reachBytes
  | some (.slice e)=>∃ es:List PV,ps = [.sl false (P.cellsOf e) es]∧es.length*P.bytesOf e≤reachBytes∧∀ p,p∈es→∃ qs,XT P fuel e qs∧p=yX P e qs
  | some (.struct _) | some (.array ..)=>ps.length=P.cellsOf t∧∀ x,x∈parts P t→XT P fuel x.2 ((ps.drop x.1).take (P.cellsOf x.2))
  | _=>False
def GX (P:Program) (total:Nat):Nat→List (Nat×TypeId)→Bool
 | off,[]=>off==total
 | off,x::l=>x.1==off&&GX P total (off+P.cellsOf x.2) l
def a0A (P:Program) (l:List TypeId):Bool:=l.all fun t=>match P.underlying t with
 | some .bool=>P.cellsOf t==1
 | some (.int _)=>P.cellsOf t==1
 | some .string=>P.cellsOf t==1
 | some (.slice e)=>l.contains e&&decide (0<P.cellsOf e)&&P.cellsOf t==1
 | some (.struct _)=>(parts P t).all (fun x=>l.contains x.2)&&GX P (P.cellsOf t) 0 (parts P t)
 | some (.array ..)=>(parts P t).all (fun x=>l.contains x.2)&&GX P (P.cellsOf t) 0 (parts P t)
 | _=>false
theorem a2V {M:Mem} {B:bY}:∀ {ps qs:List PV} {us vs:List Value},Reps M B ps us→Reps M B qs vs→Reps M B (ps ++ qs) (us ++ vs)
 | [],qs,us,vs,h,k=>by rw[reps_nil] at h; subst h; simpa using k
 | p::ps,qs,us,vs,h,k=>by
  obtain ⟨u,us',rfl,h1,h2⟩:=reps_cons.1 h
  exact reps_cons.2 ⟨u,us' ++ vs,rfl,h1,a2V h2 k⟩
theorem aBU {P:Program} {total:Nat}:∀ {l:List (Nat×TypeId)} {off:Nat},GX P total off l=true→off≤total∧∀ x,x∈l→off≤x.1
 | [],off,h=>by simp[GX] at h; exact ⟨by omega,by simp⟩
 | x::l,off,h=>by
  simp only[GX,Bool.and_eq_true,beq_iff_eq] at h
  obtain ⟨h1,h2⟩:=aBU h.2
  exact ⟨by omega,fun y hy=>by
   rcases List.mem_cons.1 hy with rfl | hy
   ·omega
   ·have:=h2 y hy; omega⟩
theorem LD {P:Program} {M:Mem} {S:TypeId→List PV→Prop} {cs:List Value}:∀ {l:List (Nat×TypeId)} {off:Nat},GX P cs.length off l=true →
 (∀ x,x∈l→∃ qs,S x.2 qs∧Reps M [] qs ((cs.drop x.1).take (P.cellsOf x.2))∧∀ v,v∈(cs.drop x.1).take (P.cellsOf x.2)→v.oneCell'=true)→∃ ps,Reps M [] ps (cs.drop off)∧(∀ v,v∈cs.drop off→v.oneCell'=true)∧∀ x,x∈l→S x.2 ((ps.drop (x.1-off)).take (P.cellsOf x.2))
 | [],off,h,_=>by
  simp[GX] at h; subst h
  exact ⟨[],by rw[List.drop_length]; exact reps_nil.2 rfl,by simp,by simp⟩
 | x::l,off,h,hx=>by
  simp only[GX,Bool.and_eq_true,beq_iff_eq] at h
  obtain ⟨e,ht⟩:=h
  subst e
  obtain ⟨hle,hge⟩:=aBU ht
  obtain ⟨qs,hq,hr,ho⟩:=hx x (by simp)
  obtain ⟨ps,hp,ho',hs⟩:=LD ht fun y hy=>hx y (by simp[hy])
  have hlen:qs.length=P.cellsOf x.2:=by rw[bC hr,List.length_take,List.length_drop]; omega
  refine ⟨qs ++ ps,?_,fun v hv => ?_,fun y hy => ?_⟩
  ·have:=a2V hr hp
   rwa [← List.drop_drop,List.take_append_drop] at this
  ·rw[← List.take_append_drop (P.cellsOf x.2) (cs.drop x.1),List.drop_drop] at hv
   exact (List.mem_append.1 hv).elim (ho v) (ho' v)
  ·rcases List.mem_cons.1 hy with rfl | hy
   ·rw[Nat.sub_self,List.drop_zero,List.take_append_of_le_length (by omega),List.take_of_length_le (by omega)]; exact hq
   ·have h1:=hge y hy
    rw[List.drop_append,List.drop_eq_nil_of_le (by omega),List.nil_append,show y.1-x.1-qs.length=y.1-(x.1+P.cellsOf x.2) by omega]
    exact hs y hy
theorem qN {H:Type} {P:Program} {e:TypeId}:∀ {ds:List (DataW H)} {d:DataW H} {n:Nat},d∈ds→n∈d.weights P e→n∈DataW.weightsAll P e ds
 | d0::ds,d,n,hd,hn=>by
  rw[DataW.weightsAll,List.mem_append]
  rcases List.mem_cons.1 hd with rfl | hd
  ·exact .inl hn
  ·exact .inr (qN hd hn)
theorem N8 {α:Type} {R:Nat→α→Prop}:∀ n:Nat,(∀ j,j<n→∃ p,R j p)→∃ l:List α,l.length=n∧∀ (j:Nat) p,l[j]? = some p→R j p
 | 0,_=>⟨[],rfl,by simp⟩
 | n+1,h=>by
  obtain ⟨l,hl,hr⟩:=N8 n fun j hj=>h j (by omega)
  obtain ⟨p,hp⟩:=h n (by omega)
  refine ⟨l ++ [p],by simp[hl],fun j q hq => ?_⟩
  rcases Nat.lt_or_ge j l.length with hlt | hge
  ·exact hr j q (by rwa [List.getElem?_append_left hlt] at hq)
  ·rw[List.getElem?_append_right hge] at hq
   have:j-l.length=0:=by
    rcases Nat.eq_zero_or_pos (j-l.length) with h0 | h0
    ·exact h0
    ·rw[List.getElem?_eq_none (by simp; omega)] at hq; cases hq
   rw[this] at hq; simp at hq; subst hq
   have:j=n:=by omega
   subst this; exact hp
theorem aAW {P:Program} {fuel:Nat} {t:TypeId} {ps:List PV} (h:XT P fuel t ps) (ha:VE P t=false):∃ q,ps = [q]∧q.isAgg=false∧(∀ cs,q ≠ .tuple cs)∧q.size=1:=by
 cases fuel with
 | zero=>exact h.elim
 | succ fuel =>
  unfold XT at h
  unfold VE at ha
  split at h
  ·obtain ⟨b,rfl⟩:=h; exact ⟨_,rfl,rfl,by simp,rfl⟩
  ·obtain ⟨b,rfl,_⟩:=h; exact ⟨_,rfl,rfl,by simp,rfl⟩
  ·obtain ⟨b,rfl,_⟩:=h; exact ⟨_,rfl,rfl,by simp,rfl⟩
  ·obtain ⟨b,rfl,_⟩:=h; exact ⟨_,rfl,rfl,by simp,rfl⟩
  ·simp_all
  ·simp_all
  ·exact h.elim
section
variable {H:Type} {enc:TypeId×Value→H} {W:World} {hW:GW W} {P:Program}
theorem aFU {fuel:Nat} {e:TypeId} {ps:List PV} {cs:List Value} (hs:XT P fuel e ps) (hr:Reps (whole W hW) [] ps cs) (hl:cs.length=P.cellsOf e) (ho:∀ v,v∈cs→v.oneCell'=true) :
 (yX P e ps).size=P.cellsOf e∧∀ b off,(∀ i,i<cs.length→W.cell? ⟨b,off+i,none⟩=cs[i]?)→Loc (whole W hW) [] (yX P e ps) b off:=by
 unfold yX
 have hlen:=bC hr
 cases ha:VE P e with
 | true =>
  refine ⟨by simp[PV.size]; omega,fun b off h=>loc_agg.2 (nG fun j p hp => ?_)⟩
  obtain ⟨u,hu,hru⟩:=fB hr hp
  exact ⟨u,whole_some.2 ⟨(h j (List.getElem?_eq_some_iff.1 hu).1).trans hu,ho u (List.mem_of_getElem? hu)⟩,hru⟩
 | false =>
  obtain ⟨q,rfl,h1,h2,h3⟩:=aAW hs ha
  have hc1:cs.length=1:=by rw[← hlen]; rfl
  refine ⟨by simp[h3]; omega,fun b off h=>(jD h1 h2).2 ?_⟩
  obtain ⟨u,hu,hru⟩:=fB hr (j:=0) (p:=q) rfl
  exact ⟨u,whole_some.2 ⟨(h 0 (by omega)).trans hu,ho u (List.mem_of_getElem? hu)⟩,hru⟩
theorem WY (b off n:Nat):(⟨b,off,none⟩:Addr).add n=⟨b,off+n,none⟩:=by
 unfold Addr.add
 split
 ·rename_i h; subst h; rfl
 ·rfl
theorem open_any {l:List TypeId} (hl:a0A P l=true):∀ (fuel:Nat) (t:TypeId) (cs:List Value) (x:DataW H×List MemPlace),t∈l→DataW.trod enc P W 0 (fun _=>true) true fuel t cs=some x→(∀ n,n∈x.1.weights P t→n≤reachBytes) →
 ∃ ps,XT P fuel t ps∧Reps (whole W hW) [] ps cs∧cs.length=P.cellsOf t∧∀ v,v∈cs→v.oneCell'=true:=by
 intro fuel
 induction fuel with
 | zero=>intro t cs x _ h; simp[DataW.trod] at h
 | succ fuel ih =>
  intro t cs x ht h hw
  have hc:=List.all_eq_true.1 hl t ht
  simp only[XT]
  cases hu:P.underlying t with
  | none=>rw[hu] at hc; cases hc
  | some ty =>
   cases ty with
   | bool =>
    simp only[hu] at hc
    obtain ⟨b,rfl,_⟩:=DataW.trod_bool hu h
    exact ⟨[.bool b],⟨b,rfl⟩,reps_cons.2 ⟨_,_,rfl,rep_bool.2 rfl,reps_nil.2 rfl⟩,(eq_of_beq hc).symm,by simp[Value.oneCell']⟩
   | int k =>
    simp only[hu] at hc
    obtain ⟨n,rfl,_,hn⟩:=DataW.trod_int hu h
    exact ⟨[.int k n],⟨n,rfl,hn⟩,reps_cons.2 ⟨_,_,rfl,rep_int.2 rfl,reps_nil.2 rfl⟩,(eq_of_beq hc).symm,by simp[Value.oneCell']⟩
   | string =>
    simp only[hu] at hc
    obtain ⟨s,rfl,rfl,hn⟩:=DataW.trod_string hu h
    exact ⟨[.str s],⟨s,rfl,by have:=hw s.size (by simp[DataW.weights]); exact this⟩,reps_cons.2 ⟨_,_,rfl,rep_str.2 rfl,reps_nil.2 rfl⟩,(eq_of_beq hc).symm,by simp[Value.oneCell']⟩
   | slice e =>
    simp only[hu,Bool.and_eq_true,decide_eq_true_eq,beq_iff_eq,List.contains_iff_mem] at hc
    obtain ⟨⟨he,hpos⟩,h1⟩:=hc
    rcases DataW.trod_slice hu h with ⟨rfl,rfl⟩ | ⟨a,len,cap,elems,rest,n',hf,rfl,rfl,_,hle,_,hel,hall,hsp,_⟩
    ·exact ⟨[.sl false (P.cellsOf e) []],⟨[],rfl,by simp,by simp⟩,reps_cons.2 ⟨_,_,rfl,rep_sl.2 ⟨none,0,rfl,Nat.le_refl _,by simp,fun _=>⟨rfl,rfl,rfl⟩,by simp⟩,reps_nil.2 rfl⟩,h1.symm,by simp[Value.oneCell']⟩
    ·injection hf with hf; subst hf
     have hwt:∀ k,k∈(DataW.slice (elems.map (·.1)) (rest.map (·.1)):DataW H).weights P t→k≤reachBytes:=hw
     have hw0:len*P.bytesOf e≤reachBytes:=by
      have:=hwt ((elems.length+rest.length)*P.bytesOf e) (by simp[DataW.weights,hu])
      refine Nat.le_trans (Nat.mul_le_mul_right _ (by omega)) this
     have hone:∀ j,j<len→∃ p,(∃ qs,XT P fuel e qs∧p=yX P e qs)∧p.size=P.cellsOf e∧∀ b off,a=⟨b,off,none⟩→Loc (whole W hW) [] p b (off+j*P.cellsOf e):=by
      intro j hj
      have hjj:=hall j hj
      rw[List.getElem?_eq_getElem (by omega)] at hjj
      obtain ⟨cs',hc',ht'⟩:=Option.bind_eq_some_iff.1 hjj
      obtain ⟨qs,q1,q2,q3,q4⟩:=ih e cs' _ he ht' fun k hk=>hwt k (by
       simp only[DataW.weights,hu,List.mem_cons,List.mem_append]
       exact .inr (.inl (qN (List.mem_map.2 ⟨_,List.getElem_mem (by omega),rfl⟩) hk)))
      obtain ⟨s1,s2⟩:=aFU q1 q2 q3 q4
      refine ⟨_,⟨qs,q1,rfl⟩,s1,fun b off hab=>s2 b _ fun i hi => ?_⟩
      obtain ⟨_,_,hcell⟩:=World.cells?_some hc'
      have:=hcell i (by omega)
      rw[hab,WY,WY] at this
      exact this
     have hspot:cap≠0→∃ b off,a=⟨b,off,none⟩:=fun hcap=>by
      have key:∀ k cs',k=0→W.cells? 0 (a.add k) (P.cellsOf e)=some cs'→a.spot=none:=fun k cs' hk hc'=>by
       subst hk
       obtain ⟨_,h2,hcell⟩:=World.cells?_some hc'
       have:=hcell 0 hpos
       rw[List.getElem?_eq_getElem (by omega)] at this
       simpa[Addr.add] using World.cell?_spot this
      have:a.spot=none:=by
       by_cases h0:0<len
       ·have hjj:=hall 0 h0
        rw[List.getElem?_eq_getElem (by omega)] at hjj
        obtain ⟨cs',hc',_⟩:=Option.bind_eq_some_iff.1 hjj
        exact key _ cs' (Nat.zero_mul _) hc'
       ·obtain ⟨r1,r2⟩:=hsp rfl
        have hjj:=r2 0 (by omega)
        rw[List.getElem?_eq_getElem (by omega)] at hjj
        obtain ⟨cs',hc',_⟩:=Option.bind_eq_some_iff.1 hjj
        exact key _ cs' (by simp[show len=0 by omega]) hc'
      exact ⟨a.block,a.off,by cases a; simp at this; subst this; rfl⟩
     obtain ⟨es,hlen,hes⟩:=N8 len hone
     subst hlen
     refine ⟨[.sl false (P.cellsOf e) es],⟨es,rfl,hw0,fun p hp => ?_⟩,reps_cons.2 ⟨_,_,rfl,rep_sl.2 ⟨some a,cap,rfl,hle,fun p hp => ?_,fun h0=>by omega,fun hne => ?_⟩,reps_nil.2 rfl⟩,h1.symm,by simp[Value.oneCell']⟩
     ·obtain ⟨j,hj⟩:=List.mem_iff_getElem?.1 hp
      exact (hes j p hj).1
     ·obtain ⟨j,hj⟩:=List.mem_iff_getElem?.1 hp
      exact (hes j p hj).2.1
     ·have hne':es.length≠0:=fun h0=>hne (List.eq_nil_of_length_eq_zero h0)
      obtain ⟨b,off,hab⟩:=hspot (by omega)
      exact ⟨b,off,by rw[hab],lI fun j p hj=>(hes j p hj).2.2 b off hab⟩
   | struct fs =>
    simp only[hu,Bool.and_eq_true,List.all_eq_true,List.contains_iff_mem] at hc
    obtain ⟨hm,htile⟩:=hc
    obtain ⟨xs,n,hf,rfl,hlen,hxs,hg⟩:=DataW.trod_struct hu h
    injection hf with hf; subst hf
    rw[← hlen] at htile
    obtain ⟨ps,p1,p2,p3⟩:=LD (M:=whole W hW) (S:=XT P fuel) (cs:=cs) (off:=0) htile fun y hy=>by
     have hp:parts P t=fs.toList.map fun f=>(f.offset,f.type):=by unfold parts; rw[hu]
     obtain ⟨f,hf,hfe⟩:=List.mem_map.1 (hp▸hy)
     obtain ⟨i,hi⟩:=List.mem_iff_getElem?.1 hf
     have hi':fs[i]? = some f:=by simpa using hi
     have hlt:i<xs.length:=by rw[hxs]; exact (Array.getElem?_eq_some_iff.1 hi').1
     have hgi:=hg i f hi'
     rw[List.getElem?_eq_getElem hlt] at hgi
     subst hfe
     obtain ⟨qs,q1,q2,q3,q4⟩:=ih f.type _ _ (hm _ hy) hgi fun k hk=>hw k (by
      simp only[DataW.weights,hu]
      exact DataW.weights_mem_each (j:=i) (t:=f.type) (by rw[List.getElem?_map,hi]; rfl) (by rw[List.getElem?_map,List.getElem?_eq_getElem hlt]; rfl) k hk)
     exact ⟨qs,q1,q2,q4⟩
    rw[List.drop_zero] at p1 p2
    exact ⟨ps,⟨by rw[bC p1,hlen],fun y hy=>by have:=p3 y hy; rwa [Nat.sub_zero] at this⟩,p1,hlen,p2⟩
   | array n e =>
    simp only[hu,Bool.and_eq_true,List.all_eq_true,List.contains_iff_mem] at hc
    obtain ⟨hm,htile⟩:=hc
    obtain ⟨xs,n',hf,rfl,hlen,hxs,hg⟩:=DataW.trod_array hu h
    injection hf with hf; subst hf
    rw[← hlen] at htile
    obtain ⟨ps,p1,p2,p3⟩:=LD (M:=whole W hW) (S:=XT P fuel) (cs:=cs) (off:=0) htile fun y hy=>by
     have hp:parts P t=(List.range n).map fun i=>(i*P.cellsOf e,e):=by unfold parts; rw[hu]
     obtain ⟨i,hi,hfe⟩:=List.mem_map.1 (hp▸hy)
     have hlt:i<n:=List.mem_range.1 hi
     have hgi:=hg i hlt
     rw[List.getElem?_eq_getElem (by omega)] at hgi
     subst hfe
     obtain ⟨qs,q1,q2,q3,q4⟩:=ih e _ _ (hm _ hy) hgi fun k hk=>hw k (by
      simp only[DataW.weights,hu]
      exact qN (List.mem_map.2 ⟨_,List.getElem_mem (by omega),rfl⟩) hk)
     exact ⟨qs,q1,q2,q4⟩
    rw[List.drop_zero] at p1 p2
    exact ⟨ps,⟨by rw[bC p1,hlen],fun y hy=>by have:=p3 y hy; rwa [Nat.sub_zero] at this⟩,p1,hlen,p2⟩
   | _=>simp only[hu] at hc; cases hc
theorem open_arg {l:List TypeId} (hl:a0A P l=true) {r:Reach} {b0:Nat} {t:TypeId} {v:Value} {d:DataW H} {ps:List MemPlace} (ht:t∈l) (hv:Value.okWide P W r b0 t v) (h:DataW.Trod enc P W 0 (fun _=>true) true t v d ps) (hw:∀ n,n∈d.weights P t→n≤reachBytes) :
 ∃ fuel qs,XT P fuel t qs∧Rep (whole W hW) [] (yX P t qs) v:=by
 obtain ⟨fuel,hf⟩:=h
 obtain ⟨qs,h1,h2,h3,h4⟩:=open_any hl fuel t _ _ ht hf hw
 refine ⟨fuel,qs,h1,?_⟩
 unfold yX
 cases ha:VE P t with
 | true =>
  have:∃ cs,v = .agg cs:=by
   unfold Value.okWide at hv
   unfold VE at ha
   split at hv
   ·obtain ⟨cs,h,_⟩:=hv; exact ⟨cs,h⟩
   ·obtain ⟨cs,h,_⟩:=hv; exact ⟨cs,h⟩
   ·rename_i n1 n2
    split at ha
    ·rename_i fs hfs; exact absurd hfs (n1 fs)
    ·rename_i a b hfs; exact absurd hfs (n2 a b)
    ·cases ha
  obtain ⟨cs,rfl⟩:=this
  rw[if_pos rfl]
  exact rep_agg.2 ⟨cs,rfl,h2⟩
 | false =>
  obtain ⟨q,rfl,h5,h6,h7⟩:=aAW h1 ha
  obtain ⟨u,us,hu,hq,hn⟩:=reps_cons.1 h2
  rw[reps_nil] at hn; subst hn
  simp only[Bool.false_eq_true,if_false,List.headD_cons]
  have:v.cells.toList = [v]∨∃ cs,v = .agg cs:=by cases v<;>first | exact .inr ⟨_,rfl⟩ | exact .inl rfl
  rcases this with h | ⟨cs,rfl⟩
  ·rw[h] at hu; injection hu with hu; subst hu; exact hq
  ·exfalso
   unfold Value.okWide at hv
   unfold VE at ha
   split at hv
   ·simp_all
   ·simp_all
   ·unfold Cell.okWide at hv
    split at hv<;>simp_all[Cell.ok]
end
end Go.Proofs.YtcdceiloganlnaaGreatDoor
namespace Go.Proofs.YtcdceiloganlnaaGreatDoor
open Go.RowKit
abbrev rnd (l:Nat):Fence:=Fence.wide.inRound l
section
variable {P:Program} {l n:Nat}
theorem a2Q {f:FuncId} {args:Array Value} {w:World} {R:Ending→World→Prop} (h:Calls P f args w R):CallsIn (rnd l) n P f args w R :=
 callsIn_wide.2 h
theorem a5U {row:String} {args:Array Value} {w:World} {R:Value→World→Prop} (h:Rows P row args w R):RowsIn (rnd l) n P row args w R :=
 fun c cs _=>let ⟨v,w',r,s⟩:=h c cs; ⟨v,w',r,stepsIn_wide.2 s⟩
theorem a2F {o:Oper} {a:Act} {w:World} {K:Act→World→Prop} {Q:Exit→Act→World→Prop} (hd:∀ c,o.op ≠ .defer c) (h:o.wp P a w K Q):o.wpIn (rnd l) n P a w K Q:=by
 refine ⟨fun _ _=>trivial,?_⟩
 rw[show (rnd l).round=some l from rfl,Oper.semAt_some l a.eval o hd]
 unfold Oper.wp at h
 generalize (execOp a.eval o).run P w=r at *
 cases r with
 | ok x w' =>
  cases x<;>simp only[Oper.upon,Oper.uponIn] at h ⊢ <;>
   first
    | exact h
    | exact h.elim
    | exact ⟨fun h=>by simp[Fence.wide,Fence.inRound] at h,a2Q h⟩
    | exact ⟨fun h=>by simp[Fence.wide,Fence.inRound] at h,a5U h⟩
 | halt x w'=>cases x<;>simp only[Oper.upon,Oper.uponIn] at h ⊢ <;> exact h
def a8X (o:Oper):Bool:=match o.op with | .defer _=>false | _=>true
theorem aBK {o:Oper} (h:a8X o=true):∀ c,o.op ≠ .defer c:=fun c hc=>by simp[a8X,hc] at h
theorem ES {ops:Array Oper} {Q:Exit→Act→World→Prop} (hQ:¬ LetsOut Q):∀ (os:List Oper),(os.all a8X)=true→∀ (a:Act) (w:World),wpList P ops Q os a w→wpListIn (rnd l) n P ops Q os a w
 | [],_,a,w,h=>h
 | o::os,hd,a,w,h=>by
  simp only[List.all_cons,Bool.and_eq_true] at hd
  unfold wpList at h
  unfold wpListIn
  split at h
  ·rename_i hw
   rw[if_pos hw]
   rcases h with h | h
   ·exact Oper.wpIn_mono (fun a w=>ES hQ os hd.2 a w) (a2F (aBK hd.1) h)
   ·exact absurd h.2 hQ
  ·rename_i hw
   rw[if_neg hw]
   exact ⟨fun _ _=>trivial,ES hQ os hd.2 _ _ h⟩
theorem xC {md:Region.Mode} {ops:Array Oper} {Q:Exit→Act→World→Prop} (hQ:¬ LetsOut Q) (hd:ops.all a8X=true):∀ (fuel:Nat) (L:Array Bool) (a:Act) (w:World),wpAny P md ops Q fuel L a w→wpAnyIn (rnd l) n P md ops Q fuel L a w
 | 0,L,a,w,h=>h
 | fuel+1,L,a,w,h=>by
  refine ⟨h.1,fun i hi => ?_⟩
  have h2:=h.2 i hi
  unfold wpOp at h2
  unfold wpOpIn
  cases ho:ops[i]? with
  | none=>rw[ho] at h2; exact xC hQ hd fuel _ a w h2
  | some o =>
   rw[ho] at h2
   have hdo:a8X o=true:=by
    obtain ⟨hlt,he⟩:=Array.getElem?_eq_some_iff.1 ho
    rw[Array.all_eq_true] at hd
    rw[← he]; exact hd i hlt
   show if Region.wanted o (yielded ops a.tmps)=true then _ else _
   have h2:if Region.wanted o (yielded ops a.tmps)=true then _ else _:=h2
   split at h2
   ·rename_i hw
    rw[if_pos hw]
    rcases h2 with h2 | h2
    ·exact Oper.wpIn_mono (fun a w=>xC hQ hd fuel _ a w) (a2F (aBK hdo) h2)
    ·exact absurd h2.2 hQ
   ·rename_i hw
    rw[if_neg hw]
    exact ⟨fun _ _=>trivial,xC hQ hd fuel _ _ _ h2⟩
end
def kF:Code→Bool
 | .region _ ops _=>ops.all a8X
 | .seq x y=>kF x&&kF y
 | .cond _ x y=>kF x&&kF y
 | .block _ x=>kF x
 | .loop x=>kF x
 | .scope _=>false
 | .rangeFunc _ _ _ _=>false
 | _=>true
section
variable {E:AE} {m0 l n:Nat} {out:Nat→Nat}
theorem a08 {M:Mem} {B:bY} {σ:ASt} {t:Array Value} {w:World} {ds:List Deferred} {Q:AX→ASt→Prop}:¬ LetsOut (lift E out m0 M B σ t w ds Q):=by
 rintro ⟨a,w',ax,σ',M',B',h,_⟩
 cases ax<;>cases h
theorem iT (hm:E.P.follows .mixedOrders=true):∀ (c:Code),kF c=true→∀ {M:Mem} {B:bY} {σ:ASt} {a:Act} {w:World} {Q:AX→ASt→Prop},Inv E.n M B out σ a.tmps w→kP E m0 c Q σ→c.wpIn (rnd l) n E.P (lift E out m0 M B σ a.tmps w a.defers Q) a w
 | .skip,_,M,B,σ,a,w,Q,hI,h=>wpIn_skip ⟨.normal,σ,M,B,rfl,h,rfl,GoodC.refl hI⟩
 | .label _,_,M,B,σ,a,w,Q,hI,h=>wpIn_label ⟨.normal,σ,M,B,rfl,h,rfl,GoodC.refl hI⟩
 | .exit id,_,M,B,σ,a,w,Q,hI,h=>wpIn_exit ⟨.exit id,σ,M,B,rfl,h,rfl,GoodC.refl hI⟩
 | .ret,_,M,B,σ,a,w,Q,hI,h=>wpIn_ret ⟨.ret,σ,M,B,rfl,h,rfl,GoodC.refl hI⟩
 | .region id ops draw,hn,M,B,σ,a,w,Q,hI,h=>by
  have hk:=D7 (E:=E) hI
  have hn:ops.all a8X=true:=hn
  rw[kP] at h
  cases draw with
  | false =>
   simp only[Bool.false_eq_true,if_false] at h
   exact wpIn_region_list (ES a08 _ (by rw[Array.all_toList]; exact hn) _ _ (nY _ hk.inv h fun σ' M' B' a' w' hq hG hd=>⟨.normal,σ',M',B',rfl,hq,hd,(hk.trans hG).c⟩))
  | true =>
   simp only[if_true] at h
   have hd:=hk.inv.drew
   rcases h with ⟨hok,h⟩ | h
   ·obtain ⟨σ',hc,hq⟩:=vN ops.toList 0 (fun j=>by simp) h
    have hu:dJ ops.size (Array.replicate ops.size false)=List.range' 0 ops.toList.length:=by
     unfold dJ
     rw[List.filter_eq_self.2 (fun i hi=>by have:=List.mem_range.1 hi; simp[this]),List.range_eq_range']; simp
    refine wpIn_region_any hm (xC a08 hn _ _ _ _ ?_)
    refine WP hok ops.size (Array.replicate ops.size false) (K:=Q .normal) (σ':=σ') (by simp) (by rw[hu]; simp) (fun j o _ h => ?_) hd.1 (by rw[hu]; exact hc) hq fun M' B' a' w' hk' hG hd'=>⟨.normal,σ',M',B',rfl,hk',hd',((hk.trans hd.2).trans hG).c⟩
    have h':(Array.replicate ops.size false).getD j false=true:=h
    simp[Array.getElem?_replicate] at h'
    split at h'<;>simp at h'
   ·exact wpIn_region_any hm (xC a08 hn _ _ _ _ (FZ ops.size _ hd.1 (a09 _ hd.1.srt h) fun σt M' B' a' w' hq hG hd'=>⟨.normal,σt,M',B',rfl,hq,hd',((hk.trans hd.2).trans hG).c⟩))
 | .seq x y,hn,M,B,σ,a,w,Q,hI,h=>by
  simp only[kF,Bool.and_eq_true] at hn
  rw[kP] at h
  refine wpIn_seq (wpIn_mono (iT hm x hn.1 hI h) fun e a' w' hl => ?_)
  obtain ⟨ax,σ',M',B',rfl,hq,hd,hG⟩:=hl
  cases ax with
  | normal =>
   obtain ⟨ks,hq⟩:=hq
   obtain ⟨M2,B2,hz⟩:=CG (m0:=m0) ks hG.inv
   have hG:=hG.trans hz
   rcases hq with hq | ⟨l,m,hm0,hg,hq⟩
   ·exact wpIn_mono (iT hm y hn.2 hG.inv hq) fun e a2 w2 hl2=>by rw[hd] at hl2; exact yH hG hl2
   ·have hgc:=hG.trans (rE hG.inv hm0 hg)
    exact wpIn_mono (iT hm y hn.2 hgc.inv hq) fun e a2 w2 hl2=>by rw[hd] at hl2; exact yH hgc hl2
  | ret=>exact ⟨.ret,σ',M',B',rfl,hq,hd,hG⟩
  | exit i=>exact ⟨.exit i,σ',M',B',rfl,hq,hd,hG⟩
 | .cond c x y,hn,M,B,σ,a,w,Q,hI,h=>by
  simp only[kF,Bool.and_eq_true] at hn
  rw[kP] at h
  split at h
  ·rename_i b hb
   have he:=rep_bool.1 (hI.rd _ _ hb).1
   refine wpIn_cond_split he (fun hb=>iT hm x hn.1 hI (h.1 hb)) (fun hb=>iT hm y hn.2 hI (h.2 hb))
  ·exact h.elim
 | .block id x,hn,M,B,σ,a,w,Q,hI,h=>by
  rw[kP] at h
  refine wpIn_block (wpIn_mono (iT hm x (by simpa[kF] using hn) hI h) fun e a' w' hl => ?_)
  obtain ⟨ax,σ',M',B',rfl,hq,hd,hG⟩:=hl
  cases ax with
  | normal=>exact ⟨.normal,σ',M',B',rfl,hq,hd,hG⟩
  | ret=>exact ⟨.ret,σ',M',B',rfl,hq,hd,hG⟩
  | exit i =>
   simp only[AX.toExit,Exit.inBlock]
   simp only[KZ] at hq
   split
   ·rename_i e; rw[if_pos e] at hq; exact ⟨.normal,σ',M',B',rfl,hq,hd,hG⟩
   ·rename_i e; rw[if_neg e] at hq; exact ⟨.exit i,σ',M',B',rfl,hq,hd,hG⟩
 | .scope x,hn,_,_,_,_,_,_,_,_=>by simp[kF] at hn
 | .loop x,hn,M,B,σ,a,w,Q,hI,h=>by
  rw[kP] at h
  obtain ⟨k,hk⟩:=h
  refine wpIn_loop_rounds k ?_
  have key:∀ (k:Nat) (M1:Mem) (B1:bY) (σ1:ASt) (a1:Act) (w1:World),GoodC E.n out m0 M B σ a.tmps w M1 B1 σ1 a1.tmps w1→a1.defers=a.defers→yM m0 (kP E m0 x) Q k σ1→Code.roundsIn (rnd l) n E.P x (lift E out m0 M B σ a.tmps w a.defers Q) k a1 w1:=by
   intro k
   induction k with
   | zero=>intro M1 B1 σ1 a1 w1 _ _ h; exact h.elim
   | succ k ih =>
    intro M1 B1 σ1 a1 w1 hG hd h
    obtain ⟨l,m,hm0,hg,hb⟩:=h
    have hgc:=rE hG.inv hm0 hg
    rw[roundsIn_succ]
    refine wpIn_mono (iT hm x (by simpa[kF] using hn) hgc.inv hb) fun e a' w' hl => ?_
    obtain ⟨ax,σ',M',B',rfl,hq,hd',hG'⟩:=hl
    have hG2:=(hG.trans hgc).trans hG'
    cases ax with
    | normal=>exact ih M' B' σ' a' w' hG2 (by rw[hd',hd]) hq
    | ret=>exact ⟨.ret,σ',M',B',rfl,hq,by rw[hd',hd],hG2⟩
    | exit i=>exact ⟨.exit i,σ',M',B',rfl,hq,by rw[hd',hd],hG2⟩
  exact key k M B σ a w (GoodC.refl hI) rfl hk
 | .rangeFunc f ps az b,_,_,_,_,_,_,_,_,h=>by rw[kP] at h; exact h.elim
 | .goto l,_,_,_,_,_,_,_,_,h=>by rw[kP] at h; exact h.elim
 | .refuse l,_,_,_,_,_,_,_,_,h=>by rw[kP] at h; exact h.elim
end
structure GoodL (l n:Nat) (out:Nat→Nat) (m0:Nat) (M:Mem) (B:bY) (σ:ASt) (t:Array Value) (w:World) (M':Mem) (B':bY) (σ':ASt) (t':Array Value) (w':World):Prop where
 inv:Inv n M' B' out σ' t' w'
 mem:∀ (b o:Nat) (v:Value),M b o=some v→M' b o=some v
 pre:∀ (i:Nat) (c:Nat×Nat×TypeId),i<m0→B[i]? = some c→B'[i]? = some c
 os:w'.os=w.os
 tape:w'.tape=w.tape
 output:w'.output=w.output
 size:w.heap.size≤w'.heap.size
 blk:∀ b,b<w.heap.size→b≠l→fp B σ t w b=0→w'.heap[b]? = w.heap[b]? ∧ ∀ o,M' b o=M b o
 own:∀ b,b<w.heap.size→fp B' σ' t' w' b≤fp B σ t w b
section
variable {n l:Nat} {out:Nat→Nat} {m0:Nat} {M M1 M2:Mem} {B B1 B2:bY} {σ σ1 σ2:ASt} {t t1 t2:Array Value} {w w1 w2:World}
theorem GoodC.gl (h:GoodC n out m0 M B σ t w M1 B1 σ1 t1 w1):GoodL l n out m0 M B σ t w M1 B1 σ1 t1 w1 :=
 ⟨h.inv,h.mem,h.pre,h.fr.os,h.fr.tape,h.fr.output,h.fr.size,fun b hb _ h0=>h.fr.blk b hb h0,h.own⟩
theorem GoodL.trans (h:GoodL l n out m0 M B σ t w M1 B1 σ1 t1 w1) (k:GoodL l n out m0 M1 B1 σ1 t1 w1 M2 B2 σ2 t2 w2):GoodL l n out m0 M B σ t w M2 B2 σ2 t2 w2 :=
 ⟨k.inv,fun b o v e=>k.mem b o v (h.mem b o v e),fun i c hi e=>k.pre i c hi (h.pre i c hi e),k.os.trans h.os,k.tape.trans h.tape,k.output.trans h.output,Nat.le_trans h.size k.size,
  fun b hb hl h0=>by
   obtain ⟨h1,h2⟩:=h.blk b hb hl h0
   obtain ⟨k1,k2⟩:=k.blk b (Nat.lt_of_lt_of_le hb h.size) hl (by have:=h.own b hb; omega)
   exact ⟨k1.trans h1,fun o=>(k2 o).trans (h2 o)⟩,
  fun b hb=>Nat.le_trans (k.own b (Nat.lt_of_lt_of_le hb h.size)) (h.own b hb)⟩
theorem RG (hI:Inv n M B out σ t w) (ho:1≤out l):fp B σ t w l=0:=by have:=hI.cnt l; omega
theorem TW (hI:Inv n M B out σ t w) (ho:1≤out l) {r:Loop} (hr:w.heap[l]? = some (.loop r)) (r':Loop):GoodL l n out m0 M B σ t w M B σ t (w.putObj l (.loop r')):=by
 have h0:=RG hI ho
 have hx:=hI.ext (M':=M) (w':=w.putObj l (.loop r')) (MLe.refl _ _) (fun b o v h=>by
  obtain ⟨h1,h2⟩:=hI.mem b o v h
  refine ⟨?_,h2⟩
  have hbl:b≠l:=by
   intro e; subst e
   simp[World.cell?,hr] at h1
  unfold World.cell? at *
  simp only at *
  rw[World.putObj_heap_other hbl]; exact h1) (fun b hb=>by
  have hbl:b≠l:=by intro e; subst e; omega
  exact ⟨World.putObj_heap_other hbl,fun _=>rfl⟩) (by simp)
 exact ⟨hx.1,fun _ _ _ h=>h,fun _ _ _ h=>h,rfl,rfl,rfl,by simp,fun b _ hl _=>⟨World.putObj_heap_other hl,fun _=>rfl⟩,fun b _=>by rw[hx.2]; exact Nat.le_refl _⟩
theorem AP (hI:Inv n M B out σ t w) (ho:1≤out l) {r:Loop} (hr:w.heap[l]? = some (.loop r)) (hG:GoodC n out m0 M B σ t w M1 B1 σ1 t1 w1):w1.heap[l]? = some (.loop r):=by
 have hl:l<w.heap.size:=(Array.getElem?_eq_some_iff.1 hr).1
 rw[(hG.fr.blk l hl (RG hI ho)).1]; exact hr
end
def AX.jump:AX→Option Code
 | .normal=>none
 | .ret=>some .ret
 | .exit i=>some (.exit i)
theorem yK {w:World} {l:Nat} {o o':Obj} (h:w.heap[l]? = some o):(w.putObj l o').heap[l]? = some o':=by
 have hl:l<w.heap.size:=(Array.getElem?_eq_some_iff.1 h).1
 simp[World.putObj,hl]
theorem a2O {E:AE} (hm:E.P.follows .mixedOrders=true) {assign body:Code} (ha:kF assign=true) (hb:kF body=true) {n l m0:Nat} {out:Nat→Nat} {M:Mem} {B:bY} {σ:ASt} {t:Array Value} {w:World} {f:FuncId}
 (hI:Inv E.n M B out σ t w) (ho:1≤out l) {r:Loop} (hr:w.heap[l]? = some (.loop r)) (hst:r.state = .ready) {Q:AX→ASt→Prop}
 (h:kP E m0 assign (E5 (kP E m0 body Q) fun _ _=>False) σ) {R:Ending→World→Prop}
 (hR:∀ ax σ' M' B' t' w',Q ax σ'→GoodL l E.n out m0 M B σ t w M' B' σ' t' w'→w'.heap[l]? = some (.loop { r with state:=if ax.jump.isNone then .ready else .done,pending:=ax.jump })→R (.returned (.bool ax.jump.isNone)) w') :
 RoundIn Fence.wide n E.P l f t assign body w R:=by
 refine roundIn_of_wpIn trivial ?_
 refine wpIn_mono (iT (n:=n) (l:=l) hm assign ha (a := { tmps:=t,defers := [] }) hI h) fun e a1 w1 hl => ?_
 obtain ⟨ax,σ1,M1,B1,rfl,hq,hd,hG⟩:=hl
 cases ax with
 | ret=>exact hq.elim
 | exit i=>exact hq.elim
 | normal =>
  have hr1:=AP hI ho hr hG
  have hP1:=TW (m0:=m0) hG.inv ho hr1 { r with state := .busy }
  refine ⟨_,run_beginRound hr1 hst,?_⟩
  have hr2:=yK (o' := .loop { r with state := .busy }) hr1
  refine wpIn_mono (iT (n:=n) (l:=l) hm body hb (a:=a1) hP1.inv hq) fun e a2 w2 hl => ?_
  obtain ⟨ax,σ2,M2,B2,rfl,hq2,hd2,hG2⟩:=hl
  have hr3:=AP hP1.inv ho hr2 hG2
  have hend:=fun j=>run_endRound (P:=E.P) j hr3
  have hfin:=fun j=>(((hG.gl.trans hP1).trans hG2.gl).trans (TW (m0:=m0) hG2.inv ho hr3 { ({ r with state := .busy }:Loop) with state:=if Option.isNone j then .ready else .done,pending:=j }))
  cases ax with
  | normal=>exact ⟨_,_,hend none,hR .normal σ2 M2 B2 a2.tmps _ hq2 (hfin none) (yK hr3)⟩
  | ret=>exact ⟨_,_,hend (some .ret),hR .ret σ2 M2 B2 a2.tmps _ hq2 (hfin (some .ret)) (yK hr3)⟩
  | exit i=>exact ⟨_,_,hend (some (.exit i)),hR (.exit i) σ2 M2 B2 a2.tmps _ hq2 (hfin (some (.exit i))) (yK hr3)⟩
theorem KH {s:cZ} (h:∀ kp,kp∈s→kp.2.own=false) (t:Array Value) (b:Nat):iI s t b=0:=by
 induction s with
 | nil=>rfl
 | cons a l ih =>
  obtain ⟨k,p⟩:=a
  rw[iI,aN (h (k,p) (by simp)),ih fun kp hk=>h kp (by simp[hk])]
theorem WJ {n n':Nat} {out:Nat→Nat} {M:Mem} {B:bY} {σ:ASt} {t tr:Array Value} {w:World} (hI:Inv n M B out σ t w) {sr:cZ} (hsz:tr.size=n') (hs:yT sr)
 (hsl:∀ kp,kp∈sr→kp.1<n'∧Rep M B kp.2 (tr.getD kp.1 undef)∧kp.2.own=false):Inv n' M B (fun b=>out b+iI σ.s t b) ⟨sr,σ.h⟩ tr w:=by
 have h0:∀ b,iI sr tr b=0:=KH (fun kp hk=>(hsl kp hk).2.2) tr
 refine ⟨hsz,hI.mem,hs,fun k p hk => ?_,hI.heap,fun b => ?_,fun b hb => ?_⟩
 ·obtain ⟨h1,h2,h3⟩:=hsl _ (IM hk)
  exact ⟨h1,h2,cO h3⟩
 ·have:=hI.cnt b; simp only[fp,h0] at *; omega
 ·have:=hI.new b hb; simp only[fp,h0] at *; omega
theorem aI0 {B B':bY} (h:∀ (i:Nat) (c:Nat×Nat×TypeId),i<B.length→B[i]? = some c→B'[i]? = some c):B'.take B.length=B:=by
 apply List.ext_getElem?
 intro i
 rw[List.getElem?_take]
 by_cases hi:i<B.length
 ·rw[if_pos hi,h i _ hi (List.getElem?_eq_getElem hi),List.getElem?_eq_getElem hi]
 ·rw[if_neg hi,List.getElem?_eq_none (by omega)]
theorem UH {l n n' m0:Nat} {out:Nat→Nat} {M M':Mem} {B B':bY} {σ σr σ':ASt} {t tr t':Array Value} {w w':World} (hI:Inv n M B out σ t w) (ho:1≤out l)
 (hr:σr.h=σ.h) (hrs:∀ kp,kp∈σr.s→kp.2.own=false) (hm:m0=σ.h.length)
 (hG:GoodL l n' (fun b=>out b+iI σ.s t b) m0 M B σr tr w M' B' σ' t' w') (hb:OM m0 (σ'.h.take m0)=true) :
 GoodL l n out m0 M B σ t w M' B { σ with h:=σ'.h.take m0 } t w':=by
 have hB:m0=B.length:=by rw[hm]; exact hI.heap.1
 have hgc:=rE (m0:=m0) (l := []) hG.inv (Nat.le_refl _) (by
  unfold QL
  simp only[Bool.and_eq_true,List.all_eq_true]
  exact ⟨fun kp hk=>by simp[ASt.gc] at hk,hb⟩)
 have hT:B'.take m0=B:=by
  rw[hB] at hG ⊢
  exact aI0 hG.pre
 rw[hT] at hgc
 have hle:MLe M M' B B:=⟨hG.mem,fun _ _ h=>h⟩
 have hfr:∀ b,fp B σr tr w b=aJ w σ.h B b:=fun b=>by simp only[fp,hr,KH hrs tr b]; omega
 have hfg:∀ b,fp B (σ'.gc [] m0) t' w' b=aJ w' (σ'.h.take m0) B b:=fun b=>by
  simp only[fp,ASt.gc]
  rw[KH (fun kp hk=>by simp at hk)]; omega
 have hkeep:∀ b,1≤iI σ.s t b→w'.heap[b]? = w.heap[b]? ∧ ∀ o,M' b o=M b o:=fun b h1=>by
  have h2:=hI.cnt b
  simp only[fp] at h2
  refine hG.blk b (CX hI (by simp only[fp]; omega)) (fun e=>by subst e; omega) ?_
  rw[hfr]; omega
 refine ⟨⟨hI.size,hgc.inv.mem,hI.srt,fun k p hk => ?_,hgc.inv.heap,fun b => ?_,fun b hb => ?_⟩,hG.mem,fun _ _ _ h=>h,hG.os,hG.tape,hG.output,hG.size,fun b hb hl h0 => ?_,fun b hb => ?_⟩
 ·obtain ⟨s1,s2,s3⟩:=hI.slots k p hk
  refine ⟨s1,s2.mono hle,s3.kept fun b hb=>hkeep b ?_⟩
  have e1:=pI (s:=σ.s) (t:=t) (k:=k) (b:=b)
  simp only[oN,hk] at e1
  omega
 ·have:=hgc.inv.cnt b
  rw[hfg] at this
  simp only[fp]; omega
 ·have:=hgc.inv.new b hb
  rw[hfg] at this
  simp only[fp]; omega
 ·simp only[fp] at h0
  exact hG.blk b hb hl (by rw[hfr]; omega)
 ·have h1:=hG.own b hb
  have h2:=hgc.own b (Nat.lt_of_lt_of_le hb hG.size)
  rw[hfg] at h2
  rw[hfr] at h1
  simp only[fp]; omega
theorem aJF {E E':AE} (hP:E'.P=E.P) (hm:E.P.follows .mixedOrders=true) {o:Oper} {c:Call} (hop:o.op = .call c) {f:Operand} (hf:c.callee = .value f) {n l:Nat} {out:Nat→Nat} {M:Mem} {B:bY} {σ:ASt} {a:Act} {w:World}
 (hv:a.eval f = .func (.yield l) #[] #[])
 (hI:Inv E.n M B out σ a.tmps w) (ho:1≤out l) {r:Loop} (hr:w.heap[l]? = some (.loop r)) (hst:r.state = .ready) (ha:kF r.assign=true) (hb:kF r.body=true)
 (hsz:c.args.size=r.params.size) {sr:cZ} (hs:yT sr)
 (hn:((r.params.zip (c.args.map a.eval)).foldl (fun tmps (t,a)=>tmps.setIfInBounds t a) r.tmps).size=E'.n)
 (hsl:∀ kp,kp∈sr→kp.1<E'.n∧Rep M B kp.2 (((r.params.zip (c.args.map a.eval)).foldl (fun tmps (t,a)=>tmps.setIfInBounds t a) r.tmps).getD kp.1 undef)∧kp.2.own=false)
 {Q:AX→ASt→Prop} (h:kP E' σ.h.length r.assign (E5 (kP E' σ.h.length r.body Q) fun _ _=>False) ⟨sr,σ.h⟩)
 (hblw:∀ ax σ',Q ax σ'→OM σ.h.length (σ'.h.take σ.h.length)=true)
 {K:Act→World→Prop} {QQ:Exit→Act→World→Prop}
 (hK:∀ ax σ' M' w',Q ax σ'→GoodL l E.n out σ.h.length M B σ a.tmps w M' B { σ with h:=σ'.h.take σ.h.length } a.tmps w' →
  w'.heap[l]? = some (.loop { r with state:=if ax.jump.isNone then .ready else .done,pending:=ax.jump })→K (a.put o.dst (.bool ax.jump.isNone)) w') :
 o.wpIn Fence.wide n E.P a w K QQ:=by
 refine ⟨fun _ _=>trivial,?_⟩
 rw[show Fence.wide.round=none from rfl,Oper.semAt_none]
 have hrun:(execOp a.eval o).run E.P w = .ok (.round l r.fn ((r.params.zip (c.args.map a.eval)).foldl (fun tmps (t,a)=>tmps.setIfInBounds t a) r.tmps) r.assign r.body) w:=by
  obtain ⟨callee,cargs,cts⟩:=c
  simp only at hf
  subst hf
  unfold execOp
  rw[hop]
  simp only[resolve,hv,Deferred.ofValue,Sem.run_bind,Sem.run_pure,Result.andThen_ok,invoke]
  rw[run_yield hr (by simpa using hsz)]
  simp
 rw[hrun,Oper.uponIn_round]
 refine ⟨fun h=>by simp[Fence.wide] at h,?_⟩
 rw[← hP]
 refine a2O (E:=E') (m0:=σ.h.length) (by rw[hP]; exact hm) ha hb (WJ hI hn hs hsl) (by show 1≤out l+_; omega) hr hst h fun ax σ' M' B' t' w' hq hG hrec => ?_
 exact hK ax σ' M' w' hq (UH (σr:=⟨sr,σ.h⟩) hI ho rfl (fun kp hk=>(hsl kp hk).2.2) rfl hG (hblw ax _ hq)) hrec
theorem aDQ {P:Program} {n:Nat} {o:Oper} {a:Act} {w:World} {K:Act→World→Prop} {Q:Exit→Act→World→Prop} (h:o.wp P a w K Q):o.wpIn Fence.wide n P a w K Q:=by
 refine ⟨fun _ _=>trivial,?_⟩
 rw[show Fence.wide.round=none from rfl,Oper.semAt_none]
 unfold Oper.wp at h
 generalize (execOp a.eval o).run P w=r at *
 cases r with
 | ok x w' =>
  cases x<;>simp only[Oper.upon,Oper.uponIn] at h ⊢ <;>
   first
    | exact h
    | exact h.elim
    | exact ⟨fun h=>by simp[Fence.wide] at h,callsIn_wide.2 h⟩
    | exact ⟨fun h=>by simp[Fence.wide] at h,fun c cs _=>let ⟨v,w',r,s⟩:=h c cs; ⟨v,w',r,stepsIn_wide.2 s⟩⟩
 | halt x w'=>cases x<;>simp only[Oper.upon,Oper.uponIn] at h ⊢ <;> exact h
section
variable {E:AE} {out:Nat→Nat}
theorem yB {n:Nat} {ops:Array Oper} {Q:Exit→Act→World→Prop} {rest:List Oper}:∀ (l:List Oper) {M:Mem} {B:bY} {σ:ASt} {a:Act} {w:World} {K:ASt→Prop},Inv E.n M B out σ a.tmps w→dZ E ops l K σ →
 (∀ σ' M' B' a' w',K σ'→Good E.n out M B σ a.tmps w M' B' σ' a'.tmps w'→a'.defers=a.defers→wpListIn Fence.wide n E.P ops Q rest a' w')→wpListIn Fence.wide n E.P ops Q (l ++ rest) a w
 | [],M,B,σ,a,w,K,hI,h,hQ=>hQ σ M B a w h (Good.refl hI) rfl
 | o::l,M,B,σ,a,w,K,hI,h,hQ=>by
  have run:uH E o (dZ E ops l K) σ→o.wpIn Fence.wide n E.P a w (wpListIn Fence.wide n E.P ops Q (l ++ rest)) Q:=fun h =>
   aDQ (vC hI h fun v σ' M' B' w' hK hG=>yB l hG.inv hK fun σ2 M2 B2 a2 w2 hk hG2 hd=>hQ σ2 M2 B2 a2 w2 hk (hG.trans hG2) (by rw[hd,Act.put_defers']))
  have skip:bJ E o.dst (.tuple []) σ (dZ E ops l K)→wpListIn Fence.wide n E.P ops Q (l ++ rest) (a.put o.dst undef) w:=fun h=>by
   unfold bJ at h
   split at h
   ·rename_i σ' hp
    have hG:=CV hI hp
    exact yB l hG.inv h fun σ2 M2 B2 a2 w2 hk hG2 hd=>hQ σ2 M2 B2 a2 w2 hk (hG.trans hG2) (by rw[hd,Act.put_defers'])
   ·exact h.elim
  rw[dZ] at h
  rw[List.cons_append]
  unfold wpListIn
  split at h
  ·rename_i hg
   rw[if_pos (by simp[Region.wanted,hg])]
   exact run h
  ·rename_i j want hg
   split at h
   ·rename_i hv
    rw[if_neg (by simp[Region.wanted,hg,gQ hI hv])]
    exact ⟨fun _ _=>trivial,skip h⟩
   ·rename_i b hv
    by_cases hb:b=want
    ·rw[if_pos (by simp[Region.wanted,hg,gQ hI hv,hb])]
     exact run (h.1 hb)
    ·rw[if_neg (by simp[Region.wanted,hg,gQ hI hv,hb])]
     exact ⟨fun _ _=>trivial,skip (h.2 hb)⟩
   ·exact h.elim
end
end Go.Proofs.YtcdceiloganlnaaGreatDoor
namespace Go.Proofs.YtcdceiloganlnaaGreatDoor
open Go.RowKit
open Classical in
noncomputable def WC (ax:AX) (σt:ASt):AX→ASt→R:=fun e σ=>if e=ax∧σ=σt then some (.nilp,[]) else none
theorem mY {X:XE} (hV:nZ X.V) (hW:oH X.W) (hC:kK X.E.P X.C) (hL:OA X) {c:Code} {σ σt:ASt} {ax:AX} (h:∀ K:AX→ASt→R,gW X c K σ=K ax σt) :
 kP X.E X.m0 c (fun e σ'=>e=ax∧σ'=σt) σ:=by
 have h1:gW X c (WC ax σt) σ=some (.nilp,[]):=by rw[h]; simp[WC]
 refine iD c (fun e σ' he => ?_) (eQ hV hW hC hL c h1)
 unfold WC at he
 split at he
 ·assumption
 ·cases he
theorem IX {S:SE} (hm:S.P.follows .mixedOrders=true) (hS:S.OK) (h0:kK S.P S.C0) {E:AE} (hE:S.wp E=E) {m0:Nat}:OA (S.xe S.CC S.LL E m0):=fun l m x K σ v hv=>by
 obtain ⟨n,hn⟩:=(RX (f:=fun n=>(S.sem n).2 E m0 l m x K (σ.gc l m)) fun n v hv=>(lH hS n).2 _ _ _ _ _ _ _ _ _ (fun _ _ _ h=>h) hv).1 hv
 exact ⟨n,(LX hm hS h0 n).2 E m0 l m x K σ v hE hn⟩
end Go.Proofs.YtcdceiloganlnaaGreatDoor
namespace Go.Proofs.YtcdceiloganlnaaGreatDoor
open Go.RowKit
def wM (rc:Loop) (j:AX):Loop := { rc with state:=if j.jump.isNone then .ready else .done,pending:=j.jump }
def Y2 (n l:Nat) (rc:Loop) (out:Nat→Nat) (m0:Nat) (M:Mem) (B:bY) (σ:ASt) (t:Array Value) (w:World) (ds:List Deferred) (Q:AX→ASt→AX→Prop) (e:Exit) (a':Act) (w':World):Prop :=
 ∃ ax σ' j M' B',e=ax.toExit∧Q ax σ' j∧a'.defers=ds∧GoodL l n out m0 M B σ t w M' B' σ' a'.tmps w'∧w'.heap[l]? = some (.loop (wM rc j))
def OutOK (sO:cZ) (n' m0:Nat) (tm:Array Value) (M:Mem) (B:bY):Prop:=∀ kp,kp∈sO→kp.1<n'∧Rep M B kp.2 (tm.getD kp.1 undef)∧kp.2.own=false∧kp.2.blw m0=true
theorem OutOK.mono {sO:cZ} {n' m0:Nat} {tm:Array Value} {M:Mem} {B:bY} (h:OutOK sO n' m0 tm M B) {M':Mem} {B':bY} (hm:∀ (b o:Nat) (v:Value),M b o=some v→M' b o=some v)
 (hp:∀ (i:Nat) (c:Nat×Nat×TypeId),i<m0→B[i]? = some c→B'[i]? = some c):OutOK sO n' m0 tm M' B':=fun kp hk=>by
 obtain ⟨h1,h2,h3,h4⟩:=h kp hk
 refine ⟨h1,(h2.blw h4).mono ⟨hm,fun i c hc => ?_⟩,h3,h4⟩
 rw[List.getElem?_take] at hc
 split at hc
 ·exact hp i c ‹_› hc
 ·cases hc
structure YC where
 E:AE
 E':AE
 l:Nat
 m0:Nat
 rc:Loop
 out:Nat→Nat
 sO:cZ
structure YC.OK (Y:YC):Prop where
 hm:Y.E.P.follows .mixedOrders=true
 hP:Y.E'.P=Y.E.P
 ho:1≤Y.out Y.l
def Tr (Y:YC) (c:Code) (Q:AX→ASt→AX→Prop) (j:AX) (σ:ASt):Prop :=
 ∀ (n:Nat) (M:Mem) (B:bY) (a:Act) (w:World),Inv Y.E.n M B Y.out σ a.tmps w→w.heap[Y.l]? = some (.loop (wM Y.rc j))→OutOK Y.sO Y.E'.n Y.m0 Y.rc.tmps M B →
  c.wpIn Fence.wide n Y.E.P (Y2 Y.E.n Y.l Y.rc Y.out Y.m0 M B σ a.tmps w a.defers Q) a w
def aSR (k:ASt→AX→Prop) (Q:AX→ASt→AX→Prop):AX→ASt→AX→Prop
 | .normal,σ,j=>k σ j
 | e,σ,j=>Q e σ j
def a_N (id:Nat) (Q:AX→ASt→AX→Prop):AX→ASt→AX→Prop
 | .exit i,σ,j=>if i=id then Q .normal σ j else Q (.exit i) σ j
 | e,σ,j=>Q e σ j
theorem OB {n l:Nat} {rc:Loop} {out:Nat→Nat} {m0:Nat} {M M1:Mem} {B B1:bY} {σ σ1:ASt} {t t1:Array Value} {w w1:World} {ds:List Deferred} {Q:AX→ASt→AX→Prop} (h:GoodL l n out m0 M B σ t w M1 B1 σ1 t1 w1) {e:Exit} {a':Act} {w':World}
 (k:Y2 n l rc out m0 M1 B1 σ1 t1 w1 ds Q e a' w'):Y2 n l rc out m0 M B σ t w ds Q e a' w':=by
 obtain ⟨ax,σ',j,M',B',h1,h2,h3,h4,h5⟩:=k
 exact ⟨ax,σ',j,M',B',h1,h2,h3,h.trans h4,h5⟩
section
variable {Y:YC} {c:Code} {Q:AX→ASt→AX→Prop} {j:AX} {σ:ASt}
theorem Tr.mono {Q':AX→ASt→AX→Prop} (h:Tr Y c Q j σ) (hq:∀ e σ j,Q e σ j→Q' e σ j):Tr Y c Q' j σ:=fun n M B a w hI hr hO=>by
 refine wpIn_mono (h n M B a w hI hr hO) fun e a' w' hl => ?_
 obtain ⟨ax,σ',j',M',B',h1,h2,h3,h4,h5⟩:=hl
 exact ⟨ax,σ',j',M',B',h1,hq _ _ _ h2,h3,h4,h5⟩
theorem Tr.of_awp (hY:Y.OK) {Q':AX→ASt→Prop} (h:kP Y.E Y.m0 c Q' σ) (hq:∀ e σ',Q' e σ'→Q e σ' j):Tr Y c Q j σ:=fun n M B a w hI hr hO=>by
 refine wpIn_wide.2 (wp_mono (fC (out:=Y.out) hY.hm c hI h) fun e a' w' hl => ?_)
 obtain ⟨ax,σ',M',B',rfl,hq',hd,hG⟩:=hl
 exact ⟨ax,σ',j,M',B',rfl,hq _ _ hq',hd,hG.gl,AP hI hY.ho hr hG⟩
theorem Tr.gc {l:List Nat} {m:Nat} (hm:Y.m0≤m) (hg:QL l m σ=true) (h:Tr Y c Q j (σ.gc l m)):Tr Y c Q j σ:=fun n M B a w hI hr hO=>by
 have hG:=rE (m0:=Y.m0) hI hm hg
 exact wpIn_mono (h n M _ a w hG.inv hr (hO.mono hG.mem hG.pre)) fun e a' w' hl=>OB hG.gl hl
theorem Tr.seq {x y:Code} (h:Tr Y x (aSR (fun σ' j'=>Tr Y y Q j' σ') Q) j σ):Tr Y (.seq x y) Q j σ:=fun n M B a w hI hr hO=>by
 refine wpIn_seq (wpIn_mono (h n M B a w hI hr hO) fun e a' w' hl => ?_)
 obtain ⟨ax,σ',j',M',B',rfl,hq,hd,hG,hr'⟩:=hl
 cases ax with
 | normal=>exact wpIn_mono (hq n M' B' a' w' hG.inv hr' (hO.mono hG.mem hG.pre)) fun e a2 w2 hl2=>by rw[hd] at hl2; exact OB hG hl2
 | ret=>exact ⟨.ret,σ',j',M',B',rfl,hq,hd,hG,hr'⟩
 | exit i=>exact ⟨.exit i,σ',j',M',B',rfl,hq,hd,hG,hr'⟩
theorem Tr.cond {o:Operand} {x y:Code} {b:Bool} (hb:σ.rd o=some (.bool b)) (h1:b=true→Tr Y x Q j σ) (h2:b=false→Tr Y y Q j σ):Tr Y (.cond o x y) Q j σ:=fun n M B a w hI hr hO =>
 wpIn_cond_split (rep_bool.1 (hI.rd _ _ hb).1) (fun hb=>h1 hb n M B a w hI hr hO) (fun hb=>h2 hb n M B a w hI hr hO)
theorem Tr.block {id:Nat} {x:Code} (h:Tr Y x (a_N id Q) j σ):Tr Y (.block id x) Q j σ:=fun n M B a w hI hr hO=>by
 refine wpIn_block (wpIn_mono (h n M B a w hI hr hO) fun e a' w' hl => ?_)
 obtain ⟨ax,σ',j',M',B',rfl,hq,hd,hG,hr'⟩:=hl
 cases ax with
 | normal=>exact ⟨.normal,σ',j',M',B',rfl,hq,hd,hG,hr'⟩
 | ret=>exact ⟨.ret,σ',j',M',B',rfl,hq,hd,hG,hr'⟩
 | exit i =>
  simp only[AX.toExit,Exit.inBlock]
  simp only[a_N] at hq
  split
  ·rename_i e; rw[if_pos e] at hq; exact ⟨.normal,σ',j',M',B',rfl,hq,hd,hG,hr'⟩
  ·rename_i e; rw[if_neg e] at hq; exact ⟨.exit i,σ',j',M',B',rfl,hq,hd,hG,hr'⟩
theorem Tr.scope {x:Code} (h:Tr Y x Q j σ):Tr Y (.scope x) Q j σ:=fun n M B a w hI hr hO=>by
 refine wpIn_wide.2 (wp_scope_straight (wp_mono (wpIn_wide.1 (h n M B a w hI hr hO)) fun e a' w' hl => ?_))
 obtain ⟨ax,σ',j',M',B',rfl,hq,hd,hG,hr'⟩:=hl
 cases ax<;>exact ⟨_,σ',j',M',B',rfl,hq,hd,hG,hr'⟩
theorem Tr.ret (h:Q .ret σ j):Tr Y .ret Q j σ:=fun n M B a w hI hr hO=>wpIn_ret ⟨.ret,σ,j,M,B,rfl,h,rfl,(GoodC.refl hI).gl,hr⟩
theorem Tr.exit {i:Nat} (h:Q (.exit i) σ j):Tr Y (.exit i) Q j σ:=fun n M B a w hI hr hO=>wpIn_exit ⟨.exit i,σ,j,M,B,rfl,h,rfl,(GoodC.refl hI).gl,hr⟩
theorem Tr.skip (h:Q .normal σ j):Tr Y .skip Q j σ:=fun n M B a w hI hr hO=>wpIn_skip ⟨.normal,σ,j,M,B,rfl,h,rfl,(GoodC.refl hI).gl,hr⟩
theorem Tr.label {i:Nat} (h:Q .normal σ j):Tr Y (.label i) Q j σ:=fun n M B a w hI hr hO=>wpIn_label ⟨.normal,σ,j,M,B,rfl,h,rfl,(GoodC.refl hI).gl,hr⟩
def TrR (Y:YC) (x:Code) (Q:AX→ASt→AX→Prop):Nat→AX→ASt→Prop
 | 0,_,_=>False
 | k+1,j,σ=>Tr Y x (aSR (fun σ' j'=>TrR Y x Q k j' σ') Q) j σ
theorem Tr.loop {x:Code} {k:Nat} (h:TrR Y x Q k j σ):Tr Y (.loop x) Q j σ:=fun n M B a w hI hr hO=>by
 refine wpIn_loop_rounds k ?_
 have key:∀ (k:Nat) (j1:AX) (M1:Mem) (B1:bY) (σ1:ASt) (a1:Act) (w1:World),GoodL Y.l Y.E.n Y.out Y.m0 M B σ a.tmps w M1 B1 σ1 a1.tmps w1→w1.heap[Y.l]? = some (.loop (wM Y.rc j1))→a1.defers=a.defers→TrR Y x Q k j1 σ1 →
  Code.roundsIn Fence.wide n Y.E.P x (Y2 Y.E.n Y.l Y.rc Y.out Y.m0 M B σ a.tmps w a.defers Q) k a1 w1:=by
  intro k
  induction k with
  | zero=>intro j1 M1 B1 σ1 a1 w1 _ _ _ h; exact h.elim
  | succ k ih =>
   intro j1 M1 B1 σ1 a1 w1 hG hr1 hd h
   rw[roundsIn_succ]
   refine wpIn_mono (h n M1 B1 a1 w1 hG.inv hr1 (hO.mono hG.mem hG.pre)) fun e a' w' hl => ?_
   obtain ⟨ax,σ',j',M',B',rfl,hq,hd',hG',hr'⟩:=hl
   have hG2:=hG.trans hG'
   cases ax with
   | normal=>exact ih j' M' B' σ' a' w' hG2 hr' (by rw[hd',hd]) hq
   | ret=>exact ⟨.ret,σ',j',M',B',rfl,hq,by rw[hd',hd],hG2,hr'⟩
   | exit i=>exact ⟨.exit i,σ',j',M',B',rfl,hq,by rw[hd',hd],hG2,hr'⟩
 exact key k j M B σ a w (GoodC.refl hI).gl hr rfl h
theorem GoodL.weak {l n:Nat} {out:Nat→Nat} {m0 m1:Nat} {M M1:Mem} {B B1:bY} {σ σ1:ASt} {t t1:Array Value} {w w1:World} (h:GoodL l n out m1 M B σ t w M1 B1 σ1 t1 w1) (hm:m0≤m1):GoodL l n out m0 M B σ t w M1 B1 σ1 t1 w1 :=
 ⟨h.inv,h.mem,fun i c hi e=>h.pre i c (by omega) e,h.os,h.tape,h.output,h.size,h.blk,h.own⟩
theorem Tr.yield (hY:Y.OK) {id:Nat} {ops:Array Oper} {pre post:List Oper} {o:Oper} (hops:ops.toList=pre ++ o::post)
 {cl:Call} (hop:o.op = .call cl) (hg:o.guard=none) {f x y:Operand} (hf:cl.callee = .value f) (hargs:cl.args = #[x,y]) {p q:Nat} (hp:Y.rc.params = #[p,q]) (hpq:p<q) (hqn:q<Y.E'.n)
 (hpO:∀ kp,kp∈Y.sO→kp.1<p) (hsO:yT Y.sO) (hn:Y.rc.tmps.size=Y.E'.n) (ha:kF Y.rc.assign=true) (hb:kF Y.rc.body=true)
 (h:dZ Y.E ops pre (fun σ1=>∃ px py Q1,σ1.rd f=some (.func (.yield Y.l) [] [])∧σ1.rd x=some px∧σ1.rd y=some py∧Y.m0≤σ1.h.length ∧
  kP Y.E' σ1.h.length Y.rc.assign (E5 (kP Y.E' σ1.h.length Y.rc.body Q1) fun _ _=>False) ⟨Y.sO ++ [(p,px),(q,py)],σ1.h⟩ ∧
  ∀ ax σ',Q1 ax σ'→OM σ1.h.length (σ'.h.take σ1.h.length)=true∧bJ Y.E o.dst (.bool ax.jump.isNone) { σ1 with h:=σ'.h.take σ1.h.length } fun σ2=>dZ Y.E ops post (fun σ3=>Q .normal σ3 ax) σ2) (σ.head Y.E)) :
 Tr Y (.region id ops false) Q .normal σ:=fun n M B a w hI hr hO=>by
 have hk:=D7 (E:=Y.E) hI
 refine wpIn_region_list ?_
 rw[hops]
 refine yB pre hk.inv h fun σ1 M1 B1 a1 w1 hh hG1 hd1 => ?_
 obtain ⟨px,py,Q1,hfv,hx,hy,hm0,hbody,hafter⟩:=hh
 have hG01:GoodC Y.E.n Y.out Y.m0 M B σ a.tmps w M1 B1 σ1 a1.tmps w1:=(hk.trans hG1).c
 have hr1:=AP hI hY.ho hr hG01
 have hO1:=hO.mono hG01.mem hG01.pre
 unfold wpListIn
 rw[if_pos (by simp[Region.wanted,hg])]
 have hev:a1.eval f = .func (.yield Y.l) #[] #[]:=by
  obtain ⟨f',c',e,h1,h2⟩:=rep_func.1 (hG1.inv.rd _ _ hfv).1
  rw[reps_nil] at h1 h2
  rw[e]; congr 1<;>(apply Array.ext'; assumption)
 have hrx:=hG1.inv.rd _ _ hx
 have hry:=hG1.inv.rd _ _ hy
 have htm:((wM Y.rc .normal).params.zip (cl.args.map a1.eval)).foldl (fun tmps (t,a)=>tmps.setIfInBounds t a) (wM Y.rc .normal).tmps=(Y.rc.tmps.setIfInBounds p (a1.eval x)).setIfInBounds q (a1.eval y):=by
  show (Y.rc.params.zip (cl.args.map a1.eval)).foldl (fun tmps (t,a)=>tmps.setIfInBounds t a) Y.rc.tmps=_
  rw[hp,hargs]; simp
 refine aJF (E':=Y.E') hY.hP hY.hm hop hf hev hG1.inv hY.ho hr1 rfl ha hb (by show cl.args.size=Y.rc.params.size; rw[hargs,hp]; rfl) (sr:=Y.sO ++ [(p,px),(q,py)]) ?_ ?_ (fun kp hk => ?_) (Q:=Q1) hbody (fun ax σ' hq=>(hafter ax σ' hq).1) fun ax σ' M' w' hq1 hGL hrec => ?_
 ·unfold yT
  rw[List.pairwise_append]
  refine ⟨hsO,by simp[hpq],fun a ha b hb => ?_⟩
  have:=hpO a ha
  simp only[List.mem_cons,List.not_mem_nil,or_false] at hb
  rcases hb with rfl | rfl
  ·exact this
  ·show a.1<q; omega
 ·rw[htm]; simp[hn]
 ·rw[htm]
  rcases List.mem_append.1 hk with hk | hk
  ·obtain ⟨h1,h2,h3,h4⟩:=hO1 kp hk
   have:=hpO kp hk
   refine ⟨h1,?_,h3⟩
   rw[jM (by omega),jM (by omega)]
   exact h2
  ·simp only[List.mem_cons,List.not_mem_nil,or_false] at hk
   rcases hk with rfl | rfl
   ·refine ⟨by show p<_; omega,?_,hrx.2⟩
    show Rep M1 B1 px (((Y.rc.tmps.setIfInBounds p (a1.eval x)).setIfInBounds q (a1.eval y)).getD p undef)
    rw[jM (by omega),kX (by omega)]
    exact hrx.1
   ·refine ⟨hqn,?_,hry.2⟩
    show Rep M1 B1 py (((Y.rc.tmps.setIfInBounds p (a1.eval x)).setIfInBounds q (a1.eval y)).getD q undef)
    rw[kX (by rw[Array.size_setIfInBounds]; omega)]
    exact hry.1
 ·obtain ⟨_,hput⟩:=hafter ax σ' hq1
  unfold bJ at hput
  split at hput
  ·rename_i σ2 hp2
   have hPG:Good Y.E.n Y.out M' B1 { σ1 with h:=σ'.h.take σ1.h.length } a1.tmps w' M' B1 σ2 (a1.put o.dst (.bool ax.jump.isNone)).tmps w' :=
    (Pre.plain hGL.inv (rep_bool.2 rfl) (fun b=>aN rfl _ _) (cO rfl)).put hp2
   have hrec':w'.heap[Y.l]? = some (.loop (wM Y.rc ax)):=hrec
   have:=yB (n:=n) (Q:=Y2 Y.E.n Y.l Y.rc Y.out Y.m0 M B σ a.tmps w a.defers Q) (rest := []) post hPG.inv hput fun σ3 M3 B3 a3 w3 hq3 hG3 hd3=>by
    have hGG:GoodC Y.E.n Y.out Y.m0 M' B1 { σ1 with h:=σ'.h.take σ1.h.length } a1.tmps w' M3 B3 σ3 a3.tmps w3:=(hPG.trans hG3).c
    show Y2 Y.E.n Y.l Y.rc Y.out Y.m0 M B σ a.tmps w a.defers Q .normal a3 w3
    exact ⟨.normal,σ3,ax,M3,B3,rfl,hq3,by rw[hd3,Act.put_defers',hd1],(hG01.gl.trans (hGL.weak hm0)).trans hGG.gl,AP hGL.inv hY.ho hrec' hGG⟩
   rwa [List.append_nil] at this
  ·exact hput.elim
end
end Go.Proofs.YtcdceiloganlnaaGreatDoor
namespace Go.Proofs.YtcdceiloganlnaaGreatDoor
open Go.RowKit
theorem aKF {P:Program} {n:Nat} {out:Nat→Nat} {h:aG} {M:Mem} {B:bY} {w:World} {σ0:ASt} {t0:Array Value} (hheap:HeapOK M B w h) (hfp:∀ b,fp B σ0 t0 w b=aJ w h B b)
 {M':Mem} {B':bY} {σ':ASt} {a':Act} {w':World} (hG:GoodC n out h.length M B σ0 t0 w M' B' σ' a'.tmps w') {fn:Func} {r0:PV} {h':aG} (hret:IC P fn.results.toList h.length r0 h' σ') (ro:List (List Nat×Bool)) :
 ∃ v,(results fn a'.tmps).run P w' = .ok v w'∧Post h B out M w (AO ro r0) h' v M' (B'.take h'.length) w':=by
 obtain ⟨v,hrun,hrep,htl,hown⟩:=aB0 hG.inv hret
 obtain ⟨hm0,hht,hb1,hb2,_⟩:=hret
 generalize hm':h'.length=m at *
 subst hht
 have hBl:B.length=h.length:=hheap.1.symm
 have htake:=fun b=>KQ (w:=w') m b σ'.h B'
 have hfin:∀ b,aJ w' (σ'.h.take m) (B'.take m) b+bF (AO ro r0) v b≤fp B' σ' a'.tmps w' b:=fun b=>by have:=htake b; have:=hown b; have:=a0Y (ro:=ro) (r:=r0) (v:=v) (b:=b); simp only[fp]; omega
 refine ⟨v,hrun,hG.inv.mem,⟨hG.mem,fun i c hc => ?_⟩,hG.fr.mono fun b hb h0=>by rw[hfp]; exact h0,⟨by simp[hG.inv.heap.1],fun i cs hi => ?_⟩,a3S (hrep.blw hb1),aBF (hrep.blw hb1) htl,fun b hb => ?_,fun b => ?_,fun b hb => ?_⟩
 ·have hlt:=(List.getElem?_eq_some_iff.1 hc).1
  rw[List.getElem?_take,if_pos (by omega)]
  exact hG.pre i c (by omega) hc
 ·have hi0:=hi
  rw[List.getElem?_take] at hi
  split at hi
  ·rename_i hlt
   obtain ⟨c,hc,vs,ty,o1,o2,o3,o4,o5⟩:=hG.inv.heap.2 i cs hi
   refine ⟨c,by rw[List.getElem?_take,if_pos hlt]; exact hc,vs,ty,o1,o2,o3,fun j p hj => ?_,o5⟩
   obtain ⟨u,a1,a2,a3,a4⟩:=o4 j p hj
   refine ⟨u,a1,a2.blw ?_,a3,a4⟩
   have:=List.all_eq_true.1 hb2 _ (List.mem_of_getElem? hi0)
   exact blws_iff.1 this p (List.mem_of_getElem? hj)
  ·cases hi
 ·have h1:=hG.own b hb; rw[hfp] at h1; exact Nat.le_trans (hfin b) h1
 ·have h1:=hG.inv.cnt b; have:=hfin b; omega
 ·have h1:=hG.inv.new b hb; have:=hfin b; omega
theorem XH {n:Nat} {out:Nat→Nat} {M:Mem} {B:bY} {w:World} {h:aG} {args:List PV} {vals:Array Value} (hlen:args.length≤n) (hmem:qV M w) (hheap:HeapOK M B w h) (hcnt:∀ b,aJ w h B b+out b≤1) (hnew:∀ b,w.heap.size≤b→aJ w h B b+out b=0)
 (hv:Reps M B args vals.toList):Inv n M B out ⟨dX 0 args,h⟩ (vals ++ Array.replicate (n-vals.size) undef) w:=by
 have hvl:=bC hv
 simp only[Array.length_toList] at hvl
 have hfp:∀ t b,fp B ⟨dX 0 args,h⟩ t w b=aJ w h B b:=fun t b=>by simp only[fp,sV]; omega
 refine ⟨by simp; omega,hmem,slots0_srt.1,fun k p hk => ?_,hheap,fun b=>by rw[hfp]; exact hcnt b,fun b hb=>by rw[hfp]; exact hnew b hb⟩
 obtain ⟨i,q,rfl,hq,rfl⟩:=F5 hk
 obtain ⟨v,hv1,hv2⟩:=fB hv hq
 have hi:=(List.getElem?_eq_some_iff.1 hq).1
 refine ⟨by omega,?_,cO (iM _)⟩
 have hvi:vals[i]? = some v:=by simpa using hv1
 have:(vals ++ Array.replicate (n-vals.size) undef).getD (0+i) undef=v:=by
  rw[Nat.zero_add,Array.getD_eq_getD_getElem?,Array.getElem?_append_left (by omega),hvi]; rfl
 rw[this]; exact rep_un.2 hv2
theorem WA {B:bY} {args:List PV} {h:aG} (t:Array Value) (w:World) (b:Nat):fp B ⟨dX 0 args,h⟩ t w b=aJ w h B b:=by simp only[fp,sV]; omega
def oP (w:World) (rc:Loop):World:=(w.alloc (.deferred (some []))).alloc (.loop rc)
def OO (out:Nat→Nat) (s:Nat) (b:Nat):Nat:=out b+(if b=s∨b=s+1 then 1 else 0)
section
variable {n:Nat} {out:Nat→Nat} {M:Mem} {B:bY} {σ:ASt} {t:Array Value} {w:World}
theorem FN (rc:Loop) {b:Nat} (hb:b<w.heap.size):(oP w rc).heap[b]? = w.heap[b]? := by
 unfold oP
 exact (Below.heap_alloc _ _ b (by simp; omega)).trans (Below.heap_alloc _ _ b hb)
theorem uZ (rc:Loop):(oP w rc).heap.size=w.heap.size+2:=by simp[oP]
theorem a7Y (rc:Loop):(oP w rc).heap[w.heap.size+1]? = some (.loop rc):=by
 have:=World.alloc_heap_new (w.alloc (.deferred (some []))) (.loop rc)
 rwa [World.size_alloc] at this
theorem a9D (rc:Loop):(oP w rc).heap[w.heap.size]? = some (.deferred (some [])) :=
 (Below.heap_alloc _ _ _ (by simp)).trans (World.alloc_heap_new w _)
theorem XY (hI:Inv n M B out σ t w) (rc:Loop):Inv n M B (OO out w.heap.size) σ t (oP w rc)∧∀ b,fp B σ t (oP w rc) b=fp B σ t w b:=by
 have hx:=hI.ext (M':=M) (w':=oP w rc) (MLe.refl _ _) (fun b o v h=>by
  obtain ⟨h1,h2⟩:=hI.mem b o v h
  have hb:=World.block_lt_of_cell? _ _ h1
  refine ⟨?_,h2⟩
  exact (World.cell?_of_block (FN rc hb)).trans h1) (fun b hb=>by
  have hl:b<w.heap.size:=CX hI (by omega)
  exact ⟨FN rc hl,fun _=>rfl⟩) (by rw[uZ]; omega)
 refine ⟨⟨hx.1.size,hx.1.mem,hx.1.srt,hx.1.slots,hx.1.heap,fun b => ?_,fun b hb => ?_⟩,hx.2⟩
 ·rw[hx.2]
  have h1:=hI.cnt b
  unfold OO
  split
  ·rename_i h
   have:=hI.new b (by omega)
   omega
  ·omega
 ·rw[hx.2]
  rw[uZ] at hb
  have:=hI.new b (by omega)
  unfold OO
  rw[if_neg (by omega)]; omega
theorem a4U {l m0:Nat} (hI:Inv n M B out σ t w) (ho:1≤out l) {ds:Option (List Deferred)} (hr:w.heap[l]? = some (.deferred ds)) (o':Obj):GoodL l n out m0 M B σ t w M B σ t (w.putObj l o'):=by
 have h0:=RG hI ho
 have hx:=hI.ext (M':=M) (w':=w.putObj l o') (MLe.refl _ _) (fun b o v h=>by
  obtain ⟨h1,h2⟩:=hI.mem b o v h
  refine ⟨?_,h2⟩
  have hbl:b≠l:=by
   intro e; subst e
   simp[World.cell?,hr] at h1
  unfold World.cell? at *
  simp only at *
  rw[World.putObj_heap_other hbl]; exact h1) (fun b hb=>by
  have hbl:b≠l:=by intro e; subst e; omega
  exact ⟨World.putObj_heap_other hbl,fun _=>rfl⟩) (by simp)
 exact ⟨hx.1,fun _ _ _ h=>h,fun _ _ _ h=>h,rfl,rfl,rfl,by simp,fun b _ hl _=>⟨World.putObj_heap_other hl,fun _=>rfl⟩,fun b _=>by rw[hx.2]; exact Nat.le_refl _⟩
theorem QI {m0:Nat} {rc:Loop} (hI:Inv n M B out σ t w) {M1:Mem} {B1:bY} {σ1:ASt} {t1:Array Value} {w1:World} (hG1:GoodL (w.heap.size+1) n (OO out w.heap.size) m0 M B σ t (oP w rc) M1 B1 σ1 t1 w1)
 {M':Mem} {B':bY} {σ':ASt} {t':Array Value} {w':World} (hG2:GoodL w.heap.size n (OO out w.heap.size) m0 M1 B1 σ1 t1 w1 M' B' σ' t' w'):GoodC n out m0 M B σ t w M' B' σ' t' w':=by
 have he:=(XY hI rc).2
 have hs:=uZ (w:=w) rc
 have hle:∀ b,out b≤OO out w.heap.size b:=fun b=>by unfold OO; omega
 have hs1:=hG1.size
 have hs2:=hG2.size
 refine ⟨⟨hG2.inv.size,hG2.inv.mem,hG2.inv.srt,hG2.inv.slots,hG2.inv.heap,fun b => ?_,fun b hb => ?_⟩,fun b o v h=>hG2.mem b o v (hG1.mem b o v h),fun i c hi h=>hG2.pre i c hi (hG1.pre i c hi h),⟨hG2.os.trans hG1.os,hG2.tape.trans hG1.tape,hG2.output.trans hG1.output,by omega,fun b hb h0 => ?_⟩,fun b hb => ?_⟩
 ·have:=hG2.inv.cnt b; have:=hle b; omega
 ·have:=hG2.inv.new b hb; have:=hle b; omega
 ·have h1:=hG1.blk b (by omega) (by omega) (by rw[he]; exact h0)
  have h2:=hG1.own b (by omega)
  rw[he,h0] at h2
  have h3:=hG2.blk b (by omega) (by omega) (by omega)
  rw[FN rc hb] at h1
  exact ⟨h3.1.trans h1.1,fun o=>(h3.2 o).trans (h1.2 o)⟩
 ·have h1:=hG1.own b (by omega)
  have h2:=hG2.own b (by omega)
  rw[he] at h1; omega
theorem aFE {a b:Value} {r:Array Value}:(#[a,b] ++ r).getD 0 undef=a:=by rw[Array.getD_eq_getD_getElem?,Array.getElem?_append_left (by simp)]; rfl
theorem aF5 {a b:Value} {r:Array Value}:(#[a,b] ++ r).getD 1 undef=b:=by rw[Array.getD_eq_getD_getElem?,Array.getElem?_append_left (by simp)]; rfl
end
end Go.Proofs.YtcdceiloganlnaaGreatDoor
namespace Go.Proofs.YtcdceiloganlnaaGreatDoor
open Go.RowKit
inductive Sh where
 | I (k:IntKind)
 | B
 | S
 | L (o:Bool) (z:Nat)
 | Y
 | P
 | H (i j z:Nat)
 | M
 | C
 | pt (i j:Nat)
 | bd (t i:Nat)
 | rf
 | ni
 | fn (n:Nat)
@[reducible] def Sh.V : List Sh → Type
 | []=>Unit
 | .I _::l=>Int×Sh.V l
 | .B::l=>Bool×Sh.V l
 | .S::l=>ByteArray×Sh.V l
 | .L _ _::l=>List PV×Sh.V l
 | .Y::l=>List UInt8×Sh.V l
 | .P::l=>PV×Sh.V l
 | .H _ _ _::l=>Nat×Sh.V l
 | .M::l=>List PV×Sh.V l
 | .C::l=>List PV×Sh.V l
 | .pt _ _::l=>Sh.V l
 | .bd _ _::l=>Sh.V l
 | .rf::l=>Sh.V l
 | .ni::l=>Sh.V l
 | .fn _::l=>Sh.V l
def mkS:(sh:List Sh)→Sh.V sh→List PV
 | [],_ => []
 | .I κ::l,v => .int κ v.1::mkS l v.2
 | .B::l,v => .bool v.1::mkS l v.2
 | .S::l,v => .str v.1::mkS l v.2
 | .L o z::l,v => .sl o z v.1::mkS l v.2
 | .Y::l,v => .slT v.1::mkS l v.2
 | .P::l,v=>v.1::mkS l v.2
 | .H i j z::l,v => .slh i j v.1 z::mkS l v.2
 | .M::l,v => .mp v.1::mkS l v.2
 | .C::l,v => .func (.yield 4242) v.1 []::mkS l v.2
 | .pt i j::l,v => .ptr i j::mkS l v
 | .bd t i::l,v => .bld t i::mkS l v
 | .rf::l,v => .raw .nilFunc::mkS l v
 | .ni::l,v => .raw .nilIface::mkS l v
 | .fn n::l,v => .func (.func n) [] []::mkS l v
def BI:(sh:List Sh)→List PV→Option (Sh.V sh)
 | [],ps=>(match ps with | []=>some () | _::_=>none)
 | .I κ::sh,ps=>(match ps with | .int κ' n::ps=>(match decide (κ'=κ) with | true=>(BI sh ps).map fun v=>(n,v) | false=>none) | _=>none)
 | .B::sh,ps=>(match ps with | .bool n::ps=>(BI sh ps).map fun v=>(n,v) | _=>none)
 | .S::sh,ps=>(match ps with | .str n::ps=>(BI sh ps).map fun v=>(n,v) | _=>none)
 | .L o z::sh,ps=>(match ps with | .sl o' z' n::ps=>(match o'==o&&Nat.beq z' z with | true=>(BI sh ps).map fun v=>(n,v) | false=>none) | _=>none)
 | .Y::sh,ps=>(match ps with | .slT n::ps=>(BI sh ps).map fun v=>(n,v) | _=>none)
 | .P::sh,ps=>(match ps with | n::ps=>(BI sh ps).map fun v=>(n,v) | _=>none)
 | .H i j z::sh,ps=>(match ps with | .slh i' j' n z'::ps=>(match Nat.beq i' i&&Nat.beq j' j&&Nat.beq z' z with | true=>(BI sh ps).map fun v=>(n,v) | false=>none) | _=>none)
 | .M::sh,ps=>(match ps with | .mp n::ps=>(BI sh ps).map fun v=>(n,v) | _=>none)
 | .C::sh,ps=>(match ps with | .func (.yield m) n []::ps=>(match Nat.beq m 4242 with | true=>(BI sh ps).map fun v=>(n,v) | false=>none) | _=>none)
 | .pt i j::sh,ps=>(match ps with | .ptr i' j'::ps=>(match Nat.beq i' i&&Nat.beq j' j with | true=>BI sh ps | false=>none) | _=>none)
 | .bd i j::sh,ps=>(match ps with | .bld i' j'::ps=>(match Nat.beq i' i&&Nat.beq j' j with | true=>BI sh ps | false=>none) | _=>none)
 | .rf::sh,ps=>(match ps with | .raw .nilFunc::ps=>BI sh ps | _=>none)
 | .ni::sh,ps=>(match ps with | .raw .nilIface::ps=>BI sh ps | _=>none)
 | .fn m::sh,ps=>(match ps with | .func (.func n) [] []::ps=>(match Nat.beq n m with | true=>BI sh ps | false=>none) | _=>none)
theorem uC {α β:Type} {o:Option β} {n:α} {v:α×β} (h:(o.map fun v=>(n,v))=some v):n=v.1∧o=some v.2:=by
 cases o with
 | none=>cases h
 | some w=>injection h with h; subst h; exact ⟨rfl,rfl⟩
theorem mP:∀ (sh:List Sh) (ps:List PV) (v:Sh.V sh),BI sh ps=some v→mkS sh v=ps
 | [],ps,v,h=>by
  unfold BI at h; split at h
  ·rfl
  ·cases h
 | .I κ::sh,ps,v,h=>by
  unfold BI at h; split at h
  ·split at h
   ·rename_i hk; have hk:=of_decide_eq_true hk; subst hk
    obtain ⟨e1,e2⟩:=uC h; unfold mkS; rw[mP sh _ _ e2,e1]
   ·cases h
  ·cases h
 | .B::sh,ps,v,h | .S::sh,ps,v,h | .Y::sh,ps,v,h | .P::sh,ps,v,h | .M::sh,ps,v,h=>by
  unfold BI at h; split at h
  ·obtain ⟨e1,e2⟩:=uC h; unfold mkS; rw[mP sh _ _ e2,e1]
  ·cases h
 | .L o z::sh,ps,v,h=>by
  unfold BI at h; split at h
  ·split at h
   ·rename_i hk; simp only[Bool.and_eq_true,beq_iff_eq,Nat.beq_eq] at hk; obtain ⟨rfl,rfl⟩:=hk
    obtain ⟨e1,e2⟩:=uC h; unfold mkS; rw[mP sh _ _ e2,e1]
   ·cases h
  ·cases h
 | .H i j z::sh,ps,v,h=>by
  unfold BI at h; split at h
  ·split at h
   ·rename_i hk; simp only[Bool.and_eq_true,Nat.beq_eq] at hk; obtain ⟨⟨rfl,rfl⟩,rfl⟩:=hk
    obtain ⟨e1,e2⟩:=uC h; unfold mkS; rw[mP sh _ _ e2,e1]
   ·cases h
  ·cases h
 | .C::sh,ps,v,h=>by
  unfold BI at h; split at h
  ·split at h
   ·rename_i hk; simp only[Nat.beq_eq] at hk; subst hk
    obtain ⟨e1,e2⟩:=uC h; unfold mkS; rw[mP sh _ _ e2,e1]
   ·cases h
  ·cases h
 | .pt i j::sh,ps,v,h | .bd i j::sh,ps,v,h=>by
  unfold BI at h; split at h
  ·split at h
   ·rename_i hk; simp only[Bool.and_eq_true,Nat.beq_eq] at hk; obtain ⟨rfl,rfl⟩:=hk
    unfold mkS; rw[mP sh _ _ h]
   ·cases h
  ·cases h
 | .rf::sh,ps,v,h | .ni::sh,ps,v,h=>by
  unfold BI at h; split at h
  ·unfold mkS; rw[mP sh _ _ h]
  ·cases h
 | .fn m::sh,ps,v,h=>by
  unfold BI at h; split at h
  ·split at h
   ·rename_i hk; simp only[Nat.beq_eq] at hk; subst hk
    unfold mkS; rw[mP sh _ _ h]
   ·cases h
  ·cases h
def zS:List Sh→List PV
 | [] => []
 | .pt i j::l => .ptr i j::zS l
 | .bd t i::l => .bld t i::zS l
 | .rf::l => .raw .nilFunc::zS l
 | .ni::l => .raw .nilIface::zS l
 | .fn n::l => .func (.func n) [] []::zS l
 | _::l => .nilp::zS l
def zOK:List Sh→Bool
 | []=>true
 | .pt _ _::l | .bd _ _::l | .rf::l | .ni::l | .fn _::l=>zOK l
 | _::_=>false
theorem QR:∀ (l:List Sh) (v:Sh.V l),zOK l=true→mkS l v=zS l
 | [],_,_=>rfl
 | .pt i j::l,v,h=>congrArg (_ :: ·) (QR l v h)
 | .bd i j::l,v,h=>congrArg (_ :: ·) (QR l v h)
 | .rf::l,v,h=>congrArg (_ :: ·) (QR l v h)
 | .ni::l,v,h=>congrArg (_ :: ·) (QR l v h)
 | .fn n::l,v,h=>congrArg (_ :: ·) (QR l v h)
 | .I _::_,_,h | .B::_,_,h | .S::_,_,h | .L _ _::_,_,h | .Y::_,_,h | .P::_,_,h | .H _ _ _::_,_,h | .M::_,_,h | .C::_,_,h=>by cases h
@[reducible] def TV : List (Bool × List Sh) → Type
 | []=>Unit
 | b::l=>Sh.V b.2×TV l
def mkT:(sh:List (Bool×List Sh))→TV sh→List PV
 | [],_ => []
 | b::l,v=>bif b.1 then .agg (mkS b.2 v.1)::mkT l v.2 else (mkS b.2 v.1).headD .nilp::mkT l v.2
def rdT:(sh:List (Bool×List Sh))→List PV→Option (TV sh)
 | [],ps=>(match ps with | []=>some () | _::_=>none)
 | (true,l)::sh,ps=>(match ps with | .agg cs::ps=>(match BI l cs with | some v=>(rdT sh ps).map fun w=>(v,w) | none=>none) | _=>none)
 | (false,l)::sh,ps=>(match ps with | p::ps=>(match BI l [p] with | some v=>(rdT sh ps).map fun w=>(v,w) | none=>none) | _=>none)
theorem a9E:∀ (sh:List (Bool×List Sh)) (ps:List PV) (v:TV sh),rdT sh ps=some v→mkT sh v=ps
 | [],ps,v,h=>by
  unfold rdT at h; split at h
  ·rfl
  ·cases h
 | (true,l)::sh,ps,v,h=>by
  unfold rdT at h; split at h
  ·split at h
   ·rename_i e
    obtain ⟨e1,e2⟩:=uC h; unfold mkT; rw[a9E sh _ _ e2,← e1,mP _ _ _ e]; rfl
   ·cases h
  ·cases h
 | (false,l)::sh,ps,v,h=>by
  unfold rdT at h; split at h
  ·split at h
   ·rename_i e
    obtain ⟨e1,e2⟩:=uC h; unfold mkT; rw[a9E sh _ _ e2,← e1,mP _ _ _ e]; rfl
   ·cases h
  ·cases h
inductive RS where
 | ti (k:IntKind)
 | tb
 | ts
 | tl (o:Bool) (z:Nat)
 | tp
 | z (c:Sh)
 | o (c:Sh)
 | g (l:List Sh)
 | t (l:List (Bool×List Sh))
@[reducible] def RS.F : RS → Type → Type
 | .ti _,T=>Int→T
 | .tb,T=>Bool→T
 | .ts,T=>ByteArray→T
 | .tl _ _,T=>List PV→T
 | .tp,T=>PV→T
 | .z _,T=>T
 | .o c,T=>Sh.V [c]→T
 | .g l,T=>Sh.V l→T
 | .t l,T=>TV l→T
def gvV (sh:List Sh) (p:PV) {T:Type} (K:Sh.V sh→Option T):Option T:=match p with | .agg cs=>(match BI sh cs with | some v=>K v | none=>none) | _=>none
def tvV (sh:List (Bool×List Sh)) (p:PV) {T:Type} (K:TV sh→Option T):Option T:=match p with | .tuple cs=>(match rdT sh cs with | some v=>K v | none=>none) | _=>none
def oV (s:Sh) (p:PV) {T:Type} (K:Sh.V [s]→Option T):Option T:=match BI [s] [p] with | some v=>K v | none=>none
def rvV:(rs:RS)→PV→RS.F rs R→R
 | .ti k,p,K=>vI k p K
 | .tb,p,K=>vB p K
 | .ts,p,K=>vS p K
 | .tl o z,p,K=>vL o z p K
 | .tp,p,K=>K p
 | .z c,p,K=>aC (zOK [c]) (oV c p fun _=>K) none
 | .o c,p,K=>oV c p K
 | .g l,p,K=>gvV l p K
 | .t l,p,K=>tvV l p K
def WO:(rs:RS) → {T:Type}→(PV→T)→RS.F rs T
 | .ti k,_,K=>fun n=>K (.int k n)
 | .tb,_,K=>fun n=>K (.bool n)
 | .ts,_,K=>fun n=>K (.str n)
 | .tl o z,_,K=>fun n=>K (.sl o z n)
 | .tp,_,K=>fun p=>K p
 | .z c,_,K=>K ((zS [c]).headD .nilp)
 | .o c,_,K=>fun v=>K ((mkS [c] v).headD .nilp)
 | .g l,_,K=>fun v=>K (.agg (mkS l v))
 | .t l,_,K=>fun v=>K (.tuple (mkT l v))
theorem aZ6 (s:Sh) (p:PV):(∀ K:PV→R,oV s p (fun v=>K ((mkS [s] v).headD .nilp))=K p)∨(∀ K:Sh.V [s]→R,oV s p K=none):=by
 unfold oV
 cases e:BI [s] [p] with
 | none=>exact .inr fun _=>rfl
 | some v=>exact .inl fun K=>by show K _=K _; rw[mP _ _ _ e]; rfl
theorem aU0 (l:List Sh) (p:PV):(∀ K:PV→R,gvV l p (fun v=>K (.agg (mkS l v)))=K p)∨(∀ K:PV→R,gvV l p (fun v=>K (.agg (mkS l v)))=none):=by
 unfold gvV
 cases p with
 | agg cs =>
  dsimp only
  cases e:BI l cs with
  | none=>exact .inr fun _=>rfl
  | some v=>exact .inl fun K=>by show K _=K _; rw[mP _ _ _ e]
 | _=>exact .inr fun _=>rfl
theorem aWY (l:List (Bool×List Sh)) (p:PV):(∀ K:PV→R,tvV l p (fun v=>K (.tuple (mkT l v)))=K p)∨(∀ K:PV→R,tvV l p (fun v=>K (.tuple (mkT l v)))=none):=by
 unfold tvV
 cases p with
 | tuple cs =>
  dsimp only
  cases e:rdT l cs with
  | none=>exact .inr fun _=>rfl
  | some v=>exact .inl fun K=>by show K _=K _; rw[a9E _ _ _ e]
 | _=>exact .inr fun _=>rfl
theorem aJW (rs:RS) (p:PV):(∀ K:PV→R,rvV rs p (WO rs K)=K p)∨(∀ K:PV→R,rvV rs p (WO rs K)=none):=by
 cases rs with
 | ti k=>exact mQ k p
 | tb=>exact O7 p
 | ts=>exact a4E p
 | tl o z=>exact jE o z p
 | tp=>exact .inl fun _=>rfl
 | z s =>
  cases hz:zOK [s] with
  | false=>exact .inr fun K=>by show aC (zOK [s]) _ _=_; rw[hz,aA]
  | true =>
   cases h:BI [s] [p] with
   | none=>exact .inr fun K=>by show aC (zOK [s]) (oV s p _) _=_; rw[hz,aB]; unfold oV; rw[h]
   | some v =>
    have h1:=mP _ _ _ h
    have h2:=QR [s] v hz
    exact .inl fun K=>by
     show aC (zOK [s]) (oV s p fun _=>K ((zS [s]).headD .nilp)) _=_
     rw[hz,aB,← h2,h1]; unfold oV; rw[h]; rfl
 | o s =>
  rcases aZ6 s p with e | e
  ·exact .inl e
  ·exact .inr fun K=>e _
 | g l=>exact aU0 l p
 | t l=>exact aWY l p
inductive OS where
 | c (l:List Sh)
 | z (l:List Sh)
 | a
@[reducible] def yZ : List OS → Type
 | []=>R
 | .c l::os=>Sh.V l→yZ os
 | .z _::os=>yZ os
 | .a::os=>List PV→yZ os
def YP:(os:List OS)→aG→yZ os→R
 | [],h,f=>(match h with | []=>f | _::_=>none)
 | .c l::os,h,f=>(match h with | some cs::h=>(match BI l cs with | some v=>YP os h (f v) | none=>none) | _=>none)
 | .z l::os,h,f=>(match h with | some cs::h=>(match BI l cs with | some _=>YP os h f | none=>none) | _=>none)
 | .a::os,h,f=>(match h with | some cs::h=>YP os h (f cs) | _=>none)
def NF:(os:List OS)→(aG→R)→yZ os
 | [],K=>K []
 | .c l::os,K=>fun v=>NF os fun h=>K (some (mkS l v)::h)
 | .z l::os,K=>NF os fun h=>aC (zOK l) (K (some (zS l)::h)) none
 | .a::os,K=>fun cs=>NF os fun h=>K (some cs::h)
theorem ZY:∀ (os:List OS) (h:aG),(∀ K:aG→R,YP os h (NF os K)=K h)∨(∀ K:aG→R,YP os h (NF os K)=none)
 | [],[] => .inl fun _=>rfl
 | [],_::_ => .inr fun _=>rfl
 | .c l::os,h=>by
  unfold YP
  split
  ·rename_i cs h
   cases e:BI l cs with
   | none=>exact .inr fun _=>rfl
   | some v =>
    have:=mP _ _ _ e
    subst this
    rcases ZY os h with e2 | e2
    ·exact .inl fun K=>e2 _
    ·exact .inr fun K=>e2 _
  ·exact .inr fun _=>rfl
 | .z l::os,h=>by
  unfold YP
  split
  ·rename_i cs h
   cases e:BI l cs with
   | none=>exact .inr fun _=>rfl
   | some v =>
    have:=mP _ _ _ e
    subst this
    rcases ZY os h with e2 | e2
    ·cases hz:zOK l with
     | true =>
      refine .inl fun K=>(e2 _).trans ?_
      show aC (zOK l) _ _=_
      rw[hz,aB,← QR l v hz]
     | false =>
      refine .inr fun K=>(e2 _).trans ?_
      show aC (zOK l) _ _=_
      rw[hz,aA]
    ·exact .inr fun K=>e2 _
  ·exact .inr fun _=>rfl
 | .a::os,h=>by
  unfold YP
  split
  ·rename_i cs h
   rcases ZY os h with e2 | e2
   ·exact .inl fun K=>e2 _
   ·exact .inr fun K=>e2 _
  ·exact .inr fun _=>rfl
def hvK:(rs:RS)→(os:List OS)→aG→RS.F rs (yZ os)→RS.F rs R
 | .ti _,os,h,K=>fun n=>YP os h (K n)
 | .tb,os,h,K=>fun n=>YP os h (K n)
 | .ts,os,h,K=>fun n=>YP os h (K n)
 | .tl _ _,os,h,K=>fun n=>YP os h (K n)
 | .tp,os,h,K=>fun n=>YP os h (K n)
 | .z _,os,h,K=>YP os h K
 | .o _,os,h,K=>fun n=>YP os h (K n)
 | .g _,os,h,K=>fun n=>YP os h (K n)
 | .t _,os,h,K=>fun n=>YP os h (K n)
def hv (rs:RS) (os:List OS) (p:PV) (h:aG) (K:RS.F rs (yZ os)):R:=rvV rs p (hvK rs os h K)
def pack (rs:RS) (os:List OS) (K:PV→aG→R):RS.F rs (yZ os):=WO rs fun p=>NF os (K p)
theorem aGH (rs:RS) (os:List OS) (h:aG) (K:PV→aG→R):hvK rs os h (pack rs os K)=WO rs fun p=>YP os h (NF os (K p)):=by
 cases rs<;>rfl
theorem a_4 (rs:RS) (os:List OS) (p:PV) (h:aG):(∀ K:PV→aG→R,hv rs os p h (pack rs os K)=K p h)∨(∀ K:PV→aG→R,hv rs os p h (pack rs os K)=none):=by
 have hh:∀ K:PV→aG→R,hv rs os p h (pack rs os K)=rvV rs p (WO rs fun p=>YP os h (NF os (K p))):=fun K=>by unfold hv; rw[aGH]
 rcases aJW rs p with e | e
 ·rcases ZY os h with e2 | e2
  ·exact .inl fun K=>(hh K).trans ((e _).trans (e2 _))
  ·exact .inr fun K=>(hh K).trans ((e _).trans (e2 _))
 ·exact .inr fun K=>(hh K).trans (e _)
abbrev zX (sh:List Sh) (l:List PV) (n:Int) (K:Sh.V sh→R):R:=fU l n fun e=>gvV sh e K
def shC:List Sh→List PV→Bool
 | [],ps=>ps.isEmpty
 | s::sh,ps=>(match ps with
  | []=>false
  | p::ps=>(match s,p with
   | .I κ,.int κ' _=>decide (κ'=κ)
   | .B,.bool _=>true
   | .S,.str _=>true
   | .L o z,.sl o' z' _=>o'==o&&Nat.beq z' z
   | .Y,.slT _=>true
   | .P,_=>true
   | .H i j z,.slh i' j' _ z'=>Nat.beq i' i&&Nat.beq j' j&&Nat.beq z' z
   | .M,.mp _=>true
   | .C,.func (.yield n) _ []=>Nat.beq n 4242
   | .pt i j,.ptr i' j'=>Nat.beq i' i&&Nat.beq j' j
   | .bd t i,.bld t' i'=>Nat.beq t' t&&Nat.beq i' i
   | .rf,.raw .nilFunc=>true
   | .ni,.raw .nilIface=>true
   | .fn m,.func (.func n) [] []=>Nat.beq n m
   | _,_=>false)&&shC sh ps)
def shO:List OS→aG→Bool
 | [],h=>h.isEmpty
 | .c l::os,h=>(match h with | some cs::h=>shC l cs&&shO os h | _=>false)
 | .z l::os,h=>(match h with | some cs::h=>shC l cs&&shO os h | _=>false)
 | .a::os,h=>(match h with | some _::h=>shO os h | _=>false)
def tl {α:Type} (g k:Nat) (a b:α):α:=bif Nat.blt g k then a else b
def te {α:Type} (g k:Nat) (a b:α):α:=bif Nat.beq g k then a else b
def VVt (t:TypeId→Option RS) (i:TypeId) (p:PV) (K:PV→R):R:=match t i with | some rs=>rvV rs p (WO rs K) | none=>K p
theorem aXZ (t:TypeId→Option RS):nZ (VVt t):=fun i p=>by
 unfold VVt
 cases t i with
 | none=>exact .inl fun _=>rfl
 | some rs=>exact aJW rs p
abbrev jI:=List OS×RS×List OS
def WWl:List jI→aG→PV→aG→(PV→aG→R)→R
 | [],_,r,h,K=>K r h
 | w::l,h0,r,h,K=>aC (shO w.1 h0) (hv w.2.1 w.2.2 r h (pack w.2.1 w.2.2 K)) (WWl l h0 r h K)
theorem aI6:∀ (l:List jI) (h0:aG) (r:PV) (h:aG),(∀ K:PV→aG→R,WWl l h0 r h K=K r h)∨(∀ K:PV→aG→R,WWl l h0 r h K=none)
 | [],_,_,_ => .inl fun _=>rfl
 | w::l,h0,r,h=>eP (a_4 w.2.1 w.2.2 r h) (aI6 l h0 r h)
def WWt (t:FuncId→List jI) (g:FuncId):aG→PV→aG→(PV→aG→R)→R:=WWl (t g)
theorem aVX (t:FuncId→List jI):oH (WWt t):=fun g h r h'=>aI6 (t g) h r h'
theorem CCk {S:SE} (hS:S.OK) {g:FuncId} {args:List PV} {h:aG} {v:R} (h0:S.C0 g args h=none) (e:S.run S.CC S.LL g args h=v):S.CC g args h=v:=(jY hS h0).trans e
theorem LLk {S:SE} (hS:S.OK) {E:AE} {m0:Nat} {l:List Nat} {m:Nat} {x:Code} {K:AX→ASt→R} {σ:ASt} {v:R} (hm:m0≤m) (hg:EO l m σ=true) (hP:S.wp E=E)
 (e:chk (y9 l m σ) (gW (S.xe S.CC S.LL E m0) x (qU (fun σ'=>S.LL E m0 l m x K (σ'.gc l m)) K) (σ.gc l m))=v):S.LL E m0 l m x K σ=v:=(EE hS hm hg hP).trans e
abbrev KT:=AX→ASt→R
def aZ8:Nat→Nat→List Bool
 | 0,_ => []
 | k+1,n=>match Nat.ble n 1 with | true => [] | false=>Nat.beq (n % 2) 1::aZ8 k (n / 2)
def cS (f:Func) (p:Nat):Code:=Code.sub (aZ8 99 p) (jC f)
noncomputable def SE.xX (S:SE) (f n m:Nat):XE:=S.xe S.CC S.LL (S.ae f n) m
noncomputable def SE.rK (S:SE) (f:Func) (g m:Nat) (fl:List Nat):KT:=a06 S.P f.results.toList (S.prm g).ro m fl
noncomputable def SE.jK (S:SE) (f n m:Nat) (c:Code) (K:KT):KT:=qU (qC (S.ae f n) m c (gW (S.xX f n m) c K)) K
noncomputable def SE.lK (S:SE) (f n m:Nat) (l:List Nat) (k:Nat) (c:Code) (K:KT):KT:=qU (fun σ=>S.LL (S.ae f n) m l k c K (σ.gc l k)) K
noncomputable def agN:Nat→R→R
 | 0,a=>a
 | n+1,a=>UF a (agN n a)
theorem aH':∀ (n:Nat) (a:R),agN n a=a
 | 0,_=>rfl
 | n+1,a=>by rw[agN,aH' n,I4]
def agX (F:(Nat→R→R)→R):R:=F fun _ a=>a
theorem agF {v:R} {F:(Nat→R→R)→R} (h:v=F agN):v=agX F:=by
 rw[show agN=fun _ a=>a from funext fun n=>funext fun a=>aH' n a] at h
 exact h
end Go.Proofs.YtcdceiloganlnaaGreatDoor
namespace Go.Proofs.YtcdceiloganlnaaGreatDoor
open Go.RowKit
section
variable {S:SE}
noncomputable def SE.lopT (S:SE) (T:Cal):Nat→Lop
 | 0=>fun _ _ _ _ _ _ _=>none
 | n+1=>S.turn T (S.lopT T n)
noncomputable def SE.stepT (S:SE) (T:Cal) (n:Nat) (g:FuncId) (args:List PV) (h:aG):R:=orR (S.C0 g args h) (S.run T (S.lopT T n) g args h)
def aBW (T C:Cal):Prop:=∀ g args h v,T g args h=some v→C g args h=some v
theorem aBC (hS:S.OK) {T:Cal} (hT:aBW T S.CC):∀ (n:Nat) (E:AE) (m0:Nat) (l:List Nat) (m:Nat) (x:Code) (K K':AX→ASt→R) (σ:ASt) (v:PV×aG),(∀ e σ v,K e σ=some v→K' e σ=some v)→S.lopT T n E m0 l m x K σ=some v→S.LL E m0 l m x K' σ=some v
 | 0,_,_,_,_,_,_,_,_,_,_,h=>by cases h
 | n+1,E,m0,l,m,x,K,K',σ,v,hK,hv=>by
  have hC:∀ g args h,vM fun i=>(bif i then S.CC else T) g args h:=fun g args h v hv=>hT g args h v hv
  have hL:∀ (E:AE) (m0:Nat) (l:List Nat) (m:Nat) (x:Code) (K:Bool→AX→ASt→R) (σ:ASt),(∀ e σ,vM fun i=>K i e σ)→vM fun i=>(bif i then S.LL else S.lopT T n) E m0 l m x (K i) σ :=
   fun E m0 l m x K σ hK v hv=>aBC hS hT n E m0 l m x _ _ σ v (fun e σ v h=>hK e σ v h) hv
  rw[aBM hS]
  exact D6 RQ hS hC hL (K:=fun i=>bif i then K' else K) (fun e σ v h=>hK e σ v h) v hv
theorem a5Y (hS:S.OK) {T:Cal} (hT:aBW T S.CC) (n:Nat) {g:FuncId} {args:List PV} {h:aG} {v:PV×aG} (e:S.stepT T n g args h=some v):S.CC g args h=some v:=by
 have hC:∀ g args h,vM fun i=>(bif i then S.CC else T) g args h:=fun g args h v hv=>hT g args h v hv
 have hL:∀ (E:AE) (m0:Nat) (l:List Nat) (m:Nat) (x:Code) (K:Bool→AX→ASt→R) (σ:ASt),(∀ e σ,vM fun i=>K i e σ)→vM fun i=>(bif i then S.LL else S.lopT T n) E m0 l m x (K i) σ :=
  fun E m0 l m x K σ hK v hv=>aBC hS hT n E m0 l m x _ _ σ v (fun e σ v h=>hK e σ v h) hv
 rw[XP hS]
 exact Z4 RQ (TY RQ hS hC hL) v e
structure Ans where
 g:FuncId
 args:List PV
 h:aG
 v:PV×aG
def aL8:List Ans→Cal
 | [],_,_,_=>none
 | a::l,g,args,h=>(match Nat.beq a.g g&&(PV.eqbL a.args args&&VM a.h h) with | true=>some a.v | false=>aL8 l g args h)
theorem a9W {C:Cal}:∀ {l:List Ans},(∀ a,a∈l→C a.g a.args a.h=some a.v)→aBW (aL8 l) C
 | [],_,_,_,_,_,h=>by cases h
 | a::l,hl,g,args,h,v,hv=>by
  unfold aL8 at hv
  split at hv
  ·rename_i hc
   simp only[Bool.and_eq_true] at hc
   injection hv with hv
   have h1:=Nat.eq_of_beq_eq_true hc.1
   have h2:=PV.eqbL_eq hc.2.1
   have h3:=P8 hc.2.2
   rw[← h1,← h2,← h3,← hv]
   exact hl a (by simp)
  ·exact a9W (fun b hb=>hl b (List.mem_cons_of_mem _ hb)) g args h v hv
theorem aH {C:Cal}:∀ a,a∈([]:List Ans)→C a.g a.args a.h=some a.v:=fun _ h=>by cases h
theorem aIS {C:Cal} {a:Ans} {l:List Ans} (h:C a.g a.args a.h=some a.v) (hl:∀ a,a∈l→C a.g a.args a.h=some a.v):∀ b,b∈a::l→C b.g b.args b.h=some b.v:=fun b hb=>by
 rcases List.mem_cons.1 hb with rfl | hb
 ·exact h
 ·exact hl b hb
noncomputable def SE.memo (S:SE) (l:List Ans) (n:Nat):Cal:=fun g args h=>match aL8 l g args h with
 | some v=>some v
 | none=>(S.sem n).1 g args h
theorem aO6 (hS:S.OK) {l:List Ans} (hl:∀ a,a∈l→S.CC a.g a.args a.h=some a.v) (n:Nat):aBW (S.memo l n) S.CC:=fun g args h v hv=>by
 unfold SE.memo at hv
 split at hv
 ·rename_i w hw
  injection hv with hv; subst hv
  exact a9W hl g args h _ hw
 ·exact rQ hS n hv
theorem a1R (hS:S.OK) (m:Nat) {l:List Ans} (hl:∀ a,a∈l→S.CC a.g a.args a.h=some a.v) (n:Nat) {a:Ans} (e:S.stepT (S.memo l m) n a.g a.args a.h=some a.v):S.CC a.g a.args a.h=some a.v:=a5Y hS (aO6 hS hl m) n e
end
end Go.Proofs.YtcdceiloganlnaaGreatDoor

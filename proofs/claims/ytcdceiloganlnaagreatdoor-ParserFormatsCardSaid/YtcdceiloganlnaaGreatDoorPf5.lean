/- A part of the proof. -/
import Derived.Test.YtcdceiloganlnaaGreatDoorPf4
import Derived.Test.YtcdceiloganlnaaGreatDoorPf3
import Derived.ProofKit
import Derived.SizedLaws
import Derived.ChangeArms
import Derived.OpenShut
import Derived.ChangeOld
import Derived.Deep.DeepHandedRow
import Derived.Lib.LaidTab
import Derived.Shelf.LaysM
import Derived.Test.YtcdceiloganlnaaGreatDoorRows
import Derived.Test.YtcdceiloganlnaaGreatDoorCards
import Derived.Test.YtcdceiloganlnaaGreatDoorTie
import Derived.Stop.LaidErr
import Derived.JoinedOf
set_option linter.unusedVariables false
set_option linter.unusedSimpArgs false
set_option linter.unnecessarySimpa false
set_option linter.unusedSectionVars false
noncomputable section
open Go.IntKind (i64)
namespace Go.Proofs.YtcdceiloganlnaaGreatDoor.W
open Go.RowKit
theorem fP {C:Cal} {g:FuncId} {a:bTA} {h:aG} {F:PV->aG->R} {r:PV} {h':aG} {v:R} (e:C g a h=some (r,h')) (e2:F r h'=v):zq C g a h F=v:=by unfold zq; rw[e]; exact e2
theorem rZ {C:Cal} {g:FuncId} {a:bTA} {F:PV->R} {r:PV} {v:R} (e:C g a []=some (r,[])) (e2:F r=v):jJ C g a F=v:=by unfold jJ; rw[e]; exact e2
theorem WS {g:FuncId} {a:bTA} {n1:bT9} {n2:Int} {K:RS.F (.t [(false,[.S]),(false,[.I .i64])]) R} (e:SS.CC g a []=some (.tuple [.str n1,bT6 n2],[])):G0 g a K=K ((n1,()),(n2,()),()):=rZ e rfl
theorem eP {g:FuncId} {a:bTA} {n1:Int} {K:RS.F (.ti .i64) R} (e:SS.CC g a []=some (bT6 n1,[])):G1 g a K=K n1:=rZ e rfl
theorem a1Z {g:FuncId} {a:bTA} {n1:bTA} {n2:Int} {n3:Int} {n4:Int} {K:RS.F (.t [(false,[.L false 5]),(false,[.I .i64]),(false,[.I .i64]),(false,[.I .i64])]) R} (e:SS.CC g a []=some (.tuple [.sl false 5 n1,bT6 n2,bT6 n3,bT6 n4],[])):G13 g a K=K ((n1,()),(n2,()),(n3,()),(n4,()),()):=rZ e rfl
theorem wJ {g:FuncId} {a:bTA} {s1:bT9} {K:RS.F (.ts) R} (e:SS.CC g a []=some (.str s1,[])):G2 g a K=K s1:=rZ e rfl
theorem gQ {g:FuncId} {a:bTA} {x1:Sh.V S1} {K:RS.F (.g S1) R} (e:SS.CC g a []=some (A1 x1,[])):rP g a K=K x1:=rZ e rfl
theorem bV {g:FuncId} {a:bTA} {b1:Bool} {K:RS.F (.tb) R} (e:SS.CC g a []=some (.bool b1,[])):G3 g a K=K b1:=rZ e rfl
theorem aCK {g:FuncId} {a:bTA} {n1:Int} {n2:Bool} {K:RS.F (.t [(false,[.I .i64]),(false,[.B])]) R} (e:SS.CC g a []=some (.tuple [bT6 n1,.bool n2],[])):G37 g a K=K ((n1,()),(n2,()),()):=rZ e rfl
theorem wK {g:FuncId} {a:bTA} {l1:bTA} {K:RS.F (.tl false 1) R} (e:SS.CC g a []=some (bT7 l1,[])):G4 g a K=K l1:=rZ e rfl
theorem aTN {g:FuncId} {a:bTA} {n1:Int} {n2:Int} {K:RS.F (.t [(false,[.I .i64]),(false,[.I .i64])]) R} (e:SS.CC g a []=some (.tuple [bT6 n1,bT6 n2],[])):G6 g a K=K ((n1,()),(n2,()),()):=rZ e rfl
theorem WU {g:FuncId} {a:bTA} {l1:bTA} {K:RS.F (.tl true 1) R} (e:SS.CC g a []=some (.sl true 1 l1,[])):G7 g a K=K l1:=rZ e rfl
theorem bM {g:FuncId} {a:bTA} {h:aG} {y1:Sh.V gY} {K:RS.F (.t []) (di [.c gY])} (e:SS.CC g a h=some (.tuple [],[aF y1])):aU g a h K=K () y1:=fP e rfl
theorem aTV {g:FuncId} {a:bTA} {h:aG} {y1:Sh.V aI} {K:RS.F (.z (.pt 0 0)) (di [.c aI])} (e:SS.CC g a h=some (bT8,[aB y1])):H14 g a h K=K y1:=fP e rfl
theorem jG {g:FuncId} {a:bTA} {h:aG} {y1:Sh.V aI} {K:RS.F (.t []) (di [.c aI])} (e:SS.CC g a h=some (.tuple [],[aB y1])):dw g a h K=K () y1:=fP e rfl
theorem aCU {g:FuncId} {a:bTA} {h:aG} {n1:Int} {n2:Int} {n3:Int} {y4:Sh.V aI} {K:RS.F (.t [(false,[.I .i64]),(false,[.I .i64]),(false,[.I .i64])]) (di [.c aI])} (e:SS.CC g a h=some (.tuple [bT6 n1,bT6 n2,bT6 n3],[aB y4])):H17 g a h K=K ((n1,()),(n2,()),(n3,()),()) y4:=fP e rfl
theorem WX {g:FuncId} {a:bTA} {h:aG} {n1:Int} {y2:Sh.V NJ} {K:RS.F (.ti .i64) (di [.c NJ])} (e:SS.CC g a h=some (bT6 n1,[kL y2])):H19 g a h K=K n1 y2:=fP e rfl
theorem jH {g:FuncId} {a:bTA} {h:aG} {x1:Sh.V lT} {y2:Sh.V aI} {K:RS.F (.g lT) (di [.c aI])} (e:SS.CC g a h=some (ng x1,[aB y2])):ji g a h K=K x1 y2:=fP e rfl
theorem Ag {g:FuncId} {a:bTA} {h:aG} {s1:bT9} {y2:Sh.V aI} {K:RS.F (.ts) (di [.c aI])} (e:SS.CC g a h=some (.str s1,[aB y2])):Af g a h K=K s1 y2:=fP e rfl
theorem dW {g:FuncId} {a:bTA} {h:aG} {b1:Bool} {y2:Sh.V aI} {K:RS.F (.tb) (di [.c aI])} (e:SS.CC g a h=some (.bool b1,[aB y2])):iU g a h K=K b1 y2:=fP e rfl
theorem Qj {g:FuncId} {a:bTA} {h:aG} {b1:Bool} {y2:Sh.V vC} {K:RS.F (.tb) (di [.c vC])} (e:SS.CC g a h=some (.bool b1,[ig y2])):yc g a h K=K b1 y2:=fP e rfl
theorem nz {g:FuncId} {a:bTA} {h:aG} {y1:Sh.V gY} {K:RS.F (.t []) (di [.z lU,.c gY])} (e:SS.CC g a h=some (.tuple [],[some [.ptr 1 0],aF y1])):eQ g a h K=K () y1:=fP e rfl
theorem WY {g:FuncId} {a:bTA} {h:aG} {n1:Int} {y2:Sh.V aI} {K:RS.F (.ti .i64) (di [.c aI])} (e:SS.CC g a h=some (bT6 n1,[aB y2])):N7 g a h K=K n1 y2:=fP e rfl
set_option maxRecDepth 1000000
section
theorem a'5 (a0:bT9):SS.CC 100 [.str a0] []=G13 99 [.str a0] fun u1=>some (bT8,[aB (u1.1.1,u1.2.1.1,u1.2.2.1.1,u1.2.2.2.1.1,())]):=cc
theorem a'6 (h0:Sh.V aI):SS.CC 104 [bT8] [aB h0]=aA (h0.2.2.2.1==0) (some (.tuple [bT6 0,bT6 0,bT6 0],[aB h0])) (some (.tuple [bT6 h0.2.1,bT6 h0.2.2.1,bT6 h0.2.2.2.1],[aB h0])):=cc
theorem a_H (a1:bT9) (h0:Sh.V aI):SS.CC 128 [bT8,.str a1] [aB h0]=iU 197 [bT8,.str a1] [aB h0] fun b1 u2=>aA (!b1) (dw 133 [bT8,bT6 14] [aB u2] fun _ u8=>some (.tuple [],[aB u8])) (some (.tuple [],[aB u2])):=cc
theorem a_I (h0:Sh.V aI):SS.CC 129 [bT8] [aB h0]=ji 131 [bT8] [aB h0] fun u1 u6=>aA (u1.1 != 1) (dw 133 [bT8,bT6 14] [aB u6] fun _ u12=>some (.str ⟨#[]⟩,[aB u12])) (ji 220 [bT8] [aB u6] fun ku u23=>some (.str ku.2.1,[aB u23])):=cc
theorem a_K (h0:Sh.V aI):SS.CC 131 [bT8] [aB h0]=aA (h0.2.2.2.1 != 0) (some (ng (4,⟨#[]⟩,0,h0.2.1,h0.2.2.1,()),[aB h0])) (bf lT h0.1 0 fun u2=>some (ng u2,[aB h0])):=cc
theorem a_L (a1:Int) (h0:Sh.V aI):SS.CC 133 [bT8,bT6 a1] [aB h0]=o6 fun ag=>aA (h0.2.2.2.1 != 0) (some (.tuple [],[aB h0])) (aA (a1==0) (some (.tuple [],[aB h0])) (ji 131 [bT8] [aB h0] fun u1 u6=>ag 1 (some (.tuple [],[aB (u6.1,u1.2.2.2.1,u1.2.2.2.2.1,a1,())])))):=BA cc
theorem b2W (a1:bT9) (h0:Sh.V aI):SS.CC 197 [bT8,.str a1] [aB h0]=iU 257 [bT8,.str a1] [aB h0] fun b1 u2=>aA b1 (ji 220 [bT8] [aB u2] fun u8 u13=>some (.bool b1,[aB u13])) (some (.bool b1,[aB u2])):=cc
theorem b3I (h0:Sh.V aI):SS.CC 220 [bT8] [aB h0]=ji 131 [bT8] [aB h0] fun u1 u6=>aA (u6.2.2.2.1==0) (aA (u1.1 != 4) (chk (decide (0<=1)&&decide (1<=(u6.1.length:Int))) (some (ng u1,[aB ((u6.1.drop (1:Int).toNat),u6.2.1,u6.2.2.1,u6.2.2.2.1,())]))) (some (ng u1,[aB u6]))) (some (ng u1,[aB u6])):=cc
theorem b59 (a1:bT9) (h0:Sh.V aI):SS.CC 257 [bT8,.str a1] [aB h0]=ji 131 [bT8] [aB h0] fun u1 u6=>aA (u1.1==1) (some (.bool (u1.2.1.toList==a1.toList),[aB u6])) (aA (u1.1==3) (some (.bool (u1.2.1.toList==a1.toList),[aB u6])) (some (.bool false,[aB u6]))):=cc
def b5S:KT:=SS.rK Tryz.f276 276 1 []
def Sm (x1:Int) (x2:Int) (q0:Sh.V aI) (x7:Int):R:=bG (SS.xX 276 47 1) (cS Tryz.f276 15) b5S ⟨[(0,bT8),(1,bT6 x1),(2,bT6 x2),(7,bT6 x7)],[aB q0]⟩
theorem b5R (x1:Int) (x2:Int) (q0:Sh.V aI) (x7:Int):Sm x1 x2 q0 x7=ji 131 [bT8] [aB q0] fun u1 u6=>aA (u1.1 != 2) (dw 133 [bT8,bT6 14] [aB u6] fun _ u12=>some (bT6 0,[aB u12])) (aA (decide ((i64.wrap (x7*u1.2.2.1))<x1)) (dw 133 [bT8,bT6 2] [aB u6] fun _ ku=>some (bT6 0,[aB ku])) (aA (decide (x2<(i64.wrap (x7*u1.2.2.1)))) (dw 133 [bT8,bT6 2] [aB u6] fun _ u24=>some (bT6 0,[aB u24])) (ji 220 [bT8] [aB u6] fun u30 u35=>some (bT6 (i64.wrap (x7*u1.2.2.1)),[aB u35])))):=by kernel_rfl
theorem b5T (a1:Int) (a2:Int) (h0:Sh.V aI):SS.CC 276 [bT8,bT6 a1,bT6 a2] [aB h0]=ji 131 [bT8] [aB h0] fun u1 u6=>aA (u1.1==3) (aA (u1.2.1.toList==(⟨#[45]⟩:bT9).toList) (ji 220 [bT8] [aB u6] fun u12 rE=>Sm a1 a2 rE (-1)) (Sm a1 a2 u6 1)) (Sm a1 a2 u6 1):=cc
end
structure RA where
 toks:List Tok
 line:Int
 uM:Int
 e:Int
abbrev tk (t:Tok):Sh.V lT:=(t.kind,bs t.text,t.value,t.line,t.uM,())
abbrev RA.v (A:RA):Sh.V aI:=(A.toks.map bD,A.line,A.uM,A.e,())
def Qu (t:Tok):Prop:=(t.kind=1/\t.text∉jO)\/(t.kind=2/\0<=t.value/\t.value<=65536)\/(t.kind=3/\t.text∈jO)
def ak:List Tok->Prop
 | []=>False
 | t::l=>(t.kind=4/\l = [])\/(Qu t/\ak l)
def RA.ok (A:RA):Prop:=A.e=0->ak A.toks
def RA.aF9 (A:RA):Tok:=⟨4,[],0,A.line,A.uM⟩
def RA.pk (A:RA):Tok:=if A.e=0 then A.toks.headD A.aF9 else A.aF9
theorem RA.ok.ne {A:RA} (h:A.ok) (he:A.e=0):∃ t tl,A.toks=t::tl:=by
 have:=h he;match hA:A.toks with
 | []=>rw[hA] at this; exact this.elim
 | t::tl=>simp
theorem zn {n:Int} (h:n=0):(n != 0)=false:=by simp[h]
theorem JS {n:Int} (h:n≠0):(n != 0)=true:=by simp[h]
theorem aVQ {n:Int} (h:n=0):(n==0)=true:=by simp[h]
theorem aVR {n:Int} (h:n≠0):(n==0)=false:=by simp[h]
theorem peek {A:RA} (h:A.ok):SS.CC 131 [bT8] [aB A.v]=some (ng (tk A.pk),[aB A.v]):=by
 rw[a_K];dsimp only;unfold RA.pk;by_cases he:A.e=0
 .obtain ⟨t,tl,ht⟩:=h.ne he;rw[zn he,aC,aS he,ht]; rfl
 .rw[JS he,aH,aQ he]; rfl
theorem pk4 {A:RA} (he:A.e≠0):A.pk.kind=4:=by unfold RA.pk; rw[aQ he]; rfl
def RA.next (A:RA):RA:=if A.e=0/\A.pk.kind≠4 then { A with toks:=A.toks.drop 1 } else A
theorem next {A:RA} (h:A.ok):SS.CC 220 [bT8] [aB A.v]=some (ng (tk A.pk),[aB A.next.v]):=by
 rw[b3I,jH (peek h)];dsimp only;unfold RA.next;by_cases he:A.e=0
 .obtain ⟨t,tl,ht⟩:=h.ne he;rw[aVQ he,aH];grind [aC,aH,au]
 grind [aC]
theorem RA.ok.next {A:RA} (h:A.ok):A.next.ok:=by
 unfold RA.next;split
 .rename_i c;intro he;obtain ⟨t,tl,ht⟩:=h.ne c.1;have h1:=h c.1;grind [RA.pk,ak]
 .exact h
def RA.is (A:RA) (x:bTB):Bool:=(A.pk.kind==1||A.pk.kind==3)&&A.pk.text==x
theorem Ob {A:RA} (h:A.ok) (b:bT9):SS.CC 257 [bT8,.str b] [aB A.v]=some (.bool (A.is b.data.toList),[aB A.v]):=by rw[b59,jH (peek h)];dsimp only;rw[H6,QL b];unfold RA.is;cases A.pk.kind==1<;>cases A.pk.kind==3<;>rfl
def RA.take (A:RA) (x:bTB):RA:=bif A.is x then A.next else A
theorem Bz {A:RA} (h:A.ok) (b:bT9):SS.CC 197 [bT8,.str b] [aB A.v]=some (.bool (A.is b.data.toList),[aB (A.take b.data.toList).v]):=by
 rw[b2W,dW (Ob h b)];unfold RA.take;cases A.is b.data.toList with
 | true=>rw[aH,jH (next h)]; rfl
 | false=>rw[aC]; rfl
theorem RA.ok.take {A:RA} (h:A.ok) (x:bTB):(A.take x).ok:=by
 unfold RA.take;cases A.is x with
 | true=>exact h.next
 | false=>exact h
def RA.fail (A:RA) (n:Int):RA:=if A.e=0/\n≠0 then { A with line:=A.pk.line,uM:=A.pk.uM,e:=n } else A
theorem Jf {A:RA} (h:A.ok) (n:Int):SS.CC 133 [bT8,bT6 n] [aB A.v]=some (.tuple [],[aB (A.fail n).v]):=by
 rw[a_L];dsimp only[o6];unfold RA.fail;by_cases he:A.e=0
 .rw[zn he,aC];by_cases hn:n=0;simp_all
  .rw[aVR hn,aC,jH (peek h),aS ⟨he,hn⟩]
 grind [aH]
theorem aZ5 {A:RA} {n:Int} (hn:n≠0):(A.fail n).e≠0:=by grind [RA.fail]
theorem bHK {A:RA} (h:A.e≠0):A.ok:=fun e=>absurd e h
theorem RA.ok.fail {A:RA} (h:A.ok) (n:Int):(A.fail n).ok:=by grind [RA.fail,bHK]
theorem bGX {A:RA} (h:A.e≠0):A.next=A:=by grind [RA.next]
theorem aZ4 {A:RA} (h:A.e≠0) (n:Int):A.fail n=A:=by grind [RA.fail]
def RA.exp (A:RA) (x:bTB):RA:=bif A.is x then A.next else A.fail 14
theorem Xx {A:RA} (h:A.ok) (b:bT9):SS.CC 128 [bT8,.str b] [aB A.v]=some (.tuple [],[aB (A.exp b.data.toList).v]):=by
 rw[a_H,dW (Bz h b)];unfold RA.take RA.exp;cases A.is b.data.toList with
 | true=>rfl
 | false=>show aA true _ _=_; rw[aH,yX,jG (Jf h 14)]; rfl
theorem RA.ok.exp {A:RA} (h:A.ok) (x:bTB):(A.exp x).ok:=by
 unfold RA.exp;cases A.is x with
 | true=>exact h.next
 | false=>exact h.fail 14
def RA.name (A:RA):RA:=if A.pk.kind=1 then A.next else A.fail 14
def RA.aO8 (A:RA):bTB:=if A.pk.kind=1 then A.pk.text else []
theorem Zx {A:RA} (h:A.ok):SS.CC 129 [bT8] [aB A.v]=some (.str (bs A.aO8),[aB A.name.v]):=by
 rw[a_I,jH (peek h)];dsimp only;unfold RA.name RA.aO8;by_cases hk:A.pk.kind=1
 .rw[show (A.pk.kind != 1)=false by simp[hk],aC,jH (next h),aS hk,aS hk]
 .rw[show (A.pk.kind != 1)=true by simp[hk],aH,jG (Jf h 14),aQ hk,aQ hk]; rfl
theorem RA.ok.name {A:RA} (h:A.ok):A.name.ok:=by
 unfold RA.name; split
 .exact h.next
 .exact h.fail 14
def RA.num (A:RA) (sg lo hi:Int):RA:=if A.pk.kind=2 then (if i64.wrap (sg*A.pk.value)<lo\/hi<i64.wrap (sg*A.pk.value) then A.fail 2 else A.next) else A.fail 14
def RA.KX (A:RA) (sg lo hi:Int):Int:=if A.pk.kind=2 then (if i64.wrap (sg*A.pk.value)<lo\/hi<i64.wrap (sg*A.pk.value) then 0 else i64.wrap (sg*A.pk.value)) else 0
theorem a8I {A:RA} (h:A.ok) (sg lo hi:Int):Sm lo hi A.v sg=some (bT6 (A.KX sg lo hi),[aB (A.num sg lo hi).v]):=by
 rw[b5R,jH (peek h)];dsimp only;unfold RA.num RA.KX;by_cases hk:A.pk.kind=2
 .rw[show (A.pk.kind != 2)=false by simp[hk],aC,aS hk,aS hk];by_cases h1:i64.wrap (sg*A.pk.value)<lo
  .rw[aO h1,aH,jG (Jf h 2),aS (.inl h1),aS (.inl h1)]
  .rw[aV h1,aC];by_cases h2:hi<i64.wrap (sg*A.pk.value)
   .rw[aO h2,aH,jG (Jf h 2),aS (.inr h2),aS (.inr h2)]
   .have:¬ (i64.wrap (sg*A.pk.value)<lo\/hi<i64.wrap (sg*A.pk.value)):=by omega
    rw[aV h2,aC,jH (next h),aQ this,aQ this]
 .rw[show (A.pk.kind != 2)=true by simp[hk],aH,jG (Jf h 14),aQ hk,aQ hk]
theorem RA.ok.num {A:RA} (h:A.ok) (sg lo hi:Int):(A.num sg lo hi).ok:=by
 unfold RA.num; split
 .split
  .exact h.fail 2
  .exact h.next
 .exact h.fail 14
def RA.mi (A:RA):Bool:=A.pk.kind==3&&A.pk.text == [45]
def RA.int (A:RA) (lo hi:Int):RA:=bif A.mi then A.next.num (-1) lo hi else A.num 1 lo hi
def RA.Hq (A:RA) (lo hi:Int):Int:=bif A.mi then A.next.KX (-1) lo hi else A.KX 1 lo hi
theorem ZH {A:RA} (h:A.ok) (lo hi:Int):SS.CC 276 [bT8,bT6 lo,bT6 hi] [aB A.v]=some (bT6 (A.Hq lo hi),[aB (A.int lo hi).v]):=by
 rw[b5T,jH (peek h)];dsimp only;rw[H6,QL ⟨#[45]⟩];show aA (A.pk.kind==3) (aA (A.pk.text == [45]) _ _) _=_;unfold RA.int RA.Hq RA.mi;cases A.pk.kind==3 with
 | false=>rw[aC,Bool.false_and,yX,yX]; exact a8I h 1 lo hi
 | true =>
  rw[aH,Aa];cases A.pk.text == [45] with
  | false=>rw[aC,yX,yX]; exact a8I h 1 lo hi
  | true=>rw[aH,GX,GX,jH (next h)]; exact a8I h.next (-1) lo hi
theorem RA.ok.int {A:RA} (h:A.ok) (lo hi:Int):(A.int lo hi).ok:=by
 unfold RA.int;cases A.mi with
 | true=>exact h.next.num _ _ _
 | false=>exact h.num _ _ _
theorem aYJ (A:RA):SS.CC 104 [bT8] [aB A.v]=some (.tuple [bT6 (if A.e=0 then 0 else A.line),bT6 (if A.e=0 then 0 else A.uM),bT6 A.e],[aB A.v]):=by rw[a'6];grind [aH,aC]
theorem aOU:∀ {l:bTB} {n m:Nat},tV l n=some m->n<=65536->m<=65536
 | [],n,m,h,h2=>by grind [tV]
 | b::l,n,m,h,h2=>by
  rw[tV] at h;split at h
  .cases h
  .exact aOU h (by omega)
theorem bFL {l:bTB} {b:UInt8} (h:isLet b.toNat=true):b::l∉jO:=by
 intro hm;have:∀ x∈jO,∀ b l,x=b::l->isLet b.toNat=false:=by
  intro x hx b l e;subst e;revert hx
  simp only[jO,jV,List.cons.injEq,yS,yZ];rintro (⟨rfl,_⟩ | ⟨rfl,_⟩ | ⟨rfl,_⟩ | ⟨rfl,_⟩ | ⟨rfl,_⟩ | ⟨rfl,_⟩ | ⟨rfl,_⟩ | ⟨rfl,_⟩ | ⟨rfl,_⟩ | ⟨rfl,_⟩ | ⟨rfl,_⟩ | ⟨rfl,_⟩ | ⟨rfl,_⟩ | ⟨rfl,_⟩ | ⟨rfl,_⟩ | ⟨rfl,_⟩ | ⟨rfl,_⟩ | ⟨rfl,_⟩ | ⟨rfl,_⟩ | ⟨rfl,_⟩ | ⟨rfl,_⟩ | ⟨rfl,_⟩ | ⟨rfl,_⟩ | ⟨rfl,_⟩ | ⟨rfl,_⟩ | ⟨rfl,_⟩)<;>decide
 rw[this _ hm b l rfl] at h;cases h
theorem bKK {l:bTB} (h:(bW l).2=0) (line uM:Int):Qu ((bW l).1.at line uM):=by
 unfold bW at h ⊢;match l,h with
 | [],h=>exact absurd h (by decide)
 | b::r,h =>
  dsimp only at h ⊢;cases hd:gy b.toNat with
  | true =>
   rw[hd,aS rfl] at h;rw[aS rfl];unfold BR at h ⊢;split at h
   .cases h
   .rename_i c1;rw[aQ c1];split at h
    .cases h
    .rename_i c2;rw[aQ c2];split at h
     .cases h
     .rename_i n hn;have h2:=aOU hn (by omega);exact .inr (.inl ⟨rfl,by show (0:Int)<=(n:Int); omega,by show (n:Int)<=65536; omega⟩)
  | false =>
   rw[hd] at h;simp only[GM,GY] at h ⊢;cases hw:isLet b.toNat with
   | true =>
    rw[hw] at h;simp only[yY] at h ⊢;unfold C9 at h ⊢;split at h
    .cases h
    .rename_i c;rw[aQ c];refine .inl ⟨rfl,?_⟩;show gV nR (b::r)∉jO;grind [gV,List.takeWhile_cons,nR,bFL]
   | false =>
    rw[hw] at h;simp only[GM,GY] at h ⊢;unfold EI at h ⊢;cases hs:AU (b::r) with
    | none=>rw[hs] at h; simp_all
    | some x=>exact .inr (.inr ⟨rfl,(aSE hs).1⟩)
theorem aSP:∀ {a b:List Tok},(∀ t,t∈a->Qu t)->ak b->ak (a ++ b)
 | [],_,_,h=>h
 | t::a,b,ha,h => .inr ⟨ha t (by simp),aSP (fun x hx=>ha x (by simp[hx])) h⟩
theorem scan_ok:∀ (f:Nat) (rest:bTB) (i line start:Nat) (acc ts:List Tok),(∀ t,t∈acc->Qu t)->vg f rest i line start acc = .ok ts->ak ts
 | 0,_,_,_,_,_,_,_,h=>by cases h
 | f+1,rest,i,line,start,acc,ts,ha,h=>by
  rw[vg] at h;split at h
  .injection h with h
   rw[<- h];exact aSP ha (.inl ⟨rfl,rfl⟩)
  .split at h
   .rename_i c;refine scan_ok f _ _ _ _ _ ts (fun t ht => ?_) h;rcases qQ.1 ht with ht | ht
    .exact ha t ht
    .simp only[uI] at ht;rw[ht];exact bKK c _ _
   .cases h
theorem bL' {l:bTB} {ts:List Tok} (h:uC l = .ok ts):ak ts:=by grind [uC,scan_ok]
def Zz (l:bTB):RA:=match uC l with | .ok ts=>⟨ts,0,0,0⟩ | .err a b e=>⟨[],a,b,e⟩
theorem bGV (l:bTB):SS.CC 100 [.str (bs l)] []=some (bT8,[aB (Zz l).v]):=by
 have OT:SS.CC 99 [.str (bs l)] []=some (Fa (uC l),[]):=by rw[MO dO]; rfl
 rw[a'5];unfold Zz;cases hs:uC l with
 | ok ts=>rw[hs] at OT; exact (a1Z (show SS.CC 99 [.str (bs l)] []=some (.tuple [.sl false 5 (ts.map bD),bT6 0,bT6 0,bT6 0],[]) from OT)).trans rfl
 | err a b e=>rw[hs] at OT; exact (a1Z (show SS.CC 99 [.str (bs l)] []=some (.tuple [.sl false 5 [],bT6 a,bT6 b,bT6 e],[]) from OT)).trans rfl
section
end
section
end
section
theorem b47 (a0:Sh.V S1) (a1:Sh.V S1):SS.CC 23 [A1 a0,A1 a1] []=aA (a0.1==a1.1) (aA (a0.2.1==a1.2.1) (aA (a0.2.2.1==a1.2.2.1) (G3 106 [.sl false 4 a0.2.2.2.1,.sl false 4 a1.2.2.2.1,.func (.func 23) [] []] fun b1=>some (.bool b1,[])) (some (.bool false,[]))) (some (.bool false,[]))) (some (.bool false,[])):=cc
theorem b5D (a0:bTA) (a1:bT9):SS.CC 25 [bT7 a0,.str a1] []=G1 108 [bT7 a0,.str a1] fun n1=>some (.bool (decide (0<=n1)),[]):=cc
def a'7:KT:=SS.rK Tryz.f106 106 0 []
def a'8:KT:=SS.jK 106 32 0 (cS Tryz.f106 15) a'7
def a'9:KT:=bI 0 a'8
def YA (x1:bTA) (x15:bTA) (x17:Int):R:=SS.LL (SS.ae 106 32) 0 [1,2,15,16,17] 0 (cS Tryz.f106 75) a'9 ⟨[(1,.sl false 4 x1),(2,.func (.func 23) [] []),(15,.sl false 4 x15),(16,bT6 (x15.length:Int)),(17,bT6 x17)],[]⟩
theorem aGI (x1:bTA) (x15:bTA) (x17:Int):YA x1 x15 x17=aA (decide (x17<(x15.length:Int))) (bf S1 x15 x17 fun u2=>bf S1 x1 x17 fun u7=>G3 23 [A1 u2,A1 u7] fun b11=>aA (!b11) (some (.bool false,[])) (YA x1 x15 (i64.wrap (x17+1)))) (some (.bool true,[])):=ll
theorem a'A (a0:bTA) (a1:bTA):SS.CC 106 [.sl false 4 a0,.sl false 4 a1,.func (.func 23) [] []] []=aA ((a0.length:Int) !=(a1.length:Int)) (some (.bool false,[])) (YA a1 a0 0):=cc
def a'B:KT:=SS.rK Tryz.f108 108 0 []
def a'C:KT:=SS.jK 108 19 0 (cS Tryz.f108 7) a'B
def a'D:KT:=bI 0 a'C
def YB (x0:bTA) (x1:bT9) (x8:Int):R:=SS.LL (SS.ae 108 19) 0 [0,1,7,8] 0 (cS Tryz.f108 37) a'D ⟨[(0,bT7 x0),(1,.str x1),(7,bT6 (x0.length:Int)),(8,bT6 x8)],[]⟩
theorem aGJ (x0:bTA) (x1:bT9) (x8:Int):YB x0 x1 x8=aA (decide (x8<(x0.length:Int))) (eH x0 x8 fun e1=>vS e1 fun s2=>aA (x1.toList==s2.toList) (some (bT6 x8,[])) (YB x0 x1 (i64.wrap (x8+1)))) (some (bT6 (-1),[])):=ll
theorem a'E (a0:bTA) (a1:bT9):SS.CC 108 [bT7 a0,.str a1] []=YB a0 a1 0:=cc
theorem a'T:SS.CC 116 [] []=some (A1 (6,0,0,[A1 (0,0,0,[],()),A1 (0,0,0,[],())],()),[]):=cc
theorem a'U:SS.CC 117 [] []=some (A1 (7,0,0,[A1 (0,0,0,[],()),A1 (0,0,0,[],())],()),[]):=cc
end
inductive EX where
 | node (op val idx:Int) (args:List EX)
theorem EX.ind {P:EX->Prop} (h:∀ o x i l,(∀ e,e∈l->P e)->P (.node o x i l)):∀ e,P e :=fun e=>EX.rec (motive_1:=P) (motive_2:=fun l=>∀ e,e∈l->P e) (fun o x i l ih=>h o x i l ih) (by simp) (fun a l ha hl e he=>by grind) e
inductive EX.Len:EX->Prop
 | mk {o v i:Int} {l:List EX}:l.length<=70368744177664->(-9223372036854775808<=v/\v<=9223372036854775807)->(-9223372036854775808<=o/\o<=9223372036854775807)->(-9223372036854775808<=i/\i<=9223372036854775807)->(∀ e,e∈l->EX.Len e)->EX.Len (.node o v i l)
mutual
def ev:EX->Sh.V S1
 | .node o x i l=>(o,x,i,mZ l,())
def mZ:List EX->bTA
 | [] => []
 | e::l=>A1 (ev e)::mZ l
end
theorem a3R:∀ l:List EX,mZ l=l.map fun e=>A1 (ev e)
 | []=>rfl
 | e::l=>by rw[mZ,a3R l]; rfl
theorem kX (o x i:Int) (l:List EX):ev (.node o x i l)=(o,x,i,mZ l,()):=by rw[ev]
abbrev kw (o:Int) (a:EX):EX := .node o 0 0 [a]
abbrev kW (o:Int) (a b:EX):EX := .node o 0 0 [a,b]
theorem ev1 (o:Int) (a:EX):ev (kw o a)=(o,0,0,[A1 (ev a)],()):=by rw[ev]; rfl
theorem Xn (o:Int) (a b:EX):ev (kW o a b)=(o,0,0,[A1 (ev a),A1 (ev b)],()):=by rw[ev]; rfl
theorem ev3 (o:Int) (a b c:EX):ev (.node o 0 0 [a,b,c])=(o,0,0,[A1 (ev a),A1 (ev b),A1 (ev c)],()):=by rw[ev]; rfl
def zE:EX := .node 0 0 0 []
def nE (n:Int):EX := .node 0 n 0 []
def vE (n:Int):EX := .node 1 0 n []
def tE:EX := .node 6 0 0 [zE,zE]
def fE:EX := .node 7 0 0 [zE,zE]
theorem Rl (n:Int):ev (nE n)=(0,n,0,[],()):=rfl
theorem aYX (n:Int):ev (vE n)=(1,0,n,[],()):=rfl
theorem c116:SS.CC 116 [] []=some (A1 (ev tE),[]):=a'T
theorem c117:SS.CC 117 [] []=some (A1 (ev fE),[]):=a'U
def qC (l:List bT9):bTA:=l.map .str
def qB (s:bT9):List bT9->Nat->Int
 | [],_ => -1
 | x::l,k=>if s=x then (k:Int) else qB s l (k+1)
theorem aVS (s x:bT9):(s.toList==x.toList)=decide (s=x):=by
 rw[QL,QL];by_cases h:s=x
 .simp[h]
 .have:s.data≠x.data:=fun e=>h (ByteArray.ext e)
  rw[aV h];simp_all
theorem aKS (all:List bT9) (hn:all.length<1000000000000) (s:bT9):∀ (l:List bT9) (k:Nat),all.drop k=l->k<=all.length->YB (qC all) s (k:Int)=some (bT6 (qB s l k),[])
 | [],k,h,hk=>by have:all.length<=k:=MC.1 h;rw[aGJ,aV (by grind [qC]),aC]; rfl
 | x::l,k,h,hk=>by
  have hlt:k<all.length:=by
   rcases yV k all.length with h' | h'
   .exact h'
   .rw[GN h'] at h; cases h
  have hg:all[k]? = some x:=by have:=congrArg (fun l=>l[0]?) h;simpa using this
  rw[aGJ,aO (by unfold qC; rw[aX]; omega),aH,sD (e := .str x) (by omega) (by unfold qC; rw[oM,kJ,hg]; rfl),nY,aVS];rw[qB];by_cases e:s=x
  .rw[aO e,aH,aS e]
  .rw[aV e,aC,aQ e,wrap64 (by omega) (by omega),show ((k:Int)+1)=((k+1:Nat):Int) by omega];exact aKS all hn s l (k+1) (by rw[<- QO,h]; rfl) (by omega)
theorem aKU (l:List bT9) (hn:l.length<1000000000000) (s:bT9):SS.CC 108 [bT7 (qC l),.str s] []=some (bT6 (qB s l 0),[]):=by rw[a'E]; exact aKS l hn s l 0 rfl (zg _)
theorem hasc (l:List bT9) (hn:l.length<1000000000000) (s:bT9):SS.CC 25 [bT7 (qC l),.str s] []=some (.bool (decide (0<=qB s l 0)),[]):=by rw[b5D,eP (aKU l hn s)]
def kD (x:bTB):Int×Int×Bool :=
 if x = [124,124] then (1,12,false) else if x = [38,38] then (2,11,false) else if x = [61,61] then (3,6,false) else if x = [33,61] then (3,7,false)
 else if x = [60] then (3,8,false) else if x = [60,61] then (3,9,false) else if x = [62] then (3,8,true) else if x = [62,61] then (3,9,true)
 else if x = [43] then (4,2,false) else if x = [45] then (4,3,false) else if x = [42] then (5,4,false) else (0,0,false)
theorem a97 {A:RA} (h:A.ok):Qu A.pk\/A.pk.kind=4:=by
 by_cases he:A.e=0
 .obtain ⟨t,tl,ht⟩:=h.ne he;have h1:=h he;have hp:A.pk=t:=by grind [RA.pk]
  rw[hp]; rw[ht] at h1;rcases h1 with ⟨h1,_⟩ | h1
  omega;simp_all
 .exact .inr (pk4 he)
theorem aPM {A:RA} (h:A.ok) (h3:A.pk.kind=3):A.pk.text∈jO:=by
 rcases a97 h with (⟨h1,_⟩ | ⟨h1,_⟩ | ⟨_,h1⟩) | h1
 .omega
 .omega
 .exact h1
 .omega
theorem Oa {A:RA} (h:A.ok) {x:bTB} (hx:x∈jO):A.is x=(A.pk.kind==3&&A.pk.text==x):=by
 unfold RA.is;by_cases h1:A.pk.kind=1
 .have ht:A.pk.text≠x:=by
   rcases a97 h with (⟨_,h2⟩ | ⟨h2,_⟩ | ⟨h2,_⟩) | h2
   grind
   all_goals omega
  rw[show (A.pk.text==x)=false by grind,J5,J5]
 grind
def RA.Dv (A:RA) (lv:Int):Bool:=A.pk.kind==3&&(kD A.pk.text).1==lv
theorem opm:∀ x,x∈jO->∀ (lv:Int) (K:Int->Int->Bool->R) (N:R),IA none [.str ⟨#[33,61]⟩,pY (3,7,false,()),.str ⟨#[38,38]⟩,pY (2,11,false,()),.str ⟨#[42]⟩,pY (5,4,false,()),.str ⟨#[43]⟩,pY (4,2,false,()),.str ⟨#[45]⟩,pY (4,3,false,()),.str ⟨#[60]⟩,pY (3,8,false,()),.str ⟨#[60,61]⟩,pY (3,9,false,()),.str ⟨#[61,61]⟩,pY (3,6,false,()),.str ⟨#[62]⟩,pY (3,8,true,()),.str ⟨#[62,61]⟩,pY (3,9,true,()),.str ⟨#[124,124]⟩,pY (1,12,false,())] (.str (bs x)) (fun e=>DV Wn e fun u=>K u.1 u.2.1 u.2.2.1) N=if (kD x).1=0 then N else K (kD x).1 (kD x).2.1 (kD x).2.2:=by
 intro x hx lv K N;revert hx
 simp only[jO,jV,yS,yZ];rintro (rfl | rfl | rfl | rfl | rfl | rfl | rfl | rfl | rfl | rfl | rfl | rfl | rfl | rfl | rfl | rfl | rfl | rfl | rfl | rfl | rfl | rfl | rfl | rfl | rfl | rfl)<;>kernel_rfl
end Go.Proofs.YtcdceiloganlnaaGreatDoor.W
namespace Go.Proofs.YtcdceiloganlnaaGreatDoor
open Go.RowKit Go.ChangeShapes Go.WideShapes Go.ChangeAt
set_option maxRecDepth 100000
theorem bHR:ownKnob Tryz.prog.godebug=none:=by kernel_rfl
theorem aMZ:laidOutB Tryz.prog=true:=by kernel_rfl
theorem bGK:Tryz.prog.follows .mixedOrders=true:=by kernel_rfl
theorem aYU {g:FuncId} {args:List PV} {r:PV} (h:W.SS.CC g args []=lS r):Ev Tryz.prog g args [] r [] :=MP bGK W.dO aTI g args [] r [] h
theorem bKU {M:Mem} {B:aN}:aj M B [] []:=dJ.2 rfl
theorem aQ4 {M:Mem} {B:aN} {p:PV} {ps:List PV} {u:Value} {us:List Value} (h:Rep M B p u) (h2:aj M B ps us):aj M B (p::ps) (u::us):=bg.2 ⟨u,us,rfl,h,h2⟩
theorem agU:Ci Tryz.prog 5=false:=by kernel_rfl
theorem aRC {fuel:Nat} {ps:List PV} (h:iZ Tryz.prog fuel 5 ps):∃ c:UInt8,ps = [.int .u8 (c.toNat:Int)]:=by
 cases fuel with
 | zero=>exact h.elim
 | succ fuel =>
  simp only[iZ,Tryz.underlying5] at h;obtain ⟨n,rfl,hn⟩:=h;simp[Lit.wf,IntKind.min,IntKind.max,IntKind.signed,IntKind.bits] at hn;refine ⟨UInt8.ofNat n.toNat,?_⟩;have:((UInt8.ofNat n.toNat).toNat:Int)=n:=by rw[UInt8.toNat_ofNat'];omega
  rw[this]
theorem aNB {α:Type} {f:α->PV} {Q:α->Prop}:∀ {es:List PV},(∀ p,p∈es->∃ x,p=f x/\Q x)->∃ l:List α,es=l.map f/\∀ x,x∈l->Q x
 | [],_=>⟨[],rfl,by simp⟩
 | p::es,h=>by
  obtain ⟨x,hx,hq⟩:=h p (by simp);obtain ⟨l,hl,hql⟩:=aNB (es:=es) fun q hq=>h q (by simp[hq])
  exact ⟨x::l,by rw[hx,hl]; rfl,fun y hy=>by
   rcases jV.1 hy with rfl | hy
   .exact hq
   .exact hql y hy⟩
theorem bMF {fuel:Nat} {ps:List PV} (h:iZ Tryz.prog fuel 5 ps):∃ c:UInt8,wX Tryz.prog 5 ps = .int .u8 (c.toNat:Int)/\True:=by obtain ⟨c,rfl⟩:=aRC h;exact ⟨c,by simp[wX,agU],trivial⟩
def aNG:DataW Unit->List Value
 | .lit (.int k n) => [Value.int k n]
 | _ => []
def bFS:DataW Unit->List Value
 | .agg l=>l.flatMap aNG
 | d=>aNG d
def bFR:DataW Unit->Array Value
 | .agg l=>(l.flatMap bFS).toArray
 | _ => #[]
def Un (g:Nat) (d:DataW Unit) (h:Array Obj):Array Obj:=h.modify g fun
 | .cells _ t frozen => .cells (bFR d) t frozen
 | o=>o
noncomputable def laidWorld6 (os:Os):World :={ World.holding Tryz.prog os ⟨#[],#[],[]⟩ with heap:=Un 2 Rows.laid_unicode_utf8_first (Un 3 Rows.laid_unicode_utf8_acceptRanges (Un 4 Rows.laid_math_bits_deBruijn32tab (Un 5 Rows.laid_math_bits_deBruijn64tab (Un 1 Rows.laid_internal_strconv_uint64pow10 (World.holding Tryz.prog os ⟨#[],#[],[]⟩).heap)))) }
theorem bK5 {H:Type}:(Rows.laid_internal_strconv_uint64pow10:DataW H)=Lib.tabData .u64 Lib.pow10Tab:=by kernel_rfl
shelf_lay LaysM.n144 Nm 144 at Tryz as Tryz.laysM144
theorem bCM {W:World} {rest:List (String×DataW Unit)} (h1:laidMet Tryz.prog (("internal/strconv.uint64pow10",Rows.laid_internal_strconv_uint64pow10)::rest) W) (hs:W.ShapedOpen Tryz.prog):GW W:=by
 rw[bK5] at h1;have ht:=Lib.tabIs_of_head (g:=1) (t:=336) (e:=263) (n:=20) (by kernel_rfl) (by kernel_rfl) (by kernel_rfl) (by kernel_rfl) (by kernel_rfl) (by kernel_rfl) h1;obtain ⟨m,hm⟩:=Tryz.laysM144.s1_3 W hs;have hm:W.cell? ⟨0,0,none⟩=some (.int .i64 m):=by rw[show 0=Tryz.laysM144_ren.g 1 by kernel_rfl]; exact hm
 refine ⟨m,fun b o v hg => ?_⟩;unfold Ae at hg;have e:aB9 m = [(0,[Value.int .i64 m]),(1,Lib.pow10Tab.map (Value.int .u64))]:=rfl;rw[e] at hg;by_cases hb:b=0
 .subst hb;have hg:([Value.int .i64 m]:List Value)[o]? = some v:=hg;match o,hg with
  | 0,hg =>cases hg;exact Vq.2 ⟨hm,rfl⟩
  | o+1,hg=>cases hg
 .by_cases hc:b=1
  .subst hc;have hg:(Lib.pow10Tab.map (Value.int .u64))[o]? = some v:=hg;rw[kJ] at hg;obtain ⟨z,hz,rfl⟩:=JD.1 hg;have ho:o<Lib.pow10Tab.length:=(iJ.1 hz).1;have hc:=ht.cell (g:=1) (by kernel_rfl) o ho;refine Vq.2 ⟨?_,rfl⟩;rw[hc,WG,hz]; rfl
  .have h1:(b==0)=false:=by simpa using hb
   have h2:(b==1)=false:=by simpa using hc
   simp[List.lookup,h1,h2] at hg
theorem bDZ {P:Program} {f:FuncId} {fn:Func} {s:ChangeSpec} {c:OpenClaim}
 (h1:(c.wf (OpenSpec.ofChange s)&&laidOutB P&&mapsRowed P&&fn.params.all (P.readableRec ·)&&namedTie P c.named s.vars&&(c.stops == [])&&(P.stops == [])&&(c.knobs == [])&&(P.stopKnobs == []))=true)
 (h2:(c.inPlace==P.inPlace f)=true) (h3:(c.unfollowed==P.unfollowed f)=true) (h4:(c.recurses==P.recurses f)=true) (h5:(c.named==P.varsNamed f)=true)
 (h6:((c.maps==(fn.params.toList ++ s.plain.varTypes P).any (P.mapsRec ·))&&(c.ifaces==(fn.params.toList ++ s.plain.varTypes P).any (P.ifacesRec ·))&&(c.mapsOut==P.mapsAmong fn.resultTypes.toList) &&
  (c.loops==(fn.params.toList ++ s.plain.varTypes P).any (P.loopsFrom ·))&&(c.wideKeys==(fn.params.toList ++ s.plain.varTypes P ++ fn.resultTypes.toList).any (P.wideKeysFrom ·)) &&
  s.vars.all (P.varReadable ·)&&fn.resultTypes.all (fun t=>P.readableRec t&&decide (t<P.types.size))&&(c.ifacesOut==fn.resultTypes.toList.any (P.ifacesRec ·))&&(c.loopsOut==fn.resultTypes.toList.any (P.loopsFrom ·))&&(c.plainKeys==P.plainKeys)&&c.shortTexts.isNone&&P.stopsHeard&&P.mayEnter&&(c.lifted==P.liftsFinal)&&(P.make==some c.make)&&(c.kinds==(if c.domain.isEmpty then [] else fn.params.toList.map fun t=>match P.underlying t with | some (.int k)=>some k | _=>none))&&(c.pinned==c.pinnedBy) &&
  (c.veiled==(fn.params.toList ++ s.plain.varTypes P ++ fn.resultTypes.toList).any (P.veiledRec ·))&&c.veiledFits P fn.params.toList (fn.params.toList ++ s.plain.varTypes P ++ fn.resultTypes.toList))=true):joinedFacts P f fn s c=true:=by
 unfold joinedFacts;simp only[bF,and_assoc] at h1 h6 ⊢;exact ⟨h1.1,h1.2.1,h1.2.2.1,h1.2.2.2.1,h1.2.2.2.2.1,h1.2.2.2.2.2.1,h1.2.2.2.2.2.2.1,h1.2.2.2.2.2.2.2.1,h1.2.2.2.2.2.2.2.2,h2,h3,h4,h5,h6⟩
end Go.Proofs.YtcdceiloganlnaaGreatDoor
namespace Go.Proofs.YtcdceiloganlnaaGreatDoor
open Go.RowKit
def Il (c:Bool) (f:Nat) (rest:List UInt8) (i line start:Nat) (acc:List Tok):Gs :=
 let g:=iH c rest
 let p:=uU (rest.take g) i (line,start)
 match rest.drop g with
 | [] => .ok (acc ++ [(⟨4,[],0,(p.1:Nat),((i+g-p.2+1:Nat):Int)⟩:Tok)])
 | b::r =>
  if (bW (b::r)).2=0 then vg f ((b::r).drop (bW (b::r)).1.text.length) (i+g+(bW (b::r)).1.text.length) p.1 p.2 (acc ++ [(bW (b::r)).1.at (p.1:Nat) ((i+g-p.2+1:Nat):Int)])
  else .err (p.1:Nat) ((i+g-p.2+1:Nat):Int) (bW (b::r)).2
theorem G_step {c c':Bool} {b:UInt8} {r:List UInt8} (h:iH c (b::r)=1+iH c' r) (f i line start:Nat) (acc:List Tok) :
 Il c f (b::r) i line start acc=Il c' f r (i+1) (if b=10 then line+1 else line) (if b=10 then i+1 else start) acc:=by
 grind [Il,uU]
theorem aTQ (c:Bool) (f i line start:Nat) (acc:List Tok):Il c f [] i line start acc = .ok (acc ++ [(⟨4,[],0,(line:Nat),((i-start+1:Nat):Int)⟩:Tok)]):=by rfl
theorem aAX:∀ (f f':Nat) (rest:List UInt8) (i line start:Nat) (acc:List Tok),rest.length<f->rest.length<f'->vg f rest i line start acc=vg f' rest i line start acc
 | 0,_,_,_,_,_,_,h,_=>by omega
 | f+1,0,_,_,_,_,_,_,h=>by omega
 | f+1,f'+1,rest,i,line,start,acc,h1,h2=>by
  unfold vg;simp only;split
  .rfl
  .rename_i b r hcons;split
   .rename_i h0;obtain ⟨k4,k5⟩:=Uu h0;have hl:=congrArg List.length hcons;rw[xY] at hl;exact aAX f f' _ _ _ _ _ (by rw[xY]; omega) (by rw[xY]; omega)
   .rfl
def ve (c:Bool) (rest:List UInt8) (i line start:Nat) (acc:List Tok):Gs:=Il c rest.length rest i line start acc
theorem G_C {c:Bool} {f:Nat} {rest:List UInt8} (h:rest.length<=f) (i line start:Nat) (acc:List Tok):Il c f rest i line start acc=ve c rest i line start acc:=by grind [ve,Il,Uu,aAX]
theorem bM0 (l:List UInt8) (i line start:Nat) (acc:List Tok):vg (l.length+1) l i line start acc=ve false l i line start acc:=rfl
theorem QY (c:Bool) (i line start:Nat) (acc:List Tok):ve c [] i line start acc = .ok (acc ++ [(⟨4,[],0,(line:Nat),((i-start+1:Nat):Int)⟩:Tok)]):=aTQ c 0 i line start acc
theorem C_step {c c':Bool} {b:UInt8} {r:List UInt8} (h:iH c (b::r)=1+iH c' r) (i line start:Nat) (acc:List Tok) :
 ve c (b::r) i line start acc=ve c' r (i+1) (if b=10 then line+1 else line) (if b=10 then i+1 else start) acc:=by
 rw[ve,G_step h,G_C (by simp)]
theorem a1X {b:UInt8} {r:List UInt8} (h:iH false (b::r)=0) (i line start:Nat) (acc:List Tok) :
 ve false (b::r) i line start acc=if (bW (b::r)).2=0 then ve false ((b::r).drop (bW (b::r)).1.text.length) (i+(bW (b::r)).1.text.length) line start (acc ++ [(bW (b::r)).1.at (line:Nat) ((i-start+1:Nat):Int)])
  else .err (line:Nat) ((i-start+1:Nat):Int) (bW (b::r)).2:=by
 rw[ve,Il,h];simp only[List.take_zero,List.drop_zero,uU,GU];split
 .rename_i h0;obtain ⟨k4,k5⟩:=Uu h0;rw[aAX _ (((b::r).drop (bW (b::r)).1.text.length).length+1) _ _ _ _ _ (by rw[xY]; omega) (by omega)];rfl
 .rfl
theorem bMH (c:Bool) (b:UInt8) (r:List UInt8):(∃ c',iH c (b::r)=1+iH c' r/\((c=true/\b=10/\c'=false)\/(c=true/\b≠10/\c'=true)\/(c=false/\y7 b.toNat=true/\c'=false)\/(c=false/\y7 b.toNat=false /\ [47,47].isPrefixOf (b::r)=true/\c'=true))) \/
 (c=false/\y7 b.toNat=false /\ [47,47].isPrefixOf (b::r)=false/\iH c (b::r)=0):=by
 cases c with
 | true =>
  left;by_cases h:b=10
  .exact ⟨false,by rw[iH,aS h],.inl ⟨rfl,h,rfl⟩⟩
  .exact ⟨true,by rw[iH,aQ h],.inr (.inl ⟨rfl,h,rfl⟩)⟩
 | false =>grind [iH]
theorem aAM {p:Nat->Bool} {x:UInt8} (hx:p x.toNat=false) (u:List UInt8):∀ (l:List UInt8),gV p (l ++ x::u)=gV p l
 | []=>by unfold gV; rw[Ad,JA,hx]; rfl
 | b::l=>by have:=aAM hx u l;grind [gV,List.takeWhile_cons]
theorem a99 {x:UInt8} (u:List UInt8):∀ (y l:List UInt8),(∀ c,c∈y->c≠x)->y.isPrefixOf (l ++ x::u)=y.isPrefixOf l
 | [],l,_=>by simp
 | a::y,[],h=>by have:=h a (by simp);grind
 | a::y,b::l,h=>by
  have:=a99 u y l fun c hc=>h c (by simp[hc])
  grind
theorem find_congr {α:Type} {p q:α->Bool}:∀ {l:List α},(∀ x,x∈l->p x=q x)->l.find? p=l.find? q
 | [],_=>rfl
 | a::l,h=>by
  have:=find_congr (l:=l) fun x hx=>h x (by simp[hx])
  rw[List.find?_cons,List.find?_cons,h a (by simp),this]
theorem bN8:∀ x∈jO,∀ c∈x,c≠32:=by decide
theorem bN6 {x:UInt8} (hx:∀ y∈jO,∀ c∈y,c≠x) (u l:List UInt8):AU (l ++ x::u)=AU l:=by grind [AU,find_congr,a99]
theorem bKJ {x:UInt8} (h1:nR x.toNat=false) (hx:∀ y∈jO,∀ c∈y,c≠x) (u:List UInt8) (b:UInt8) (r:List UInt8):bW ((b::r) ++ x::u)=bW (b::r):=by grind [nR,aAM,bN6,bW,BR,C9,EI]
end Go.Proofs.YtcdceiloganlnaaGreatDoor
namespace Go.Proofs.YtcdceiloganlnaaGreatDoor.W
open Go.RowKit
set_option maxRecDepth 1000000
def RA.N (A:RA):Nat:=if A.e=0 then A.toks.length else 0
theorem aUE {A:RA} (h:A.e≠0):A.N=0:=by grind [RA.N]
structure Le (A A':RA):Prop where
 ok:A'.ok
 bad:A.e≠0->A'=A
 le:A'.N<=A.N
theorem Le.refl {A:RA} (h:A.ok):Le A A:=⟨h,fun _=>rfl,cu _⟩
theorem Le.trans {A B C:RA} (h:Le A B) (k:Le B C):Le A C:=⟨k.ok,fun e=>by have h1:=h.bad e;rw[h1] at k;exact k.bad e,mP k.le h.le⟩
theorem bF6 {A:RA} (hk:A.pk.kind≠4):A.e=0:=by grind [pk4]
theorem bGY {A:RA} (h:A.ok) (hk:A.pk.kind≠4):A.next.e=0/\A.next.N<A.N:=by have he:=bF6 hk;obtain ⟨t,tl,ht⟩:=h.ne he;grind [RA.next,RA.N]
theorem Le.next {A:RA} (h:A.ok):Le A A.next:=⟨h.next,fun e=>bGX e,by grind [RA.next,bGY]⟩
theorem Le.fail {A:RA} (h:A.ok) {n:Int} (hn:n≠0):Le A (A.fail n):=⟨h.fail n,fun e=>aZ4 e n,by rw[aUE (aZ5 hn)]; omega⟩
theorem Le.exp {A:RA} (h:A.ok) (x:bTB):Le A (A.exp x):=by
 unfold RA.exp;cases A.is x with
 | true=>exact .next h
 | false=>exact .fail h (by decide)
theorem Le.take {A:RA} (h:A.ok) (x:bTB):Le A (A.take x):=by
 unfold RA.take;cases A.is x with
 | true=>exact .next h
 | false=>exact .refl h
theorem Le.name {A:RA} (h:A.ok):Le A A.name:=by
 unfold RA.name;split
 .exact .next h
 .exact .fail h (by decide)
theorem VG {A:RA} {x:bTB} (h:A.is x=true):A.take x=A.next:=by grind [RA.take]
theorem LU {A:RA} {x:bTB} (h:A.is x=false):A.take x=A:=by grind [RA.take]
theorem bDK {A:RA} (h:A.ok) {x:bTB} (hx:x∈jO) (hi:A.is x=true):A.pk.kind=3/\A.pk.text=x:=by rw[Oa h hx,bF] at hi;simp_all
theorem aLF {A:RA} (h:A.ok) {x:bTB} (hx:x∉jO):A.is x=(A.pk.kind==1&&A.pk.text==x):=by grind [RA.is,aPM]
def RA.kp (A:RA) (l:List bT9):RA:=if A.pk.kind=1/\qB (bs A.pk.text) l 0<0 then A.fail 9 else A
def RA.kn (A:RA) (l:List bT9):RA:=(A.kp l).name
def RA.Oh (A:RA) (l:List bT9):Int:=if (0:Int)>qB (bs A.pk.text) l 0 then 0 else qB (bs A.pk.text) l 0
theorem bF7 {A:RA} {l:List bT9} (hk:A.pk.kind=1) (hi:qB (bs A.pk.text) l 0<0):A.kp l=A.fail 9:=by grind [RA.kp]
theorem a6S {A:RA} {l:List bT9} (c:¬ (A.pk.kind=1/\qB (bs A.pk.text) l 0<0)):A.kp l=A:=by grind [RA.kp]
theorem RA.ok.kp {A:RA} (h:A.ok) (l:List bT9):(A.kp l).ok:=by
 unfold RA.kp; split
 .exact h.fail 9
 .exact h
theorem Le.kn {A:RA} (h:A.ok) (l:List bT9):Le A (A.kn l):=by
 unfold RA.kn;refine Le.trans ?_ (Le.name (h.kp l));unfold RA.kp; split
 .exact .fail h (by decide)
 .exact .refl h
theorem Hr {A:RA} (h:A.ok):SS.CC 257 [bT8,.str ⟨#[33]⟩] [aB A.v]=some (.bool (A.is [33]),[aB A.v]):=Ob h _
theorem Jz {A:RA} (h:A.ok):SS.CC 257 [bT8,.str ⟨#[45]⟩] [aB A.v]=some (.bool (A.is [45]),[aB A.v]):=Ob h _
theorem Tf {A:RA} (h:A.ok):SS.CC 257 [bT8,.str ⟨#[40]⟩] [aB A.v]=some (.bool (A.is [40]),[aB A.v]):=Ob h _
theorem aSJ {A:RA} (h:A.ok):SS.CC 197 [bT8,.str ⟨#[63]⟩] [aB A.v]=some (.bool (A.is [63]),[aB (A.take [63]).v]):=Bz h _
abbrev nH:bTB := [116,114,117,101]
abbrev pz:bTB := [102,97,108,115,101]
theorem tkT {A:RA} (h:A.ok):SS.CC 197 [bT8,.str ⟨#[116,114,117,101]⟩] [aB A.v]=some (.bool (A.is nH),[aB (A.take nH).v]):=Bz h _
theorem tkF {A:RA} (h:A.ok):SS.CC 197 [bT8,.str ⟨#[102,97,108,115,101]⟩] [aB A.v]=some (.bool (A.is pz),[aB (A.take pz).v]):=Bz h _
theorem aYZ {A:RA} (h:A.ok):SS.CC 128 [bT8,.str ⟨#[58]⟩] [aB A.v]=some (.tuple [],[aB (A.exp [58]).v]):=Xx h _
theorem aYY {A:RA} (h:A.ok):SS.CC 128 [bT8,.str ⟨#[41]⟩] [aB A.v]=some (.tuple [],[aB (A.exp [41]).v]):=Xx h _
abbrev MF:=bT9×bTA×bTA×bTA×bTA×bTA×bTA
section
variable {F:MF} {v:bTA} {d:Int} {A B:RA} {x:EX}
theorem a6E (hk:A.pk.kind=2) (t:bTB):A.is t=false:=by grind [RA.is]
theorem bHC (h:A.ok) (hk:A.pk.kind=2):0<=A.pk.value/\A.pk.value<=65536:=by
 rcases a97 h with (⟨h1,_⟩ | ⟨_,h1⟩ | ⟨h1,_⟩) | h1
 .omega
 .exact h1
 .omega
 .omega
theorem ZG (h:A.ok) (hk:A.pk.kind=2):A.Hq 0 65536=A.pk.value/\A.int 0 65536=A.next:=by obtain ⟨h1,h2⟩:=bHC h hk;grind [RA.mi,wrap64,RA.Hq,RA.int,RA.KX,RA.num]
end
theorem tlT:(⟨#[116,114,117,101]⟩:bT9).toList=nH:=QL _
theorem tlF:(⟨#[102,97,108,115,101]⟩:bT9).toList=pz:=QL _
def uj (o:Int):bTB:=if o=2 then [43] else if o=3 then [45] else if o=4 then [42] else if o=6 then [61,61] else if o=7 then [33,61] else if o=8 then [60] else if o=9 then [60,61] else if o=11 then [38,38] else [124,124]
theorem aR7 (o:Int):uj o∈jO:=by
 unfold uj;repeat' split
 all_goals decide
section
variable {F:MF} {l:List bT9} {d:Int}
theorem aX2 (a b:Sh.V S1):lF 4 ([bT6 a.1,bT6 a.2.1,bT6 a.2.2.1,.sl false 4 a.2.2.2.1,bT6 b.1,bT6 b.2.1,bT6 b.2.2.1,.sl false 4 b.2.2.2.1]:bTA) 2 = [A1 a,A1 b]:=rfl
theorem aX3 (a b:Sh.V S1):(decide (2*4<=([bT6 a.1,bT6 a.2.1,bT6 a.2.2.1,.sl false 4 a.2.2.2.1,bT6 b.1,bT6 b.2.1,bT6 b.2.2.1,.sl false 4 b.2.2.2.1]:bTA).length)&&decide (0<4)&&([bT6 a.1,bT6 a.2.1,bT6 a.2.2.1,.sl false 4 a.2.2.2.1,bT6 b.1,bT6 b.2.1,bT6 b.2.2.1,.sl false 4 b.2.2.2.1]:bTA).all fun p=>p.one&&p.flat)=true:=rfl
end
section
def b5E:KT:=SS.rK Tryz.f26 26 0 []
def b5F:KT:=SS.jK 26 55 0 (cS Tryz.f26 7) b5E
def b5G:KT:=bI 0 b5F
def Eu (x0:bT9) (x8:Int):R:=SS.LL (SS.ae 26 55) 0 [0,7,8] 0 (cS Tryz.f26 37) b5G ⟨[(0,.str x0),(7,bT6 (x0.size:Int)),(8,bT6 x8)],[]⟩
theorem aI8 (x0:bT9) (x8:Int):Eu x0 x8=aA (decide (x8<(x0.size:Int))) (vJ x0 x8 fun c1=>(fun w=>aA (decide (97<=c1)) (aA (decide (c1<=122)) (Eu x0 (i64.wrap (x8+1))) (aA (decide (65<=c1)) (aA (decide (c1<=90)) (Eu x0 (i64.wrap (x8+1))) w) w)) (aA (decide (65<=c1)) (aA (decide (c1<=90)) (Eu x0 (i64.wrap (x8+1))) w) w)) (aA (!(c1==95)) (aA (x8==0) (some (.bool false,[])) (aA (decide (c1<48)) (some (.bool false,[])) (aA (decide (57<c1)) (some (.bool false,[])) (Eu x0 (i64.wrap (x8+1)))))) (Eu x0 (i64.wrap (x8+1))))) (aA (decide (0<(x0.size:Int))) (some (.bool (decide ((x0.size:Int)<=32)),[])) (some (.bool false,[]))):=ll
theorem b5H (a0:bT9):SS.CC 26 [.str a0] []=Eu a0 0:=cc
theorem a4V (a0:Sh.V S1) (a1:Int):SS.CC 27 [A1 a0,bT6 a1] []=aA (decide (a1<0)) (some (.tuple [bT6 0,bT6 2],[])) (aA (decide (16<a1)) (some (.tuple [bT6 0,bT6 2],[])) (H19 109 [A1 a0,bT6 a1,bT6 1,bT8] [kL (0,())] fun n1 u2=>aA (n1 != 0) (some (.tuple [bT6 0,bT6 n1],[])) (G1 110 [A1 a0] fun n5=>aA (n5==0) (some (.tuple [bT6 0,bT6 16],[])) (some (.tuple [bT6 n5,bT6 0],[]))))):=cc
def aGL:KT:=SS.rK Tryz.f109 109 1 []
def a'F:KT:=SS.jK 109 103 1 (cS Tryz.f109 127) aGL
def a'G:KT:=bI 1 a'F
def SB (x1:Int) (x2:Int) (x4:Sh.V S1) (aJ:Int):R:=bG (SS.xX 109 103 1) (cS Tryz.f109 63) aGL ⟨[(1,bT6 x1),(2,bT6 x2),(3,bT8),(4,.cst (A1 x4))],[kL (aJ,())]⟩
def SC (x1:Int) (x2:Int) (x87:bTA) (aJ:Int) (x89:Int):R:=SS.LL (SS.ae 109 103) 1 [1,2,3,87,88,89] 1 (cS Tryz.f109 607) a'G ⟨[(1,bT6 x1),(2,bT6 x2),(3,bT8),(87,.sl false 4 x87),(88,bT6 (x87.length:Int)),(89,bT6 x89)],[kL (aJ,())]⟩
theorem aGK (x1:Int) (x2:Int) (x4:Sh.V S1) (aJ:Int):SB x1 x2 x4 aJ=SC x1 x2 x4.2.2.2.1 aJ 0:=by kernel_rfl
theorem YD (x1:Int) (x2:Int) (x87:bTA) (aJ:Int) (x89:Int):SC x1 x2 x87 aJ x89=aA (decide (x89<(x87.length:Int))) (bf S1 x87 x89 fun u2=>H19 109 [A1 u2,bT6 x1,bT6 (i64.wrap (x2+1)),bT8] [kL (aJ,())] fun n6 u7=>aA (n6 != 0) (some (bT6 n6,[kL u7])) (SC x1 x2 x87 u7.1 (i64.wrap (x89+1)))) (some (bT6 0,[kL (aJ,())])):=ll
theorem aGM (a0:Sh.V S1) (a1:Int) (a2:Int) (bU:Int):SS.CC 109 [A1 a0,bT6 a1,bT6 a2,bT8] [kL (bU,())]=aA (bU==64) (some (bT6 3,[kL (bU,())])) (aA (decide (8<a2)) (some (bT6 3,[kL (bU,())])) (G37 202 [bT6 a0.1] fun u1=>aA (!u1.2.1.1) (some (bT6 11,[kL (i64.wrap (bU+1),())])) (aA ((a0.2.2.2.1.length:Int) != u1.1.1) (some (bT6 4,[kL (i64.wrap (bU+1),())])) ((fun w=>aA (a0.1 != 0) (aA (a0.2.1 != 0) (some (bT6 6,[kL (i64.wrap (bU+1),())])) (aA (a0.1 != 1) (aA (a0.2.2.1 != 0) (some (bT6 6,[kL (i64.wrap (bU+1),())])) (aA (a0.1==0) (G3 203 [bT6 a0.2.1,bT6 65536] fun b4=>aA b4 (some (bT6 2,[kL (i64.wrap (bU+1),())])) w) w)) (aA (a0.1==0) (G3 203 [bT6 a0.2.1,bT6 65536] fun b6=>aA b6 (some (bT6 2,[kL (i64.wrap (bU+1),())])) w) w))) (aA (a0.1 != 1) (aA (a0.2.2.1 != 0) (some (bT6 6,[kL (i64.wrap (bU+1),())])) (aA (a0.1==0) (G3 203 [bT6 a0.2.1,bT6 65536] fun b8=>aA b8 (some (bT6 2,[kL (i64.wrap (bU+1),())])) w) w)) (aA (a0.1==0) (G3 203 [bT6 a0.2.1,bT6 65536] fun b10=>aA b10 (some (bT6 2,[kL (i64.wrap (bU+1),())])) w) w))) (aA (a0.1==1) (aA (decide (a0.2.2.1<0)) (some (bT6 2,[kL (i64.wrap (bU+1),())])) (aA (decide (a1<=a0.2.2.1)) (some (bT6 2,[kL (i64.wrap (bU+1),())])) (SB a1 a2 a0 (i64.wrap (bU+1))))) (SB a1 a2 a0 (i64.wrap (bU+1)))))))):=cc
def a'H:KT:=SS.rK Tryz.f110 110 0 []
def a'I:KT:=SS.jK 110 68 0 (cS Tryz.f110 15) a'H
def a'J:KT:=bI 0 a'I
def Ny (x1:Sh.V S1) (x11:Int) (aJ:bTA):R:=SS.LL (SS.ae 110 68) 0 [1,3,9,10,11] 1 (cS Tryz.f110 75) a'J ⟨[(1,.cst (A1 x1)),(3,bT8),(9,.sl false 4 x1.2.2.2.1),(10,bT6 (x1.2.2.2.1.length:Int)),(11,bT6 x11)],[ig (aJ,())]⟩
theorem Ji (x1:Sh.V S1) (x11:Int) (aJ:bTA):Ny x1 x11 aJ=aA (decide (x11<(x1.2.2.2.1.length:Int))) (bf S1 x1.2.2.2.1 x11 fun u2=>G1 110 [A1 u2] fun n6=>aA (n6==0) (some (bT6 0,[])) (chk (decide (aJ.length+1<=bC)) (Ny x1 (i64.wrap (x11+1)) (aJ ++ ([bT6 n6]:bTA))))) (aA (x1.1==0) (some (bT6 1,[])) (aA (x1.1==1) (some (bT6 1,[])) (aA (x1.1==2) (yc 204 [bT6 1,bT8] [ig (aJ,())] fun b8 u9=>aA b8 (some (bT6 1,[])) (some (bT6 0,[]))) (aA (x1.1==3) (yc 204 [bT6 1,bT8] [ig (aJ,())] fun b12 u13=>aA b12 (some (bT6 1,[])) (some (bT6 0,[]))) (aA (x1.1==4) (yc 204 [bT6 1,bT8] [ig (aJ,())] fun b16 rE=>aA b16 (some (bT6 1,[])) (some (bT6 0,[]))) (aA (x1.1==5) (yc 204 [bT6 1,bT8] [ig (aJ,())] fun b20 u21=>aA b20 (some (bT6 1,[])) (some (bT6 0,[]))) (aA (x1.1==6) (yc 204 [bT6 1,bT8] [ig (aJ,())] fun NT u25=>aA NT (some (bT6 2,[])) (some (bT6 0,[]))) (aA (x1.1==7) (yc 204 [bT6 1,bT8] [ig (aJ,())] fun b28 u29=>aA b28 (some (bT6 2,[])) (some (bT6 0,[]))) (aA (x1.1==8) (yc 204 [bT6 1,bT8] [ig (aJ,())] fun b32 u33=>aA b32 (some (bT6 2,[])) (some (bT6 0,[]))) (aA (x1.1==9) (yc 204 [bT6 1,bT8] [ig (aJ,())] fun b36 u37=>aA b36 (some (bT6 2,[])) (some (bT6 0,[]))) (aA (x1.1==10) (yc 204 [bT6 2,bT8] [ig (aJ,())] fun b40 u41=>aA b40 (some (bT6 2,[])) (some (bT6 0,[]))) (aA (x1.1==11) (yc 204 [bT6 2,bT8] [ig (aJ,())] fun b44 u45=>aA b44 (some (bT6 2,[])) (some (bT6 0,[]))) (aA (x1.1==12) (yc 204 [bT6 2,bT8] [ig (aJ,())] fun b48 u49=>aA b48 (some (bT6 2,[])) (some (bT6 0,[]))) (aA (x1.1==13) (eH aJ 0 fun e52=>vI .i64 e52 fun n53=>aA (n53==2) (eH aJ 1 fun e54=>vI .i64 e54 fun n55=>eH aJ 2 fun e56=>vI .i64 e56 fun n57=>aA (n55==n57) (eH aJ 1 fun e58=>vI .i64 e58 fun n59=>some (bT6 n59,[])) (some (bT6 0,[]))) (some (bT6 0,[]))) (some (bT6 0,[])))))))))))))))):=ll
theorem aGN (a0:Sh.V S1):SS.CC 110 [A1 a0] []=Ny a0 0 []:=cc
theorem a'K (a0:bT9):SS.CC 112 [.str a0] []=aA (a0.toList==(⟨#[116,114,117,101]⟩:bT9).toList) (some (.bool true,[])) (some (.bool (a0.toList==(⟨#[102,97,108,115,101]⟩:bT9).toList),[])):=cc
def a'L:KT:=SS.V4 SS.CC SS.LL (SS.ae 113 141) Tryz.f113.results.toList (SS.iF 113).ro 1 [] 1 166 [bT8,bT7 [.str ⟨#[41]⟩]]
def a'M:KT:=SS.rK Tryz.f113 113 1 []
def qj (x5:bTA) (x6:Sh.V S1) (x8:Int) (aJ:bTA) (x10:bT9):R:=bG (SS.xX 113 141 1) (cS Tryz.f113 63) a'L ⟨[(4,.ptr 1 0),(5,.cst (bT7 x5)),(6,.cst (A1 x6)),(8,bT6 x8),(9,.func (.func 208) [] [.ptr 1 0,.cst (bT7 x5),.cst (A1 x6)]),(10,.str x10)],[aF (aJ,()),some [bT8]]⟩
def qi (x5:bTA) (x6:Sh.V S1) (x8:Int) (aJ:bTA) (x10:bT9):R:=bG (SS.xX 113 141 1) (cS Tryz.f113 63) a'M ⟨[(4,.ptr 1 0),(5,.cst (bT7 x5)),(6,.cst (A1 x6)),(8,bT6 x8),(9,.func (.func 208) [] [.ptr 1 0,.cst (bT7 x5),.cst (A1 x6)]),(10,.str x10)],[aF (aJ,()),some [bT8]]⟩
theorem DL (x5:bTA) (x6:Sh.V S1) (x8:Int) (aJ:bTA) (x10:bT9):qj x5 x6 x8 aJ x10=rP 116 [] fun u1=>G3 23 [A1 x6,A1 u1] fun b6=>aA b6 (aU 165 [bT8,bT7 [.str ⟨#[116,114,117,101]⟩]] [aF (aJ,())] fun _ u8=>aU 166 [bT8,bT7 [.str ⟨#[41]⟩]] [aF u8] fun _ u11=>some (.tuple [],[aF u11])) (rP 117 [] fun u14=>G3 23 [A1 x6,A1 u14] fun b19=>aA b19 (aU 165 [bT8,bT7 [.str ⟨#[102,97,108,115,101]⟩]] [aF (aJ,())] fun _ u21=>aU 166 [bT8,bT7 [.str ⟨#[41]⟩]] [aF u21] fun _ u24=>some (.tuple [],[aF u24])) (aA (x6.1==0) (aU 167 [bT8,bT6 x6.2.1] [aF (aJ,())] fun _ u27=>aU 166 [bT8,bT7 [.str ⟨#[41]⟩]] [aF u27] fun _ u30=>some (.tuple [],[aF u30])) (aA (x6.1==1) (eH x5 x6.2.2.1 fun e33=>vS e33 fun s34=>aU 165 [bT8,bT7 [.str s34]] [aF (aJ,())] fun _ u35=>aU 166 [bT8,bT7 [.str ⟨#[41]⟩]] [aF u35] fun _ u38=>some (.tuple [],[aF u38])) (aA (x6.1==5) (bf S1 x6.2.2.2.1 0 fun u42=>aA (u42.1==0) (bf S1 x6.2.2.2.1 0 fun Vf=>aA (decide (0<=Vf.2.1)) (aU 166 [bT8,bT7 [.str ⟨#[45]⟩,.str ⟨#[40]⟩]] [aF (aJ,())] fun _ u51=>eQ 208 [bT6 0,bT6 0,bT8,.cst (bT7 x5),.cst (A1 x6)] [some [.ptr 1 0],aF u51] fun _ u54=>aU 166 [bT8,bT7 [.str ⟨#[41]⟩]] [aF u54] fun _ La=>aU 166 [bT8,bT7 [.str ⟨#[41]⟩]] [aF La] fun _ u60=>some (.tuple [],[aF u60])) (aA (x6.1==5) (aU 166 [bT8,bT7 [.str x10]] [aF (aJ,())] fun _ u63=>eQ 208 [bT6 0,bT6 6,bT8,.cst (bT7 x5),.cst (A1 x6)] [some [.ptr 1 0],aF u63] fun _ u66=>aU 166 [bT8,bT7 [.str ⟨#[41]⟩]] [aF u66] fun _ u69=>some (.tuple [],[aF u69])) (aA (x6.1==10) (aU 166 [bT8,bT7 [.str x10]] [aF (aJ,())] fun _ u72=>eQ 208 [bT6 0,bT6 6,bT8,.cst (bT7 x5),.cst (A1 x6)] [some [.ptr 1 0],aF u72] fun _ u75=>aU 166 [bT8,bT7 [.str ⟨#[41]⟩]] [aF u75] fun _ u78=>some (.tuple [],[aF u78])) (aA (x6.1==13) (eQ 208 [bT6 0,bT6 1,bT8,.cst (bT7 x5),.cst (A1 x6)] [some [.ptr 1 0],aF (aJ,())] fun _ Vh=>aU 166 [bT8,bT7 [.str ⟨#[63]⟩]] [aF Vh] fun _ Lc=>eQ 208 [bT6 1,bT6 0,bT8,.cst (bT7 x5),.cst (A1 x6)] [some [.ptr 1 0],aF Lc] fun _ Vj=>aU 166 [bT8,bT7 [.str ⟨#[58]⟩]] [aF Vj] fun _ Vk=>eQ 208 [bT6 2,bT6 0,bT8,.cst (bT7 x5),.cst (A1 x6)] [some [.ptr 1 0],aF Vk] fun _ u93=>aU 166 [bT8,bT7 [.str ⟨#[41]⟩]] [aF u93] fun _ u96=>some (.tuple [],[aF u96])) (aA (x8==3) (eQ 208 [bT6 0,bT6 4,bT8,.cst (bT7 x5),.cst (A1 x6)] [some [.ptr 1 0],aF (aJ,())] fun _ u99=>aU 166 [bT8,bT7 [.str x10]] [aF u99] fun _ VP=>eQ 208 [bT6 1,bT6 4,bT8,.cst (bT7 x5),.cst (A1 x6)] [some [.ptr 1 0],aF VP] fun _ u105=>aU 166 [bT8,bT7 [.str ⟨#[41]⟩]] [aF u105] fun _ aBG=>some (.tuple [],[aF aBG])) (eQ 208 [bT6 0,bT6 x8,bT8,.cst (bT7 x5),.cst (A1 x6)] [some [.ptr 1 0],aF (aJ,())] fun _ VR=>aU 166 [bT8,bT7 [.str x10]] [aF VR] fun _ aBI=>eQ 208 [bT6 1,bT6 (i64.wrap (x8+1)),bT8,.cst (bT7 x5),.cst (A1 x6)] [some [.ptr 1 0],aF aBI] fun _ VS=>aU 166 [bT8,bT7 [.str ⟨#[41]⟩]] [aF VS] fun _ VT=>some (.tuple [],[aF VT]))))))) (aA (x6.1==5) (aU 166 [bT8,bT7 [.str x10]] [aF (aJ,())] fun _ VU=>eQ 208 [bT6 0,bT6 6,bT8,.cst (bT7 x5),.cst (A1 x6)] [some [.ptr 1 0],aF VU] fun _ aBJ=>aU 166 [bT8,bT7 [.str ⟨#[41]⟩]] [aF aBJ] fun _ VW=>some (.tuple [],[aF VW])) (aA (x6.1==10) (aU 166 [bT8,bT7 [.str x10]] [aF (aJ,())] fun _ VX=>eQ 208 [bT6 0,bT6 6,bT8,.cst (bT7 x5),.cst (A1 x6)] [some [.ptr 1 0],aF VX] fun _ aBK=>aU 166 [bT8,bT7 [.str ⟨#[41]⟩]] [aF aBK] fun _ u138=>some (.tuple [],[aF u138])) (aA (x6.1==13) (eQ 208 [bT6 0,bT6 1,bT8,.cst (bT7 x5),.cst (A1 x6)] [some [.ptr 1 0],aF (aJ,())] fun _ VY=>aU 166 [bT8,bT7 [.str ⟨#[63]⟩]] [aF VY] fun _ VZ=>eQ 208 [bT6 1,bT6 0,bT8,.cst (bT7 x5),.cst (A1 x6)] [some [.ptr 1 0],aF VZ] fun _ Va=>aU 166 [bT8,bT7 [.str ⟨#[58]⟩]] [aF Va] fun _ a1H=>eQ 208 [bT6 2,bT6 0,bT8,.cst (bT7 x5),.cst (A1 x6)] [some [.ptr 1 0],aF a1H] fun _ aBL=>aU 166 [bT8,bT7 [.str ⟨#[41]⟩]] [aF aBL] fun _ Vb=>some (.tuple [],[aF Vb])) (aA (x8==3) (eQ 208 [bT6 0,bT6 4,bT8,.cst (bT7 x5),.cst (A1 x6)] [some [.ptr 1 0],aF (aJ,())] fun _ aBM=>aU 166 [bT8,bT7 [.str x10]] [aF aBM] fun _ u162=>eQ 208 [bT6 1,bT6 4,bT8,.cst (bT7 x5),.cst (A1 x6)] [some [.ptr 1 0],aF u162] fun _ Vd=>aU 166 [bT8,bT7 [.str ⟨#[41]⟩]] [aF Vd] fun _ Q9=>some (.tuple [],[aF Q9])) (eQ 208 [bT6 0,bT6 x8,bT8,.cst (bT7 x5),.cst (A1 x6)] [some [.ptr 1 0],aF (aJ,())] fun _ aBO=>aU 166 [bT8,bT7 [.str x10]] [aF aBO] fun _ Ve=>eQ 208 [bT6 1,bT6 (i64.wrap (x8+1)),bT8,.cst (bT7 x5),.cst (A1 x6)] [some [.ptr 1 0],aF Ve] fun _ aBP=>aU 166 [bT8,bT7 [.str ⟨#[41]⟩]] [aF aBP] fun _ QA=>some (.tuple [],[aF QA]))))))) (aA (x6.1==5) (aU 166 [bT8,bT7 [.str x10]] [aF (aJ,())] fun _ bOC=>eQ 208 [bT6 0,bT6 6,bT8,.cst (bT7 x5),.cst (A1 x6)] [some [.ptr 1 0],aF bOC] fun _ aBQ=>aU 166 [bT8,bT7 [.str ⟨#[41]⟩]] [aF aBQ] fun _ bOE=>some (.tuple [],[aF bOE])) (aA (x6.1==10) (aU 166 [bT8,bT7 [.str x10]] [aF (aJ,())] fun _ bOF=>eQ 208 [bT6 0,bT6 6,bT8,.cst (bT7 x5),.cst (A1 x6)] [some [.ptr 1 0],aF bOF] fun _ aBR=>aU 166 [bT8,bT7 [.str ⟨#[41]⟩]] [aF aBR] fun _ u198=>some (.tuple [],[aF u198])) (aA (x6.1==13) (eQ 208 [bT6 0,bT6 1,bT8,.cst (bT7 x5),.cst (A1 x6)] [some [.ptr 1 0],aF (aJ,())] fun _ u201=>aU 166 [bT8,bT7 [.str ⟨#[63]⟩]] [aF u201] fun _ bOH=>eQ 208 [bT6 1,bT6 0,bT8,.cst (bT7 x5),.cst (A1 x6)] [some [.ptr 1 0],aF bOH] fun _ bOI=>aU 166 [bT8,bT7 [.str ⟨#[58]⟩]] [aF bOI] fun _ u210=>eQ 208 [bT6 2,bT6 0,bT8,.cst (bT7 x5),.cst (A1 x6)] [some [.ptr 1 0],aF u210] fun _ bOJ=>aU 166 [bT8,bT7 [.str ⟨#[41]⟩]] [aF bOJ] fun _ bOL=>some (.tuple [],[aF bOL])) (aA (x8==3) (eQ 208 [bT6 0,bT6 4,bT8,.cst (bT7 x5),.cst (A1 x6)] [some [.ptr 1 0],aF (aJ,())] fun _ bOM=>aU 166 [bT8,bT7 [.str x10]] [aF bOM] fun _ bON=>eQ 208 [bT6 1,bT6 4,bT8,.cst (bT7 x5),.cst (A1 x6)] [some [.ptr 1 0],aF bON] fun _ aBS=>aU 166 [bT8,bT7 [.str ⟨#[41]⟩]] [aF aBS] fun _ bOO=>some (.tuple [],[aF bOO])) (eQ 208 [bT6 0,bT6 x8,bT8,.cst (bT7 x5),.cst (A1 x6)] [some [.ptr 1 0],aF (aJ,())] fun _ aBT=>aU 166 [bT8,bT7 [.str x10]] [aF aBT] fun _ u234=>eQ 208 [bT6 1,bT6 (i64.wrap (x8+1)),bT8,.cst (bT7 x5),.cst (A1 x6)] [some [.ptr 1 0],aF u234] fun _ bOQ=>aU 166 [bT8,bT7 [.str ⟨#[41]⟩]] [aF bOQ] fun _ aBU=>some (.tuple [],[aF aBU])))))))))):=by kernel_rfl
theorem DK (x5:bTA) (x6:Sh.V S1) (x8:Int) (aJ:bTA) (x10:bT9):qi x5 x6 x8 aJ x10=rP 116 [] fun u1=>G3 23 [A1 x6,A1 u1] fun b6=>aA b6 (aU 165 [bT8,bT7 [.str ⟨#[116,114,117,101]⟩]] [aF (aJ,())] fun _ u8=>some (.tuple [],[aF u8])) (rP 117 [] fun u11=>G3 23 [A1 x6,A1 u11] fun b16=>aA b16 (aU 165 [bT8,bT7 [.str ⟨#[102,97,108,115,101]⟩]] [aF (aJ,())] fun _ ku=>some (.tuple [],[aF ku])) (aA (x6.1==0) (aU 167 [bT8,bT6 x6.2.1] [aF (aJ,())] fun _ u21=>some (.tuple [],[aF u21])) (aA (x6.1==1) (eH x5 x6.2.2.1 fun e24=>vS e24 fun s25=>aU 165 [bT8,bT7 [.str s25]] [aF (aJ,())] fun _ u26=>some (.tuple [],[aF u26])) (aA (x6.1==5) (bf S1 x6.2.2.2.1 0 fun u30=>aA (u30.1==0) (bf S1 x6.2.2.2.1 0 fun u35=>aA (decide (0<=u35.2.1)) (aU 166 [bT8,bT7 [.str ⟨#[45]⟩,.str ⟨#[40]⟩]] [aF (aJ,())] fun _ u39=>eQ 208 [bT6 0,bT6 0,bT8,.cst (bT7 x5),.cst (A1 x6)] [some [.ptr 1 0],aF u39] fun _ u42=>aU 166 [bT8,bT7 [.str ⟨#[41]⟩]] [aF u42] fun _ u45=>some (.tuple [],[aF u45])) (aA (x6.1==5) (aU 166 [bT8,bT7 [.str x10]] [aF (aJ,())] fun _ u48=>eQ 208 [bT6 0,bT6 6,bT8,.cst (bT7 x5),.cst (A1 x6)] [some [.ptr 1 0],aF u48] fun _ u51=>some (.tuple [],[aF u51])) (aA (x6.1==10) (aU 166 [bT8,bT7 [.str x10]] [aF (aJ,())] fun _ u54=>eQ 208 [bT6 0,bT6 6,bT8,.cst (bT7 x5),.cst (A1 x6)] [some [.ptr 1 0],aF u54] fun _ La=>some (.tuple [],[aF La])) (aA (x6.1==13) (eQ 208 [bT6 0,bT6 1,bT8,.cst (bT7 x5),.cst (A1 x6)] [some [.ptr 1 0],aF (aJ,())] fun _ u60=>aU 166 [bT8,bT7 [.str ⟨#[63]⟩]] [aF u60] fun _ u63=>eQ 208 [bT6 1,bT6 0,bT8,.cst (bT7 x5),.cst (A1 x6)] [some [.ptr 1 0],aF u63] fun _ u66=>aU 166 [bT8,bT7 [.str ⟨#[58]⟩]] [aF u66] fun _ u69=>eQ 208 [bT6 2,bT6 0,bT8,.cst (bT7 x5),.cst (A1 x6)] [some [.ptr 1 0],aF u69] fun _ u72=>some (.tuple [],[aF u72])) (aA (x8==3) (eQ 208 [bT6 0,bT6 4,bT8,.cst (bT7 x5),.cst (A1 x6)] [some [.ptr 1 0],aF (aJ,())] fun _ u75=>aU 166 [bT8,bT7 [.str x10]] [aF u75] fun _ u78=>eQ 208 [bT6 1,bT6 4,bT8,.cst (bT7 x5),.cst (A1 x6)] [some [.ptr 1 0],aF u78] fun _ Vh=>some (.tuple [],[aF Vh])) (eQ 208 [bT6 0,bT6 x8,bT8,.cst (bT7 x5),.cst (A1 x6)] [some [.ptr 1 0],aF (aJ,())] fun _ Lc=>aU 166 [bT8,bT7 [.str x10]] [aF Lc] fun _ Vj=>eQ 208 [bT6 1,bT6 (i64.wrap (x8+1)),bT8,.cst (bT7 x5),.cst (A1 x6)] [some [.ptr 1 0],aF Vj] fun _ Vk=>some (.tuple [],[aF Vk]))))))) (aA (x6.1==5) (aU 166 [bT8,bT7 [.str x10]] [aF (aJ,())] fun _ u93=>eQ 208 [bT6 0,bT6 6,bT8,.cst (bT7 x5),.cst (A1 x6)] [some [.ptr 1 0],aF u93] fun _ u96=>some (.tuple [],[aF u96])) (aA (x6.1==10) (aU 166 [bT8,bT7 [.str x10]] [aF (aJ,())] fun _ u99=>eQ 208 [bT6 0,bT6 6,bT8,.cst (bT7 x5),.cst (A1 x6)] [some [.ptr 1 0],aF u99] fun _ VP=>some (.tuple [],[aF VP])) (aA (x6.1==13) (eQ 208 [bT6 0,bT6 1,bT8,.cst (bT7 x5),.cst (A1 x6)] [some [.ptr 1 0],aF (aJ,())] fun _ u105=>aU 166 [bT8,bT7 [.str ⟨#[63]⟩]] [aF u105] fun _ aBG=>eQ 208 [bT6 1,bT6 0,bT8,.cst (bT7 x5),.cst (A1 x6)] [some [.ptr 1 0],aF aBG] fun _ VR=>aU 166 [bT8,bT7 [.str ⟨#[58]⟩]] [aF VR] fun _ aBI=>eQ 208 [bT6 2,bT6 0,bT8,.cst (bT7 x5),.cst (A1 x6)] [some [.ptr 1 0],aF aBI] fun _ VS=>some (.tuple [],[aF VS])) (aA (x8==3) (eQ 208 [bT6 0,bT6 4,bT8,.cst (bT7 x5),.cst (A1 x6)] [some [.ptr 1 0],aF (aJ,())] fun _ VT=>aU 166 [bT8,bT7 [.str x10]] [aF VT] fun _ VU=>eQ 208 [bT6 1,bT6 4,bT8,.cst (bT7 x5),.cst (A1 x6)] [some [.ptr 1 0],aF VU] fun _ aBJ=>some (.tuple [],[aF aBJ])) (eQ 208 [bT6 0,bT6 x8,bT8,.cst (bT7 x5),.cst (A1 x6)] [some [.ptr 1 0],aF (aJ,())] fun _ VW=>aU 166 [bT8,bT7 [.str x10]] [aF VW] fun _ VX=>eQ 208 [bT6 1,bT6 (i64.wrap (x8+1)),bT8,.cst (bT7 x5),.cst (A1 x6)] [some [.ptr 1 0],aF VX] fun _ aBK=>some (.tuple [],[aF aBK]))))))) (aA (x6.1==5) (aU 166 [bT8,bT7 [.str x10]] [aF (aJ,())] fun _ u138=>eQ 208 [bT6 0,bT6 6,bT8,.cst (bT7 x5),.cst (A1 x6)] [some [.ptr 1 0],aF u138] fun _ VY=>some (.tuple [],[aF VY])) (aA (x6.1==10) (aU 166 [bT8,bT7 [.str x10]] [aF (aJ,())] fun _ VZ=>eQ 208 [bT6 0,bT6 6,bT8,.cst (bT7 x5),.cst (A1 x6)] [some [.ptr 1 0],aF VZ] fun _ Va=>some (.tuple [],[aF Va])) (aA (x6.1==13) (eQ 208 [bT6 0,bT6 1,bT8,.cst (bT7 x5),.cst (A1 x6)] [some [.ptr 1 0],aF (aJ,())] fun _ a1H=>aU 166 [bT8,bT7 [.str ⟨#[63]⟩]] [aF a1H] fun _ aBL=>eQ 208 [bT6 1,bT6 0,bT8,.cst (bT7 x5),.cst (A1 x6)] [some [.ptr 1 0],aF aBL] fun _ Vb=>aU 166 [bT8,bT7 [.str ⟨#[58]⟩]] [aF Vb] fun _ aBM=>eQ 208 [bT6 2,bT6 0,bT8,.cst (bT7 x5),.cst (A1 x6)] [some [.ptr 1 0],aF aBM] fun _ u162=>some (.tuple [],[aF u162])) (aA (x8==3) (eQ 208 [bT6 0,bT6 4,bT8,.cst (bT7 x5),.cst (A1 x6)] [some [.ptr 1 0],aF (aJ,())] fun _ Vd=>aU 166 [bT8,bT7 [.str x10]] [aF Vd] fun _ Q9=>eQ 208 [bT6 1,bT6 4,bT8,.cst (bT7 x5),.cst (A1 x6)] [some [.ptr 1 0],aF Q9] fun _ aBO=>some (.tuple [],[aF aBO])) (eQ 208 [bT6 0,bT6 x8,bT8,.cst (bT7 x5),.cst (A1 x6)] [some [.ptr 1 0],aF (aJ,())] fun _ Ve=>aU 166 [bT8,bT7 [.str x10]] [aF Ve] fun _ aBP=>eQ 208 [bT6 1,bT6 (i64.wrap (x8+1)),bT8,.cst (bT7 x5),.cst (A1 x6)] [some [.ptr 1 0],aF aBP] fun _ QA=>some (.tuple [],[aF QA])))))))))):=by kernel_rfl
theorem a'N (a1:bTA) (a2:Sh.V S1) (a3:Int) (bU:bTA):SS.CC 113 [bT8,bT7 a1,A1 a2,bT6 a3] [aF (bU,())]=G1 207 [A1 a2] fun n1=>aA (decide (n1<a3)) (aU 166 [bT8,bT7 [.str ⟨#[40]⟩]] [aF (bU,())] fun _ u3=>chk (decide (0<=a2.1)&&decide (a2.1<(14:Int))) (aA (a2.1==0) (qj a1 a2 n1 u3.1 ⟨#[]⟩) (aA (a2.1==1) (qj a1 a2 n1 u3.1 ⟨#[]⟩) (aA (a2.1==2) (qj a1 a2 n1 u3.1 ⟨#[43]⟩) (aA (a2.1==3) (qj a1 a2 n1 u3.1 ⟨#[45]⟩) (aA (a2.1==4) (qj a1 a2 n1 u3.1 ⟨#[42]⟩) (aA (a2.1==5) (qj a1 a2 n1 u3.1 ⟨#[45]⟩) (aA (a2.1==6) (qj a1 a2 n1 u3.1 ⟨#[61,61]⟩) (aA (a2.1==7) (qj a1 a2 n1 u3.1 ⟨#[33,61]⟩) (aA (a2.1==8) (qj a1 a2 n1 u3.1 ⟨#[60]⟩) (aA (a2.1==9) (qj a1 a2 n1 u3.1 ⟨#[60,61]⟩) (aA (a2.1==10) (qj a1 a2 n1 u3.1 ⟨#[33]⟩) (aA (a2.1==11) (qj a1 a2 n1 u3.1 ⟨#[38,38]⟩) (aA (a2.1==12) (qj a1 a2 n1 u3.1 ⟨#[124,124]⟩) (aA (a2.1==13) (qj a1 a2 n1 u3.1 ⟨#[63]⟩) (none)))))))))))))))) (chk (decide (0<=a2.1)&&decide (a2.1<(14:Int))) (aA (a2.1==0) (qi a1 a2 n1 bU ⟨#[]⟩) (aA (a2.1==1) (qi a1 a2 n1 bU ⟨#[]⟩) (aA (a2.1==2) (qi a1 a2 n1 bU ⟨#[43]⟩) (aA (a2.1==3) (qi a1 a2 n1 bU ⟨#[45]⟩) (aA (a2.1==4) (qi a1 a2 n1 bU ⟨#[42]⟩) (aA (a2.1==5) (qi a1 a2 n1 bU ⟨#[45]⟩) (aA (a2.1==6) (qi a1 a2 n1 bU ⟨#[61,61]⟩) (aA (a2.1==7) (qi a1 a2 n1 bU ⟨#[33,61]⟩) (aA (a2.1==8) (qi a1 a2 n1 bU ⟨#[60]⟩) (aA (a2.1==9) (qi a1 a2 n1 bU ⟨#[60,61]⟩) (aA (a2.1==10) (qi a1 a2 n1 bU ⟨#[33]⟩) (aA (a2.1==11) (qi a1 a2 n1 bU ⟨#[38,38]⟩) (aA (a2.1==12) (qi a1 a2 n1 bU ⟨#[124,124]⟩) (aA (a2.1==13) (qi a1 a2 n1 bU ⟨#[63]⟩) (none)))))))))))))))):=cc
def a'O:KT:=SS.rK Tryz.f114 114 0 []
def a'P:KT:=SS.jK 114 45 0 (cS Tryz.f114 31) a'O
def a'Q:KT:=bI 0 a'P
def SG (x0:bTA) (x4:bTA) (x16:Int):R:=SS.LL (SS.ae 114 45) 0 [0,4,14,15,16] 0 (cS Tryz.f114 151) a'Q ⟨[(0,.sl false 5 x0),(4,.sl true 1 x4),(14,.sl false 5 x0),(15,bT6 (x0.length:Int)),(16,bT6 x16)],[]⟩
theorem aGO (x0:bTA) (x4:bTA) (x16:Int):SG x0 x4 x16=aA (decide (x16<(x0.length:Int))) (bf lT x0 x16 fun u2=>chk (decide (x4.length+1<=bC)) (SG x0 (x4 ++ ([.str u2.2.1]:bTA)) (i64.wrap (x16+1)))) (G2 15 [bT7 x4,.str ⟨#[32]⟩] fun s7=>G13 99 [.str s7] fun u9=>aA (u9.2.2.2.1.1 != 0) (some (.tuple [.str ⟨#[]⟩,bT6 6],[])) (MS 175 [.sl false 5 u9.1.1] fun l14=>G3 209 [.sl false 5 l14,.sl false 5 x0,.func (.func 210) [] []] fun b16=>aA (!b16) (some (.tuple [.str ⟨#[]⟩,bT6 6],[])) (some (.tuple [.str s7,bT6 0],[])))):=ll
theorem a'R (a0:bTA):SS.CC 114 [.sl false 5 a0] []=MS 175 [.sl false 5 a0] fun l1=>SG l1 [] 0:=cc
theorem a'S (a0:Sh.V S1):SS.CC 115 [A1 a0] []=rP 116 [] fun u1=>G3 23 [A1 a0,A1 u1] fun b6=>aA b6 (some (bT6 7,[])) (rP 117 [] fun u8=>G3 23 [A1 a0,A1 u8] fun b13=>aA b13 (some (bT6 7,[])) (aA (a0.1==0) (aA (decide (a0.2.1<0)) (some (bT6 6,[])) (some (bT6 7,[]))) (aA (a0.1==13) (some (bT6 0,[])) (aA (a0.1==12) (some (bT6 1,[])) (aA (a0.1==11) (some (bT6 2,[])) (aA (a0.1==6) (some (bT6 3,[])) (aA (a0.1==7) (some (bT6 3,[])) (aA (a0.1==8) (some (bT6 3,[])) (aA (a0.1==9) (some (bT6 3,[])) (aA (a0.1==2) (some (bT6 4,[])) (aA (a0.1==3) (some (bT6 4,[])) (aA (a0.1==4) (some (bT6 5,[])) (aA (a0.1==10) (some (bT6 6,[])) (aA (a0.1==5) (some (bT6 6,[])) (some (bT6 7,[])))))))))))))))):=cc
def b05:KT:=SS.rK Tryz.f165 165 1 []
def b06:KT:=bI 0 b05
def O3 (x6:bTA) (aJ:bTA) (x8:Int):R:=SS.LL (SS.ae 165 24) 1 [0,6,7,8] 1 (cS Tryz.f165 9) b06 ⟨[(0,bT8),(6,bT7 x6),(7,bT6 (x6.length:Int)),(8,bT6 x8)],[aF (aJ,())]⟩
theorem YH (x6:bTA) (aJ:bTA) (x8:Int):O3 x6 aJ x8=aA (decide (x8<(x6.length:Int))) (eH x6 x8 fun e1=>vS e1 fun s2=>chk (decide (aJ.length+1<=bC)) (O3 x6 (aJ ++ ([ng (1,s2,0,0,0,())]:bTA)) (i64.wrap (x8+1)))) (some (.tuple [],[aF (aJ,())])):=ll
theorem a4K (a1:bTA) (bU:bTA):SS.CC 165 [bT8,bT7 a1] [aF (bU,())]=O3 a1 bU 0:=cc
def b07:KT:=SS.rK Tryz.f166 166 1 []
def b08:KT:=bI 0 b07
def a4L (x6:bTA) (aJ:bTA) (x8:Int):R:=SS.LL (SS.ae 166 24) 1 [0,6,7,8] 1 (cS Tryz.f166 9) b08 ⟨[(0,bT8),(6,bT7 x6),(7,bT6 (x6.length:Int)),(8,bT6 x8)],[aF (aJ,())]⟩
theorem SK (x6:bTA) (aJ:bTA) (x8:Int):a4L x6 aJ x8=aA (decide (x8<(x6.length:Int))) (eH x6 x8 fun e1=>vS e1 fun s2=>chk (decide (aJ.length+1<=bC)) (a4L x6 (aJ ++ ([ng (3,s2,0,0,0,())]:bTA)) (i64.wrap (x8+1)))) (some (.tuple [],[aF (aJ,())])):=ll
theorem aH0 (a1:bTA) (bU:bTA):SS.CC 166 [bT8,bT7 a1] [aF (bU,())]=a4L a1 bU 0:=cc
def b0A:KT:=SS.rK Tryz.f167 167 1 []
def YI (aJ:bTA) (x1:Int):R:=bG (SS.xX 167 24 1) (cS Tryz.f167 3) b0A ⟨[(0,bT8),(1,bT6 x1)],[aF (aJ,())]⟩
theorem b09 (aJ:bTA) (x1:Int):YI aJ x1=G2 35 [bT6 x1] fun s1=>chk (decide (aJ.length+1<=bC)) (some (.tuple [],[aF ((aJ ++ ([ng (2,s1,x1,0,0,())]:bTA)),())])):=by kernel_rfl
theorem b0B (a1:Int) (bU:bTA):SS.CC 167 [bT8,bT6 a1] [aF (bU,())]=aA (decide (a1<0)) (aU 166 [bT8,bT7 [.str ⟨#[45]⟩]] [aF (bU,())] fun _ u1=>YI u1.1 (i64.wrap (0-a1))) (YI bU a1):=cc
theorem b1G (a0:bTA):SS.CC 175 [.sl false 5 a0] []=G49 245 [.sl false 5 a0] fun l1=>aA (decide (0<l1.length)) (chk (l1.all (yJ 5)) (chk ((dm l1).all oZ&&true) (H50 244 [.slh 0 0 l1.length 5,.func (.func 246) [] []] [some (dm l1)] fun u3 l4=>chk (l4.all oZ&&true) (chk (decide (u3.1*5<=l4.length)&&decide (0<5)&&l4.all fun p=>p.one&&p.flat) (some (.sl false 5 (lF 5 l4 u3.1),[])))))) (MS 244 [.sl false 5 [],.func (.func 246) [] []] fun l7=>some (.sl false 5 l7,[])):=cc
theorem aHJ (a0:Int):SS.CC 202 [bT6 a0] []=aA (a0==0) (some (.tuple [bT6 0,.bool true],[])) (aA (a0==1) (some (.tuple [bT6 0,.bool true],[])) (aA (a0==5) (some (.tuple [bT6 1,.bool true],[])) (aA (a0==10) (some (.tuple [bT6 1,.bool true],[])) (aA (a0==2) (some (.tuple [bT6 2,.bool true],[])) (aA (a0==3) (some (.tuple [bT6 2,.bool true],[])) (aA (a0==4) (some (.tuple [bT6 2,.bool true],[])) (aA (a0==6) (some (.tuple [bT6 2,.bool true],[])) (aA (a0==7) (some (.tuple [bT6 2,.bool true],[])) (aA (a0==8) (some (.tuple [bT6 2,.bool true],[])) (aA (a0==9) (some (.tuple [bT6 2,.bool true],[])) (aA (a0==11) (some (.tuple [bT6 2,.bool true],[])) (aA (a0==12) (some (.tuple [bT6 2,.bool true],[])) (aA (a0==13) (some (.tuple [bT6 3,.bool true],[])) (some (.tuple [bT6 0,.bool false],[]))))))))))))))):=cc
theorem aHK (a0:Int) (a1:Int):SS.CC 203 [bT6 a0,bT6 a1] []=aA (decide (a1<a0)) (some (.bool true,[])) (some (.bool (decide (a0<(i64.wrap (0-a1)))),[])):=cc
theorem aHL (a0:Int) (bU:bTA):SS.CC 204 [bT6 a0,bT8] [ig (bU,())]=G3 205 [bT7 bU,.func (.func 206) [] [.cst (bT6 a0)]] fun b1=>some (.bool (!b1),[ig (bU,())]):=cc
theorem aHM (a0:bTA) (a1:Int):SS.CC 205 [bT7 a0,.func (.func 206) [] [.cst (bT6 a1)]] []=G1 258 [bT7 a0,.func (.func 206) [] [.cst (bT6 a1)]] fun n1=>some (.bool (decide (0<=n1)),[]):=cc
theorem aHN (a0:Int) (a1:Int):SS.CC 206 [bT6 a0,.cst (bT6 a1)] []=some (.bool (a0 != a1),[]):=cc
theorem b2X (a0:Sh.V S1):SS.CC 207 [A1 a0] []=rP 116 [] fun u1=>G3 23 [A1 a0,A1 u1] fun b6=>aA b6 (some (bT6 7,[])) (rP 117 [] fun u8=>G3 23 [A1 a0,A1 u8] fun b13=>aA b13 (some (bT6 7,[])) ((fun w=>aA (a0.1==0) (aA (decide (a0.2.1<0)) (some (bT6 6,[])) w) w) (chk (decide (0<=a0.1)&&decide (a0.1<(14:Int))) (aA (a0.1==0) (some (bT6 7,[])) (aA (a0.1==1) (some (bT6 7,[])) (aA (a0.1==2) (some (bT6 4,[])) (aA (a0.1==3) (some (bT6 4,[])) (aA (a0.1==4) (some (bT6 5,[])) (aA (a0.1==5) (some (bT6 6,[])) (aA (a0.1==6) (some (bT6 3,[])) (aA (a0.1==7) (some (bT6 3,[])) (aA (a0.1==8) (some (bT6 3,[])) (aA (a0.1==9) (some (bT6 3,[])) (aA (a0.1==10) (some (bT6 6,[])) (aA (a0.1==11) (some (bT6 2,[])) (aA (a0.1==12) (some (bT6 1,[])) (aA (a0.1==13) (some (bT6 0,[])) (none)))))))))))))))))):=cc
theorem b2Y (a0:Int) (a1:Int) (a3:bTA) (a4:Sh.V S1) (nP:bTA):SS.CC 208 [bT6 a0,bT6 a1,bT8,.cst (bT7 a3),.cst (A1 a4)] [some [.ptr 1 0],aF (nP,())]=bf S1 a4.2.2.2.1 a0 fun u2=>aU 113 [bT8,bT7 a3,A1 u2,bT6 a1] [aF (nP,())] fun _ u6=>some (.tuple [],[some [.ptr 1 0],aF u6]):=cc
def b2Z:KT:=SS.rK Tryz.f209 209 0 []
def b30:KT:=SS.jK 209 32 0 (cS Tryz.f209 15) b2Z
def b33:KT:=bI 0 b30
def YP (x1:bTA) (x15:bTA) (x17:Int):R:=SS.LL (SS.ae 209 32) 0 [1,2,15,16,17] 0 (cS Tryz.f209 75) b33 ⟨[(1,.sl false 5 x1),(2,.func (.func 210) [] []),(15,.sl false 5 x15),(16,bT6 (x15.length:Int)),(17,bT6 x17)],[]⟩
theorem aHO (x1:bTA) (x15:bTA) (x17:Int):YP x1 x15 x17=aA (decide (x17<(x15.length:Int))) (bf lT x15 x17 fun u2=>bf lT x1 x17 fun u8=>G3 210 [ng u2,ng u8] fun b13=>aA (!b13) (some (.bool false,[])) (YP x1 x15 (i64.wrap (x17+1)))) (some (.bool true,[])):=ll
theorem b34 (a0:bTA) (a1:bTA):SS.CC 209 [.sl false 5 a0,.sl false 5 a1,.func (.func 210) [] []] []=aA ((a0.length:Int) !=(a1.length:Int)) (some (.bool false,[])) (YP a1 a0 0):=cc
theorem b37 (a0:Sh.V lT) (a1:Sh.V lT):SS.CC 210 [ng a0,ng a1] []=aA (a0.1==a1.1) (aA (a0.2.1.toList==a1.2.1.toList) (some (.bool (a0.2.2.1==a1.2.2.1),[])) (some (.bool false,[]))) (some (.bool false,[])):=cc
def b4G:KT:=SS.rK Tryz.f244 244 1 [0]
def b4H:KT:=SS.jK 244 42 1 (cS Tryz.f244 31) b4G
def b4I:KT:=bI 0 b4H
def SX (x0:Nat) (x5:Int) (o0:bTA) (x6:Int):R:=SS.LL (SS.ae 244 42) 1 [0,1,5,6] 1 (cS Tryz.f244 151) b4I ⟨[(0,.slh 0 0 x0 5),(1,.func (.func 246) [] []),(5,bT6 x5),(6,bT6 x6)],[some o0]⟩
theorem aHV (x0:Nat) (x5:Int) (o0:bTA) (x6:Int):SX x0 x5 o0 x6=chk (o0.all oZ&&true) (aA (decide (x6<(x0:Int))) (chk (o0.all oZ&&true) (chk (decide (0<=x6)&&decide (x6<(x0:Int))) (chk (decide ((0+x6.toNat*5)+5<=o0.length)) (DV lT (.agg (((o0.drop (0+x6.toNat*5)).take 5).map PV.un)) fun u1=>G3 246 [ng u1] fun b6=>aA (!b6) (chk (decide (0<=x5)&&decide (x5<(x0:Int))) (chk (decide ((0+x5.toNat*5)+5<=o0.length)) (chk ((o0.take (0+x5.toNat*5) ++ (([bT6 u1.1,.str u1.2.1,bT6 u1.2.2.1,bT6 u1.2.2.2.1,bT6 u1.2.2.2.2.1]:bTA):bTA) ++ o0.drop ((0+x5.toNat*5)+5)).all oZ&&true) (SX x0 (i64.wrap (x5+1)) (o0.take (0+x5.toNat*5) ++ (([bT6 u1.1,.str u1.2.1,bT6 u1.2.2.1,bT6 u1.2.2.2.1,bT6 u1.2.2.2.2.1]:bTA):bTA) ++ o0.drop ((0+x5.toNat*5)+5)) (i64.wrap (x6+1)))))) (chk (o0.all oZ&&true) (SX x0 x5 o0 (i64.wrap (x6+1)))))))) (chk (o0.all oZ&&true) (chk (decide (0<=x5)&&decide (x5<=(x0:Int))) (aA (decide (x5<(x0:Int))) (chk (decide ((0+x5.toNat*5)+(x0-x5.toNat)*5<=o0.length)) (chk (decide (0<=x5)&&decide (x5<=(x0:Int))&&decide (0<x0)) (chk ((o0.take (0+x5.toNat*5) ++ ((List.replicate (x0-x5.toNat) (([bT6 0,.str ⟨#[]⟩,bT6 0,bT6 0,bT6 0]:bTA):bTA)).flatten.map PV.un) ++ o0.drop ((0+x5.toNat*5)+(x0-x5.toNat)*5)).all oZ&&true) (some (.slh 0 0 x5.toNat 5,[some (o0.take (0+x5.toNat*5) ++ ((List.replicate (x0-x5.toNat) (([bT6 0,.str ⟨#[]⟩,bT6 0,bT6 0,bT6 0]:bTA):bTA)).flatten.map PV.un) ++ o0.drop ((0+x5.toNat*5)+(x0-x5.toNat)*5))]))))) (chk (decide (0<=x5)&&decide (x5<=(x0:Int))&&decide (0<x0)) (chk (o0.all oZ&&true) (some (.slh 0 0 x5.toNat 5,[some o0])))))))):=ll
theorem b4J (a0:Nat) (h0:bTA):SS.CC 244 [.slh 0 0 a0 5,.func (.func 246) [] []] [some h0]=chk ((decide (a0*5<=h0.length)&&decide (0<5)&&h0.all tZ)&&true) (G1 299 [.sl false 5 (lF 5 h0 a0),.func (.func 246) [] []] fun n1=>aA (n1==(-1)) (chk (h0.all oZ&&true) (some (.slh 0 0 a0 5,[some h0]))) (chk (h0.all oZ&&true) (SX a0 n1 h0 (i64.wrap (n1+1))))):=cc
theorem b4K (a0:bTA):SS.CC 245 [.sl false 5 a0] []=IE a0 fun b1=>aA (b1==true) (some (.sl true 5 [],[])) (chk (decide (0+a0.length<=bC)) (some (.sl true 5 a0,[]))):=cc
theorem b4L (a0:Sh.V lT):SS.CC 246 [ng a0] []=some (.bool (a0.1==4),[]):=cc
def b5A:KT:=SS.rK Tryz.f258 258 0 []
def b5B:KT:=SS.jK 258 19 0 (cS Tryz.f258 7) b5A
def b5C:KT:=bI 0 b5B
def Sl (x0:bTA) (x1:Int) (x8:Int):R:=SS.LL (SS.ae 258 19) 0 [0,1,7,8] 0 (cS Tryz.f258 37) b5C ⟨[(0,bT7 x0),(1,.func (.func 206) [] [.cst (bT6 x1)]),(7,bT6 (x0.length:Int)),(8,bT6 x8)],[]⟩
theorem YV (x0:bTA) (x1:Int) (x8:Int):Sl x0 x1 x8=aA (decide (x8<(x0.length:Int))) (eH x0 x8 fun e1=>vI .i64 e1 fun n2=>G3 206 [bT6 n2,.cst (bT6 x1)] fun b3=>aA b3 (some (bT6 x8,[])) (Sl x0 x1 (i64.wrap (x8+1)))) (some (bT6 (-1),[])):=ll
theorem aI6 (a0:bTA) (a1:Int):SS.CC 258 [bT7 a0,.func (.func 206) [] [.cst (bT6 a1)]] []=Sl a0 a1 0:=cc
def b6V:KT:=SS.rK Tryz.f299 299 0 []
def b6W:KT:=SS.jK 299 19 0 (cS Tryz.f299 7) b6V
def b6X:KT:=bI 0 b6W
def Sv (x0:bTA) (x8:Int):R:=SS.LL (SS.ae 299 19) 0 [0,1,7,8] 0 (cS Tryz.f299 37) b6X ⟨[(0,.sl false 5 x0),(1,.func (.func 246) [] []),(7,bT6 (x0.length:Int)),(8,bT6 x8)],[]⟩
theorem aIH (x0:bTA) (x8:Int):Sv x0 x8=aA (decide (x8<(x0.length:Int))) (bf lT x0 x8 fun u2=>G3 246 [ng u2] fun b7=>aA b7 (some (bT6 x8,[])) (Sv x0 (i64.wrap (x8+1)))) (some (bT6 (-1),[])):=ll
theorem b6Y (a0:bTA):SS.CC 299 [.sl false 5 a0,.func (.func 246) [] []] []=Sv a0 0:=cc
end
theorem I5 {l:List EX} {k:Nat} (hk:k<l.length) (K:Sh.V S1->R):bf S1 (mZ l) (k:Int) K=K (ev l[k]):=by show eH (mZ l) (k:Int) _=_;rw[sD (e:=A1 (ev l[k])) (by omega) (by rw[a3R,oM,kJ,jF hk]; rfl)];rfl
theorem I4 {a:EX} {l:List EX} (K:Sh.V S1->R):bf S1 (mZ (a::l)) 0 K=K (ev a):=I5 (l:=a::l) (k:=0) (by simp) K
theorem vM (l:List EX):(mZ l).length=l.length:=by rw[a3R,aX]
mutual
def gq:EX->EX->Bool
 | .node o v i l,.node o' v' i' l'=>o==o'&&(v==v'&&(i==i'&&wZ l l'))
def wZ:List EX->List EX->Bool
 | [],[]=>true
 | a::l,b::l'=>gq a b&&wZ l l'
 | _,_=>false
end
theorem Rj (o v i:Int) (l:List EX) (o' v' i':Int) (l':List EX):gq (.node o v i l) (.node o' v' i' l')=(o==o'&&(v==v'&&(i==i'&&wZ l l'))):=by rw[gq]
theorem Xj (a b:EX) (l l':List EX):wZ (a::l) (b::l')=(gq a b&&wZ l l'):=by rw[wZ]
theorem Xk:∀ {l l':List EX},wZ l l'=true->l.length=l'.length
 | [],[],_=>rfl
 | [],_::_,h=>by rw[wZ] at h; cases h; all_goals simp
 | _::_,[],h=>by rw[wZ] at h; cases h; all_goals simp
 | a::l,b::l',h=>by rw[Xj,bF] at h; rw[bP,bP,Xk h.2]
theorem a3Q:∀ x y:EX,gq x y=true->x=y:=by
 intro x;induction x using EX.ind with
 | h o v i l ih =>
  intro y;obtain ⟨o',v',i',l'⟩:=y;intro h;rw[Rj,bF,bF,bF] at h;obtain ⟨h1,h2,h3,h4⟩:=h;have hl:∀ (l:List EX),(∀ e,e∈l->∀ y,gq e y=true->e=y)->∀ l',wZ l l'=true->l=l':=by
   intro l;induction l with
   | nil=>intro _ l' h; cases l' with
    | nil=>rfl
    | cons b l'=>have:=Xk h; cases this
   | cons a l ihl =>
    intro hi l' h;cases l' with
    | nil=>have:=Xk h; cases this
    | cons b l' =>rw[Xj,bF] at h;rw[hi a (by simp) b h.1,ihl (fun e he=>hi e (by simp[he])) l' h.2]
  rw[hl l ih l' h4,show o=o' by grind,show v=v' by grind,show i=i' by grind]
theorem Xg:∀ x:EX,gq x x=true:=by
 intro x;induction x using EX.ind with
 | h o v i l ih =>
  have hl:∀ (l:List EX),(∀ e,e∈l->gq e e=true)->wZ l l=true:=by
   intro l;induction l with
   | nil=>intro _; rw[wZ]
   | cons a l ihl=>grind [Xj]
  rw[Rj,beq_self_eq_true,beq_self_eq_true,beq_self_eq_true,hl l ih]; rfl
theorem drop_cons {α:Type} {l r:List α} {a:α} {k:Nat} (h:l.drop k=a::r):∃ hk:k<l.length,l[k]=a/\l.drop (k+1)=r:=by grind [List.drop_eq_nil_of_le,List.drop_eq_getElem_cons]
theorem aFF (la lb:List EX) (hn:la.length<9223372036854775807) (hl:la.length=lb.length) (ih:∀ e,e∈la->∀ y,SS.CC 23 [A1 (ev e),A1 (ev y)] []=some (.bool (gq e y),[])) :
 ∀ (a b:List EX) (k:Nat),la.drop k=a->lb.drop k=b->k<=la.length->YA (mZ lb) (mZ la) (k:Int)=some (.bool (wZ a b),[])
 | [],b,k,ha,hb,hk=>by have h1:la.length<=k:=MC.1 ha;grind [aGI,vM,aC,wZ]
 | a::ta,b,k,ha,hb,hk=>by
  obtain ⟨h1,h2,h3⟩:=drop_cons ha;have hkb:k<lb.length:=by omega
  rw[CG hkb] at hb;subst hb;rw[aGI,aO (by rw[vM]; omega),aH,I5 h1,I5 hkb,h2,bV (ih a (by rw[<- h2]; exact gG h1) _),Xj];cases gq a lb[k] with
  | false=>rfl
  | true =>rw[uH,aC,wrap64 (by omega) (by omega),show ((k:Int)+1)=((k+1:Nat):Int) by omega,Aa];exact aFF la lb hn hl ih ta _ (k+1) h3 rfl (by omega)
theorem iO {x:EX} (h:x.Len):∀ y,SS.CC 23 [A1 (ev x),A1 (ev y)] []=some (.bool (gq x y),[]):=by
 induction h with
 | @mk o v i l hl _ _ _ _ ih =>
  intro y;obtain ⟨o',v',i',l'⟩:=y;rw[b47,kX,kX,Rj];try dsimp only
  cases o==o' with
  | false=>rfl
  | true =>
   cases v==v' with
   | false=>rfl
   | true =>
    cases i==i' with
    | false=>rfl
    | true =>
     rw[aH,aH,aH,Aa,Aa,Aa];have:SS.CC 106 [.sl false 4 (mZ l),.sl false 4 (mZ l'),.func (.func 23) [] []] []=some (.bool (wZ l l'),[]):=by
      rw[a'A,vM,vM];by_cases hll:l.length=l'.length
      .rw[show ((l.length:Int) !=(l'.length:Int))=false by simp[hll],aC];exact aFF l l' (by omega) hll ih l l' 0 rfl rfl (zg _)
      .rw[show ((l.length:Int) !=(l'.length:Int))=true by simp; omega,aH];grind [Xk]
     rw[bV this]
def xu (o:Int):Nat:=if o=0\/o=1 then 0 else if o=5\/o=10 then 1 else if o=13 then 3 else 2
inductive Fd (n:Int):EX->Prop
 | mk {o v i:Int} {l:List EX}:0<=o->o<=13->l.length=xu o->(o≠0->v=0)->(o≠1->i=0)->(o=0 -> -65536<=v/\v<=65536)->(o=1->0<=i/\i<n)->(∀ e,e∈l->Fd n e)->Fd n (.node o v i l)
mutual
def fH:EX->Nat
 | .node _ _ _ l=>sU l+1
def sU:List EX->Nat
 | []=>0
 | e::l=>fH e+sU l
end
mutual
def fQ:EX->Nat
 | .node _ _ _ l=>yu l+1
def yu:List EX->Nat
 | []=>0
 | e::l=>max (fQ e) (yu l)
end
theorem arc (o:Int):∃ a b,SS.CC 202 [bT6 o] []=some (.tuple [bT6 a,.bool b],[])/\(b=true->0<=o/\o<=13/\a=(xu o:Int)):=by
 rw[aHJ];by_cases h:0<=o/\o<=13
 .have:o=0\/o=1\/o=2\/o=3\/o=4\/o=5\/o=6\/o=7\/o=8\/o=9\/o=10\/o=11\/o=12\/o=13:=by omega
  rcases this with rfl | rfl | rfl | rfl | rfl | rfl | rfl | rfl | rfl | rfl | rfl | rfl | rfl | rfl<;>exact ⟨_,true,rfl,fun _=>⟨by decide,by decide,rfl⟩⟩
 .have f:∀ k:Int,0<=k/\k<=13->(o==k)=false:=fun k hk=>by simp; omega
  refine ⟨0,false,?_,fun h=>by cases h⟩;rw[f 0 (by decide),f 1 (by decide),f 5 (by decide),f 10 (by decide),f 2 (by decide),f 3 (by decide),f 4 (by decide),f 6 (by decide),f 7 (by decide),f 8 (by decide),f 9 (by decide),f 11 (by decide),f 12 (by decide),f 13 (by decide)];rfl
theorem lgc (v:Int) (h : -9223372036854775808<=v/\v<=9223372036854775807):∃ b,SS.CC 203 [bT6 v,bT6 65536] []=some (.bool b,[])/\(b=false -> -65536<=v/\v<=65536):=by
 rw[aHK];by_cases h1:(65536:Int)<v;simp_all
 .rw[aV h1,aC,wrap64 (by decide) (by decide)];simp_all
def Qa (n:Int) (x:EX) (d c:Int) (r:R):Prop:=∃ e c',r=some (bT6 e,[kL (c',())])/\0<=c'/\c'<=64/\(e=0->Fd n x/\d+(fQ x:Int)<=9/\c'=c+(fH x:Int))
theorem aF4 {m:Nat}:∀ {l:List EX},(∀ e,e∈l->fQ e<=m)->yu l<=m
 | [],_=>by rw[yu]; omega
 | a::l,h=>by rw[yu]; exact Nat.max_le.2 ⟨h a (by simp),aF4 fun e he=>h e (by simp[he])⟩
theorem aFT {n d:Int} (hd:d<=8) (hd0:0<=d) (all:List EX) (hn:all.length<=3) (ih:∀ e,e∈all->∀ d c,0<=d->d<=9->0<=c->c<=64->Qa n e d c (SS.CC 109 [A1 (ev e),bT6 n,bT6 d,bT8] [kL (c,())])) :
 ∀ (l:List EX) (k:Nat) (c:Int),all.drop k=l->k<=all.length->0<=c->c<=64->∃ e c',SC n d (mZ all) c (k:Int)=some (bT6 e,[kL (c',())])/\0<=c'/\c'<=64/\(e=0->(∀ e,e∈l->Fd n e/\d+1+(fQ e:Int)<=9)/\c'=c+(sU l:Int))
 | [],k,c,ha,hk,h0,h1=>by have h2:all.length<=k:=MC.1 ha;rw[YD,aV (by rw[vM]; omega),aC];grind [sU]
 | a::l,k,c,ha,hk,h0,h1=>by
  obtain ⟨k1,k2,k3⟩:=drop_cons ha;rw[YD,aO (by rw[vM]; omega),aH,I5 k1,k2,wrap64 (by omega) (by omega)];obtain ⟨e,c',r1,r2,r3,r4⟩:=ih a (by rw[<- k2]; simp) (d+1) c (by omega) (by omega) h0 h1;rw[WX r1];try dsimp only
  by_cases he:e=0
  .obtain ⟨f1,f2,f3⟩:=r4 he;rw[zn he,aC,wrap64 (by omega) (by omega),show ((k:Int)+1)=((k+1:Nat):Int) by omega];obtain ⟨e2,c2,s1,s2,s3,s4⟩:=aFT hd hd0 all hn ih l (k+1) c' k3 (by omega) r2 r3;grind [sU]
  grind [aH]
theorem aZ7 {n:Int} {x:EX} (hx:x.Len):∀ d c,0<=d->d<=9->0<=c->c<=64->Qa n x d c (SS.CC 109 [A1 (ev x),bT6 n,bT6 d,bT8] [kL (c,())]):=by
 induction hx with
 | @mk o v i l hl hv ho hi _ ih =>
  intro d c h0 h1 h2 h3;have bad:∀ (e c':Int),e≠0->0<=c'->c'<=64->Qa n (.node o v i l) d c (some (bT6 e,[kL (c',())])):=fun e c' he k1 k2=>⟨e,c',rfl,k1,k2,fun h=>absurd h he⟩
  rw[aGM,kX];try dsimp only
  by_cases hc:c=64
  .rw[show (c==64)=true by simp[hc],aH]; simp_all
  rw[show (c==64)=false by grind,aC];by_cases hd:8<d
  .rw[aO hd,aH]; simp_all
  rw[aV hd,aC];obtain ⟨a,b,e1,e2⟩:=arc o;rw[aCK e1];try dsimp only
  have hw:i64.wrap (c+1)=c+1:=wrap64 (by omega) (by omega);rw[hw];have bad':∀ e:Int,e≠0->Qa n (.node o v i l) d c (some (bT6 e,[kL (c+1,())])):=fun e he=>bad e _ he (by omega) (by omega)
  cases b with
  | false=>rw[uq,aH]; simp_all
  | true =>
   obtain ⟨o1,o2,rfl⟩:=e2 rfl;rw[uH,aC,vM];by_cases hlen:l.length=xu o
   .have hl3:l.length<=3:=by rw[hlen]; grind [xu]
    rw[show ((l.length:Int) !=(xu o:Int))=false by simp[hlen],aC];have good:(o≠0->v=0)->(o≠1->i=0)->(o=0 -> -65536<=v/\v<=65536)->(o=1->0<=i/\i<n)->Qa n (.node o v i l) d c (SB n d (o,v,i,mZ l,()) (c+1)):=fun g1 g2 g3 g4=>by
     rw[aGK];obtain ⟨e,c',r1,r2,r3,r4⟩:=aFT (n:=n) (d:=d) (by omega) h0 l hl3 ih l 0 (c+1) rfl (zg _) (by omega) (by omega);refine ⟨e,c',r1,r2,r3,fun h => ?_⟩;obtain ⟨t1,t2⟩:=r4 h;refine ⟨.mk o1 o2 hlen g1 g2 g3 g4 fun e he=>(t1 e he).1,?_,?_⟩
     .rw[fQ];have:=aF4 (m:=(8-d).toNat) (l:=l) fun e he=>by have:=(t1 e he).2; omega
      omega
     .rw[fH,t2]; omega
    obtain ⟨bl,q1,q2⟩:=lgc v hv;rw[bV q1];by_cases p0:o=0
    .subst p0;rw[show ((0:Int) != 0)=false from rfl,aC,show ((0:Int) != 1)=true from rfl,aH];by_cases p2:i=0
     .rw[zn p2,aC,show ((0:Int)==0)=true from rfl,aH];cases bl with
      | true=>rw[aH]; simp_all
      | false =>rw[aC,show ((0:Int)==1)=false from rfl,aC];simp_all
     grind [aH]
    .rw[JS p0,aH];by_cases p1:v=0;grind [aC,aH,aV]
     grind [aH]
   .rw[show ((l.length:Int) !=(xu o:Int))=true by simp; omega,aH];simp_all
abbrev fV (l:List Int):bTA:=l.map fun k => bT6 k
theorem aLI (all:List Int) (hn:all.length<1000000000000) (a:Int):∀ (l:List Int) (k:Nat),all.drop k=l->∃ r,Sl (fV all) a (k:Int)=some (bT6 r,[])
 | [],k,h=>by have h1:all.length<=k:=MC.1 h;rw[YV,aV (by rw[aX]; omega),aC];simp
 | x::l,k,h=>by
  obtain ⟨h1,h2,h3⟩:=drop_cons h;rw[YV,aO (by rw[aX]; omega),aH,sD (e := bT6 x) (by omega) (by rw[oM,kJ,jF h1,h2]; rfl),wE,bV (aHN x a)];cases x != a with
  | true=>simp
  | false =>rw[aC,wrap64 (by omega) (by omega),show ((k:Int)+1)=((k+1:Nat):Int) by omega];exact aLI all hn a l (k+1) h3
theorem aUY (ks:List Int) (hn:ks.length<1000000000000) (a:Int):∃ b,SS.CC 204 [bT6 a,bT8] [ig (fV ks,())]=some (.bool b,[ig (fV ks,())]):=by
 obtain ⟨r,hr⟩:=aLI ks hn a ks 0 rfl;have h1:SS.CC 258 [bT7 (fV ks),.func (.func 206) [] [.cst (bT6 a)]] []=some (bT6 r,[]):=(aI6 _ _).trans hr;have h2:SS.CC 205 [bT7 (fV ks),.func (.func 206) [] [.cst (bT6 a)]] []=some (.bool (decide (0<=r)),[]):=by rw[aHM,eP h1]
 exact ⟨_,by rw[aHL,bV h2]⟩
def Tot (r:R):Prop:=∃ k,r=some (bT6 k,[])
theorem uk {b:Bool} {x y:R} (hx:Tot x) (hy:Tot y):Tot (aA b x y):=by cases b<;>assumption
theorem Ir (k:Int):Tot (some (bT6 k,[])):=⟨k,rfl⟩
theorem bNP {ks:List Int} (hn:ks.length<1000000000000) {a p q:Int}:Tot (yc 204 [bT6 a,bT8] [ig (fV ks,())] fun b _=>aA b (some (bT6 p,[])) (some (bT6 q,[]))):=by obtain ⟨b,hb⟩:=aUY ks hn a;rw[Qj hb];grind [uk,Ir]
theorem aM3 {o v i:Int} {all:List EX} (hn:all.length<=3) (h13:o=13->all.length=3) (ho:0<=o/\o<=13) (ih:∀ e,e∈all->Tot (SS.CC 110 [A1 (ev e)] [])) :
 ∀ (l:List EX) (k:Nat) (ks:List Int),all.drop k=l->ks.length=k->k<=all.length->Tot (Ny (o,v,i,mZ all,()) (k:Int) (fV ks))
 | [],k,ks,h,hk,hk2=>by
  have h1:all.length<=k:=MC.1 h;have hks:ks.length<1000000000000:=by omega
  rw[Ji];try dsimp only
  rw[aV (by rw[vM]; omega),aC];have al:=fun a p q=>bNP hks (a:=a) (p:=p) (q:=q)
  refine uk (Ir _) (uk (Ir _) (uk (al _ _ _) (uk (al _ _ _) (uk (al _ _ _) (uk (al _ _ _) (uk (al _ _ _) (uk (al _ _ _) (uk (al _ _ _) (uk (al _ _ _) (uk (al _ _ _) (uk (al _ _ _) (uk (al _ _ _) ?_))))))))))));by_cases h3:o=13
  .rw[show (o==13)=true by simp[h3],aH];have hl:=h13 h3;match ks,hk with
   | [a,b,c],_ =>rw[show fV [a,b,c] = [PV.int .i64 a,bT6 b,bT6 c] from rfl,sD (e := bT6 a) (by decide) rfl,wE];refine uk ?_ (Ir _);rw[sD (e := bT6 b) (by decide) rfl,wE,sD (e := bT6 c) (by decide) rfl,wE];refine uk ?_ (Ir _);exact Ir _
   | [],hk=>grind
   | [_],hk=>grind
   | [_,_],hk=>grind
   | _::_::_::_::_,hk=>grind
  grind [aC,Ir]
 | a::l,k,ks,h,hk,hk2=>by
  obtain ⟨h1,h2,h3⟩:=drop_cons h;rw[Ji];try dsimp only
  rw[aO (by rw[vM]; omega),aH,I5 h1,h2];obtain ⟨n,hn1⟩:=ih a (by rw[<- h2]; simp);rw[eP hn1];refine uk (Ir _) ?_;rw[au (aO (by rw[aX]; unfold bC; omega)),wrap64 (by omega) (by omega),show ((k:Int)+1)=((k+1:Nat):Int) by omega,show fV ks ++ ([bT6 n]:bTA)=fV (ks ++ [n]) by simp];exact aM3 hn h13 ho ih l (k+1) (ks ++ [n]) h3 (by simp[hk]) (by omega)
theorem bF5 {n:Int} {x:EX} (h:Fd n x):Tot (SS.CC 110 [A1 (ev x)] []):=by
 induction h with
 | @mk o v i l h1 h2 h3 _ _ _ _ _ ih =>
  rw[aGN,kX];have hl:l.length<=3:=by rw[h3]; grind [xu]
  exact aM3 hl (fun h=>by rw[h3,h]; rfl) ⟨h1,h2⟩ ih l 0 [] rfl rfl (zg _)
theorem a3I {x:EX} (hx:x.Len) {n:Int} (h0:0<=n) (h1:n<=16):∃ k e,SS.CC 27 [A1 (ev x),bT6 n] []=some (.tuple [bT6 k,bT6 e],[])/\(e=0->Fd n x/\fQ x<=8/\fH x<=64):=by
 rw[a4V,aV (by omega),aC,aV (by omega),aC];obtain ⟨e,c',r1,r2,r3,r4⟩:=aZ7 (n:=n) hx 1 0 (by decide) (by decide) (by decide) (by decide);rw[WX r1];try dsimp only
 by_cases he:e=0
 .obtain ⟨f1,f2,f3⟩:=r4 he;rw[zn he,aC];obtain ⟨k,hk⟩:=bF5 f1;rw[eP hk];cases k==0 with
  | true=>exact ⟨_,_,rfl,fun h=>by cases h⟩
  | false=>exact ⟨_,_,rfl,fun _=>⟨f1,by omega,by omega⟩⟩
 .rw[JS he,aH];grind
def BV (k n:Nat):Bool:=isLet n||(decide (k≠0)&&gy n)
def zy:bTB->Nat->Bool
 | [],_=>true
 | b::l,k=>BV k b.toNat&&zy l (k+1)
def nameB (l:bTB):Bool:=zy l 0&&(decide (0<l.length)&&decide (l.length<=32))
theorem bHM {k n:Nat} (h:((97<=n/\n<=122)\/(65<=n/\n<=90)\/n=95)\/(k≠0/\48<=n/\n<=57)):BV k n=true:=by grind [BV,isLet,gy]
theorem bHL {k n:Nat} (h:¬ (((97<=n/\n<=122)\/(65<=n/\n<=90)\/n=95)\/(k≠0/\48<=n/\n<=57))):BV k n=false:=by rw[Bool.eq_false_iff];grind [BV,isLet,gy]
theorem aOL (all:bTB) (hn:all.length<=1000):∀ (l:bTB) (k:Nat),all.drop k=l->k<=all.length->Eu (bs all) (k:Int)=some (.bool (zy l k&&(decide (0<all.length)&&decide (all.length<=32))),[])
 | [],k,h,hk=>by have h1:all.length<=k:=MC.1 h;rw[aI8,aV (by rw[jy]; omega),aC,zy,Aa,jy];grind [aH,aV,aC]
 | b::l,k,h,hk=>by
  obtain ⟨h1,h2,h3⟩:=drop_cons h;have ih:Eu (bs all) (i64.wrap ((k:Int)+1))=some (.bool (zy l (k+1)&&(decide (0<all.length)&&decide (all.length<=32))),[]):=by rw[wrap64 (by omega) (by omega),show ((k:Int)+1)=((k+1:Nat):Int) by omega];exact aOL all hn l (k+1) h3 (by omega)
  rw[aI8,aO (by rw[jy]; omega),aH,Eh (b:=b) (by omega) (by rw[oM,H5,jF h1,h2]),ih,zy];generalize b.toNat=n;have hf:BV k n=false->(some (PV.bool false,[]):R)=some (.bool (BV k n&&zy l (k+1)&&(decide (0<all.length)&&decide (all.length<=32))),[]):=fun h=>by rw[h]; rfl
  have ht:BV k n=true->(some (PV.bool (zy l (k+1)&&(decide (0<all.length)&&decide (all.length<=32))),[]):R)=some (.bool (BV k n&&zy l (k+1)&&(decide (0<all.length)&&decide (all.length<=32))),[]):=fun h=>by rw[h,Aa]
  simp only[RP,lw,rM,xW,pX];repeat' split
  all_goals first
   | exact ht (bHM (by omega))
   | exact hf (bHL (by omega))
theorem KQ (l:bTB) (hn:l.length<=1000):SS.CC 26 [.str (bs l)] []=some (.bool (nameB l),[]):=by rw[b5H]; exact aOL l hn l 0 rfl (zg _)
theorem aQ9 (l:bTB):SS.CC 112 [.str (bs l)] []=some (.bool (l==nH||l==pz),[]):=by rw[a'K,H6,tlT,tlF];cases l==nH<;>rfl
abbrev qw (l:List (bTB)):List bT9:=l.map bs
theorem aOK {l:List (bTB)} {k:Nat} (hk:k<l.length):(qC (qw l))[(k:Int).toNat]? = some (.str (bs l[k])):=by grind [qC]
theorem bH4 (l:List (bTB)):(qC (qw l)).length=l.length:=by grind [qC]
theorem Qc {g:FuncId} {a:bTA} {l1:bTA} {K:RS.F (.tl false 5) R} (e:SS.CC g a []=some (.sl false 5 l1,[])):MS g a K=K l1:=rZ e rfl
theorem aTM {g:FuncId} {a:bTA} {l1:bTA} {K:RS.F (.tl true 5) R} (e:SS.CC g a []=some (.sl true 5 l1,[])):G49 g a K=K l1:=rZ e rfl
theorem aU0 {g:FuncId} {a:bTA} {h:aG} {n:Nat} {l:bTA} {K:RS.F (.o (.H 0 0 5)) (di [.a])} (e:SS.CC g a h=some (.slh 0 0 n 5,[some l])):H50 g a h K=K (n,()) l:=fP e rfl
def vH (ts:List Tok):List Tok:=ts.filter fun t=>t.kind != 4
def D6 (t:Tok):bTA := [bT6 t.kind,.str (bs t.text),bT6 t.value,bT6 t.line,bT6 t.uM]
def kC (us:List Tok):bTA:=us.flatMap D6
theorem He (t:Tok) (us:List Tok):kC (t::us)=D6 t ++ kC us:=rfl
theorem aG3:∀ (us:List Tok),dm (us.map bD)=kC us
 | []=>rfl
 | t::us=>by rw[oN,He,<- aG3 us]; rfl
theorem Ru:∀ (us:List Tok),(kC us).length=us.length*5
 | []=>rfl
 | t::us=>by rw[He,aY,Ru us,bP,GV]; show 5+_=_; omega
theorem aG4 (a b:List Tok):kC (a ++ b)=kC a ++ kC b:=aC6
theorem Y1:∀ (us:List Tok) (j:Nat),(kC us).drop (j*5)=kC (us.drop j)
 | [],j=>by simp[kC]
 | t::us,0=>rfl
 | t::us,j+1=>by rw[He,show (j+1)*5=5+j*5 by omega,List.drop_succ_cons,<- Y1 us j];grind [D6]
theorem a4D:∀ (us:List Tok) (j:Nat),(kC us).take (j*5)=kC (us.take j)
 | [],j=>by simp[kC]
 | t::us,0=>by simp[kC]
 | t::us,j+1=>by rw[He,show (j+1)*5=5+j*5 by omega,List.take_succ_cons,He,<- a4D us j];grind [D6]
theorem aG7 {us:List Tok} {j:Nat} {t:Tok} (h:us[j]? = some t):((kC us).drop (j*5)).take 5=D6 t:=by
 have hlt:=(iJ.1 h).1;rw[Y1,CG hlt,He];rw[jF hlt] at h; injection h with h
 rw[h]; rfl
theorem aZF {us:List Tok} {i:Nat} (h:i<us.length) (t:Tok):(kC us).take (i*5) ++ D6 t ++ (kC us).drop (i*5+5)=kC (us.set i t):=by rw[show i*5+5=(i+1)*5 by omega,a4D,Y1,List.set_eq_take_append_cons_drop,aS h,aG4,He,mO]
theorem aZE (us:List Tok):(kC us).all tZ=true:=by rw[iY];intro p hp;obtain ⟨t,_,ht⟩:=List.mem_flatMap.1 hp;simp only[D6,jV,yS,yZ] at ht;rcases ht with rfl | rfl | rfl | rfl | rfl<;>rfl
theorem aG6 (us:List Tok):((kC us).all fun p=>p.one&&p.flat)=true:=by rw[iY];intro p hp;obtain ⟨t,_,ht⟩:=List.mem_flatMap.1 hp;simp only[D6,jV,yS,yZ] at ht;rcases ht with rfl | rfl | rfl | rfl | rfl<;>rfl
theorem bNN (us:List Tok):(us.map bD).all (yJ 5)=true:=by rw[iY];intro p hp;obtain ⟨t,_,rfl⟩:=qR.1 hp;rfl
theorem aG5 {us:List Tok} {k:Nat} (h:k<=us.length):lF 5 (kC us) k=(us.take k).map bD:=by
 show (List.range k).map (fun j=>PV.agg ((((kC us).drop (j*5)).take 5).map PV.un))=_;apply MG;intro j;by_cases hj:j<k
 .have h1:us[j]? = some us[j]:=jF (by omega);rw[kJ,List.getElem?_range hj,kJ,lM,aS hj,h1,JE,JE,aG7 h1];rfl
 simp_all
theorem bPS (m:Nat):((List.replicate m (([bT6 0,.str ⟨#[]⟩,bT6 0,bT6 0,bT6 0]:bTA):bTA)).flatten.map PV.un)=kC (List.replicate m Tok.zero):=by
 induction m with
 | zero=>rfl
 | succ m ih=>rw[List.replicate_succ,List.replicate_succ,List.flatten_cons,lq,ih,He]; rfl
theorem Jh (us:List Tok):(kC us).all oZ=true:=aG6 us
theorem bu {k:Nat} (h:k<1000000000000):i64.wrap ((k:Int)+1)=((k+1:Nat):Int):=by rw[wrap64 (by omega) (by omega)]; omega
theorem a3P {a b:Int} (h:a=b):(a==b)=true:=by simp[h]
theorem Xe {a b:Int} (h:a≠b):(a==b)=false:=by simp[h]
theorem UG {ts:List Tok} {k:Nat} (hk:k<ts.length) (K:Sh.V lT->R):bf lT (ts.map bD) (k:Int) K=K (tk ts[k]):=by show eH (ts.map bD) (k:Int) _=_;rw[sD (e:=bD ts[k]) (by omega) (by rw[oM,kJ,jF hk]; rfl)];rfl
theorem gvT (t:Tok) (K:Sh.V lT->R):DV lT (.agg ((D6 t).map PV.un)) K=K (tk t):=rfl
theorem m65 (t:Tok):SS.CC 246 [ng (tk t)] []=some (.bool (t.kind==4),[]):=b4L _
theorem bG9 (ts:List Tok) (hl:ts.length<=1000000):∀ (m k:Nat),k+m=ts.length->(∀ t,t∈ts.take k->t.kind≠4) ->
 (Sv (ts.map bD) (k:Int)=some (bT6 (-1),[])/\∀ t,t∈ts->t.kind≠4)\/∃ (p:Nat) (t:Tok),Sv (ts.map bD) (k:Int)=some (bT6 (p:Int),[])/\ts[p]? = some t/\t.kind=4/\∀ t,t∈ts.take p->t.kind≠4:=by
 intro m;induction m with
 | zero =>grind [aIH,aC]
 | succ m ih =>
  intro k hk h;have h1:ts[k]? = some ts[k]:=jF (by omega);rw[aIH,aO (by rw[aX]; omega),aH,UG (by omega),bV (m65 _),bu (by omega)];by_cases h4:ts[k].kind=4;grind [aH]
  .rw[Xe h4,aC];refine ih (k+1) (by omega) fun t ht => ?_
   rw[GR (by omega)] at ht;grind
theorem m82 (ts:List Tok) (hl:ts.length<=1000000):(SS.CC 299 [.sl false 5 (ts.map bD),.func (.func 246) [] []] []=some (bT6 (-1),[])/\∀ t,t∈ts->t.kind≠4)\/∃ (p:Nat) (t:Tok),SS.CC 299 [.sl false 5 (ts.map bD),.func (.func 246) [] []] []=some (bT6 (p:Int),[])/\ts[p]? = some t/\t.kind=4/\∀ t,t∈ts.take p->t.kind≠4:=by rw[b6Y];exact bG9 ts hl ts.length 0 (by omega) (by simp)
theorem RJ {ts:List Tok} (h:∀ t,t∈ts->t.kind≠4):vH ts=ts:=aC5.2 fun t ht=>by simp_all
theorem aE5 (a b:List Tok):vH (a ++ b)=vH a ++ vH b:=List.filter_append ..
theorem a2V {t:Tok} (h:t.kind=4) (l:List Tok):vH (t::l)=vH l:=List.filter_cons_of_neg (by simp[h])
theorem aVM {t:Tok} (h:t.kind≠4) (l:List Tok):vH (t::l)=t::vH l:=List.filter_cons_of_pos (by simp_all)
theorem bG7 (ts:List Tok) (hl:ts.length<=1000000) (h0:0<ts.length):∀ (m i j:Nat) (us:List Tok),j+m=ts.length->i<=j->us.length=ts.length->us.drop j=ts.drop j ->
 ∃ k wB,SX ts.length (i:Int) (kC us) (j:Int)=some (.slh 0 0 k 5,[some (kC wB)])/\wB.length=ts.length/\k<=ts.length/\wB.take k=us.take i ++ vH (ts.drop j):=by
 intro m;induction m with
 | zero =>
  intro i j us hj hij Jy hd;have hjn:j=ts.length:=by omega
  subst hjn;rw[aHV];simp only[Jh,J6,oM,qU,Ru];rw[au rfl,aV (by omega),aC,au rfl,au (by simp<;>omega)];rw[GN (cu _)];by_cases hi:i<ts.length
  .have e1:(kC us).take (i*5) ++ (List.replicate (ts.length-i) [PV.int .i64 0,.str ⟨#[]⟩,bT6 0,bT6 0,bT6 0]).flatten.map PV.un ++ (kC us).drop (i*5+(ts.length-i)*5)=kC (us.take i ++ List.replicate (ts.length-i) Tok.zero):=by rw[bPS,a4D,show i*5+(ts.length-i)*5=ts.length*5 by omega,<- Jy,Y1,GN (cu _),aG4];simp[kC]
   rw[aO (by omega),aH,e1,au (aO (by rw[Jy]; omega)),au (by simp<;>omega),Jh,au (b:=true&&true) rfl];grind [vH]
  .rw[aV (by omega),aC,au (by simp<;>omega),au rfl];grind [vH]
 | succ m ih =>
  intro i j us hj hij Jy hd;have hjl:j<ts.length:=by omega
  have h1:ts[j]? = some ts[j]:=jF hjl;have h2:us[j]? = some ts[j]:=by have:=congrArg (fun l=>l[0]?) hd;grind
  have hd1:us.drop (j+1)=ts.drop (j+1):=by have:=congrArg (fun l=>l.drop 1) hd;simpa using this
  rw[CG hjl];rw[aHV];simp only[Jh,J6,oM,qU,Ru,aG7 h2];rw[au rfl,aO (by omega),aH,au rfl,au (by simp<;>omega),au (aO (by rw[Jy]; omega)),gvT,bV (m65 _)];by_cases h4:ts[j].kind=4
  .rw[a3P h4,uH,aC,au rfl,bu (by omega)];obtain ⟨k,wB,q1,q2,q3,q4⟩:=ih i (j+1) us (by omega) (by omega) Jy hd1;grind [a2V]
  .have hil:i<us.length:=by omega
   have e1:=aZF hil ts[j];rw[Xe h4,uq,aH,au (by simp<;>omega),au (aO (by rw[Jy]; omega)),show [PV.int .i64 ts[j].kind,.str (bs ts[j].text),bT6 ts[j].value,bT6 ts[j].line,bT6 ts[j].uM]=D6 ts[j] from rfl,e1,Jh,au (b:=true&&true) rfl,
    bu (k:=i) (by omega),bu (k:=j) (by omega)]
   obtain ⟨k,wB,q1,q2,q3,q4⟩:=ih (i+1) (j+1) (us.set i ts[j]) (by omega) (by omega) (by rw[J9]; exact Jy) (by rw[List.drop_set_of_lt (by omega)]; exact hd1);grind [List.take_succ_eq_append_getElem,List.take_set_of_le,aVM]
theorem m63 (ts:List Tok) (hl:ts.length<=1000000) (h0:0<ts.length):∃ k wB,SS.CC 244 [.slh 0 0 ts.length 5,.func (.func 246) [] []] [some (kC ts)]=some (.slh 0 0 k 5,[some (kC wB)])/\wB.length=ts.length/\k<=ts.length/\wB.take k=vH ts:=by
 rw[b4J];simp only[aZE,Jh,Ru];rw[au (by simp),aG5 (cu _),yU (cu _)];rcases m82 ts hl with ⟨e,h⟩ | ⟨p,t,e,h1,h2,h3⟩
 .rw[eP e,a3P rfl,aH,au (b:=true&&true) rfl];grind [RJ]
 .have hp:=(iJ.1 h1).1;rw[eP e,Xe (by omega),aC,au (b:=true&&true) rfl,bu (by omega)];obtain ⟨k,wB,q1,q2,q3,q4⟩:=bG7 ts hl h0 (ts.length-(p+1)) p (p+1) ts (by omega) (by omega) rfl rfl;refine ⟨k,wB,q1,q2,q3,?_⟩;rw[q4];have hsplit:ts=ts.take p ++ t::ts.drop (p+1):=by grind [List.take_append_drop,List.drop_eq_getElem_cons]
  conv=>rhs; rw[hsplit,aE5,RJ h3,a2V h2]
theorem bG8:SS.CC 244 [.sl false 5 [],.func (.func 246) [] []] []=some (.sl false 5 [],[]):=WP dO 60 (by kernel_rfl)
theorem m64 (ts:List Tok) (hl:ts.length<=1000000):SS.CC 245 [.sl false 5 (ts.map bD)] []=some (.sl true 5 (ts.map bD),[]):=by
 rw[b4K];refine aOG ?_ fun h => ?_
 grind [aC,au,bC]
 .rw[h]; rfl
theorem m32 (ts:List Tok) (hl:ts.length<=1000000):SS.CC 175 [.sl false 5 (ts.map bD)] []=some (.sl false 5 ((vH ts).map bD),[]):=by
 rw[b1G,aTM (m64 ts hl),aX];by_cases h0:0<ts.length
 .obtain ⟨k,wB,q1,q2,q3,q4⟩:=m63 ts hl h0;rw[aO h0,aH,au (bNN ts),aG3,Jh,au (b:=true&&true) rfl,aU0 q1,Jh,au (b:=true&&true) rfl,aG6,Ru,au (by rw[aO (by omega)]; rfl),aG5 (by omega),q4]
 .have:ts = []:=kU (by omega);subst this;rw[aV h0,aC,Qc bG8]; rfl
abbrev tW (s:bTB):Tok:=⟨1,s,0,0,0⟩
abbrev tS (s:bTB):Tok:=⟨3,s,0,0,0⟩
abbrev tN (n:Nat):Tok:=⟨2,Lib.decDigits n,n,0,0⟩
def eY (v:Int):List Tok:=if v<0 then [tS [45],tN (-v).toNat] else [tN v.toNat]
def iW (x:EX):Int:=if gq x tE=true then 7 else if gq x fE=true then 7 else match x with
 | .node o v _ _=>if o=0 then (if v<0 then 6 else 7) else if o=1 then 7 else if o=2 then 4 else if o=3 then 4 else if o=4 then 5 else if o=5 then 6 else if o=6 then 3 else if o=7 then 3 else if o=8 then 3 else if o=9 then 3 else if o=10 then 6 else if o=11 then 2 else if o=12 then 1 else 0
def wp (x:EX) (need:Int) (B:List Tok):List Tok:=if iW x<need then tS [40]::(B ++ [tS [41]]) else B
inductive PB (ns:List (List UInt8)):EX->List Tok->Prop
 | tt:PB ns tE [tW nH]
 | ff:PB ns fE [tW pz]
 | num {v:Int} : -65536<=v->v<=65536->PB ns (nE v) (eY v)
 | var {i:Nat} {s:bTB}:ns[i]? = some s->PB ns (vE (i:Int)) [tW s]
 | KN {v:Int}:0<=v->v<=65536->PB ns (nE v) (eY v)->PB ns (kw 5 (nE v)) (tS [45]::tS [40]::(eY v ++ [tS [41]]))
 | neg {o v i:Int} {l:List EX} {B:List Tok}:(o≠0\/v<0)->PB ns (.node o v i l) B->PB ns (kw 5 (.node o v i l)) (tS [45]::wp (.node o v i l) 6 B)
 | yF {a:EX} {B:List Tok}:PB ns a B->PB ns (kw 10 a) (tS [33]::wp a 6 B)
 | cmp {o:Int} {a b:EX} {A B:List Tok}:(o=6\/o=7\/o=8\/o=9)->gq (kW o a b) tE=false->gq (kW o a b) fE=false->PB ns a A->PB ns b B->PB ns (kW o a b) (wp a 4 A ++ tS (uj o)::wp b 4 B)
 | bin {o lv:Int} {a b:EX} {A B:List Tok}:(o=2/\lv=4\/o=3/\lv=4\/o=4/\lv=5\/o=11/\lv=2\/o=12/\lv=1)->PB ns a A->PB ns b B->PB ns (kW o a b) (wp a lv A ++ tS (uj o)::wp b (lv+1) B)
 | ite {c a b:EX} {C A B:List Tok}:PB ns c C->PB ns a A->PB ns b B->PB ns (.node 13 0 0 [c,a,b]) (wp c 1 C ++ tS [63]::(wp a 0 A ++ tS [58]::wp b 0 B))
theorem GI (x:EX) (need:Int) (B:List Tok):(wp x need B).length<=B.length+2:=by grind [wp]
theorem aO' {l:List EX} (h:l.length=1):∃ a,l = [a]:=by
 match l,h with
 | [a],_=>simp
theorem aST {l:List EX} (h:l.length=2):∃ a b,l = [a,b]:=by
 match l,h with
 | [a,b],_=>simp
theorem bND {l:List EX} (h:l.length=3):∃ a b c,l = [a,b,c]:=by
 match l,h with
 | [a,b,c],_=>simp
theorem KP {l:List EX} (h:l.length=0):l = []:=kU h
theorem bJP (ns:List (bTB)) {x:EX} (h:Fd (ns.length:Int) x):∃ B,PB ns x B/\B.length<=8*fH x:=by
 induction h with
 | @mk o v i l h1 h2 h3 h4 h5 h6 h7 _ ih =>
  have hop:o=0\/o=1\/o=2\/o=3\/o=4\/o=5\/o=6\/o=7\/o=8\/o=9\/o=10\/o=11\/o=12\/o=13:=by omega
  by_cases ht:gq (.node o v i l) tE=true
  .rw[a3Q _ _ ht]; exact ⟨_,.tt,by decide⟩
  by_cases hf:gq (.node o v i l) fE=true
  .rw[a3Q _ _ hf]; exact ⟨_,.ff,by decide⟩
  have sz1:∀ a:EX,fH (.node o v i [a])=fH a+1:=fun a=>by rfl
  have sz2:∀ a b:EX,fH (.node o v i [a,b])=fH a+fH b+1:=fun a b=>by rfl
  have bi:∀ lv:Int,(o=2/\lv=4\/o=3/\lv=4\/o=4/\lv=5\/o=11/\lv=2\/o=12/\lv=1)->∃ B,PB ns (.node o v i l) B/\B.length<=8*fH (.node o v i l):=fun lv hlv=>by obtain ⟨a,b,rfl⟩:=aST (show l.length=2 by rw[h3]; grind [xu]);obtain rfl:=h4 (by omega);obtain rfl:=h5 (by omega);obtain ⟨A,a1,a2⟩:=ih a (by simp);obtain ⟨B,b1,b2⟩:=ih b (by simp);have w1:=GI a lv A;have w2:=GI b (lv+1) B;exact ⟨_,.bin hlv a1 b1,by rw[sz2,aY,bP]; omega⟩
  have cm:(o=6\/o=7\/o=8\/o=9)->∃ B,PB ns (.node o v i l) B/\B.length<=8*fH (.node o v i l):=fun ho=>by obtain ⟨a,b,rfl⟩:=aST (show l.length=2 by rw[h3]; grind [xu]);obtain rfl:=h4 (by omega);obtain rfl:=h5 (by omega);obtain ⟨A,a1,a2⟩:=ih a (by simp);obtain ⟨B,b1,b2⟩:=ih b (by simp);have w1:=GI a 4 A;have w2:=GI b 4 B;exact ⟨_,.cmp ho (by grind) (by grind) a1 b1,by rw[sz2,aY,bP]; omega⟩
  rcases hop with rfl | rfl | rfl | rfl | rfl | rfl | rfl | rfl | rfl | rfl | rfl | rfl | rfl | rfl
  .obtain rfl:=KP (show l.length=0 from h3);obtain rfl:=h5 (by decide);obtain ⟨v1,v2⟩:=h6 rfl;refine ⟨_,.num v1 v2,?_⟩;grind [eY,fH]
  .obtain rfl:=KP (show l.length=0 from h3);obtain rfl:=h4 (by decide);obtain ⟨i1,i2⟩:=h7 rfl;have hi:i.toNat<ns.length:=by omega
   have hv:(EX.node 1 0 i [])=vE (i.toNat:Int):=by rw[QM i1]; rfl
   rw[hv];exact ⟨_,.var (jF hi),by simp[fH,sU,vE]⟩
  simp_all;simp_all;simp_all
  .obtain ⟨a,rfl⟩:=aO' (show l.length=1 from h3);obtain rfl:=h4 (by decide);obtain rfl:=h5 (by decide);obtain ⟨A,a1,a2⟩:=ih a (by simp);obtain ⟨ao,av,ai,al⟩:=a;by_cases hc:ao≠0\/av<0
   .have w1:=GI (.node ao av ai al) 6 A;exact ⟨_,.neg hc a1,by rw[sz1,bP]; omega⟩
   .have h0:ao=0:=by omega
    subst h0;cases a1 with
    | num v1 v2 =>refine ⟨_,.KN (by omega) v2 (.num v1 v2),?_⟩;rw[sz1,bP,bP,aY,rH];omega
    | cmp ho=>omega
    | bin ho=>omega
  simp_all;simp_all;simp_all;simp_all
  .obtain ⟨a,rfl⟩:=aO' (show l.length=1 from h3);obtain rfl:=h4 (by decide);obtain rfl:=h5 (by decide);obtain ⟨A,a1,a2⟩:=ih a (by simp);have w1:=GI a 6 A;exact ⟨_,.yF a1,by rw[sz1,bP]; omega⟩
  simp_all;simp_all
  .obtain ⟨c,a,b,rfl⟩:=bND (show l.length=3 from h3);obtain rfl:=h4 (by decide);obtain rfl:=h5 (by decide);obtain ⟨C,c1,c2⟩:=ih c (by simp);obtain ⟨A,a1,a2⟩:=ih a (by simp);obtain ⟨B,b1,b2⟩:=ih b (by simp);have w0:=GI c 1 C;have w1:=GI a 0 A;have w2:=GI b 0 B;refine ⟨_,.ite c1 a1 b1,?_⟩;rw[show fH (.node 13 0 0 [c,a,b])=fH c+fH a+fH b+1 by simp[fH,sU]; omega,aY,bP,aY,bP];omega
theorem bG4 {x:EX} (hx:x.Len):∀ {o v i:Int} {l:List EX},x = .node o v i l->0<=o->o<=13->SS.CC 207 [A1 (ev x)] []=some (bT6 (iW x),[])/\SS.CC 115 [A1 (ev x)] []=some (bT6 (iW x),[]):=by
 intro o v i l e h1 h2;have hop:o=0\/o=1\/o=2\/o=3\/o=4\/o=5\/o=6\/o=7\/o=8\/o=9\/o=10\/o=11\/o=12\/o=13:=by omega
 rw[b2X,a'S,gQ c116,gQ c116,bV (iO hx tE),bV (iO hx tE)];unfold iW;cases ct:gq x tE with
 | true=>simp
 | false =>
  rw[aC,aC,gQ c117,gQ c117,bV (iO hx fE),bV (iO hx fE)];cases cf:gq x fE with
  | true=>simp
  | false =>
   subst e;rw[aC,aC,kX,aQ (by decide),aQ (by decide)];try dsimp only
   rcases hop with rfl | rfl | rfl | rfl | rfl | rfl | rfl | rfl | rfl | rfl | rfl | rfl | rfl | rfl
   .by_cases hv:v<0;simp_all
    .rw[aV hv,aQ hv]; exact ⟨rfl,rfl⟩
   all_goals exact ⟨rfl,rfl⟩
theorem JH {g:FuncId} {args:bTA} {h:aG} {v:PV×aG} (e:CS g args h=some v):SS.CC g args h=some v:=by rw[MO dO];show FM (CS g args h) _=_;rw[e]; rfl
theorem is_other {A:RA} (h:A.ok) {s t:bTB} (hs:s∈jO) (ht:t∈jO) (c:A.is s=true) (hne:s≠t):A.is t=false:=by grind [Oa]
section
variable {A B:RA} {x:EX} {d:Int} {v:bTA}
end
def mk0 (T:List Tok):RA:=⟨T,0,0,0⟩
theorem jX {T:List Tok} (h:ak T):(mk0 T).ok:=fun _=>h
theorem xG {t:Tok} {T:List Tok} (h:t.kind≠4):(mk0 (t::T)).next=mk0 T:=by unfold RA.next;rw[aS ⟨rfl,h⟩]; rfl
theorem EJ {t:Tok} {T:List Tok} (h:ak (t::T)) (hk:t.kind≠4):ak T:=by
 rcases h with ⟨h,_⟩ | h
 omega
 .exact h.2
def uQ (s:bTB) (t:Tok):Prop:=t.kind=3/\t.text=s
theorem KC {s:bTB} (hs:s∈jO) {t:Tok} {T:List Tok} (h:ak (t::T)) (ht:uQ s t):(mk0 (t::T)).is s=true:=by rw[Oa (jX h) hs];show (t.kind==3&&t.text==s)=true;rw[ht.1,ht.2]; simp
theorem DY {s:bTB} {t:Tok} {T:List Tok} (ht:uQ s t):(mk0 (t::T)).next=mk0 T:=xG (by rw[ht.1]; decide)
abbrev dP (l:List Tok):Sh.V gY:=(l.map bD,())
theorem jq (s:bT9) (acc:List Tok) (h:acc.length+1<=1000000):SS.CC 166 [bT8,bT7 [.str s]] [aF (dP acc)]=some (.tuple [],[aF (dP (acc ++ [tS s.data.toList]))]):=by rw[aH0,SK,aO (by simp),aH,sD (e := .str s) (by decide) rfl,nY,au (aO (by rw[aX]; unfold bC; omega)),wrap64 (by decide) (by decide),SK,aV (by simp),aC];grind [bD,XL]
theorem sy2 (s r:bT9) (acc:List Tok) (h:acc.length+2<=1000000):SS.CC 166 [bT8,bT7 [.str s,.str r]] [aF (dP acc)]=some (.tuple [],[aF (dP (acc ++ [tS s.data.toList,tS r.data.toList]))]):=by
 rw[aH0,SK,aO (by simp),aH,sD (e := .str s) (by decide) rfl,nY,au (aO (by rw[aX]; unfold bC; omega)),wrap64 (by decide) (by decide),
  SK,aO (by simp),aH,sD (e := .str r) (by decide) rfl,nY,au (aO (by rw[aY,aX]; grind [bC])),wrap64 (by decide) (by decide),SK,aV (by simp),aC]
 grind [bD,XL]
theorem xU (s:bT9) (acc:List Tok) (h:acc.length+1<=1000000):SS.CC 165 [bT8,bT7 [.str s]] [aF (dP acc)]=some (.tuple [],[aF (dP (acc ++ [tW s.data.toList]))]):=by rw[a4K,YH,aO (by simp),aH,sD (e := .str s) (by decide) rfl,nY,au (aO (by rw[aX]; unfold bC; omega)),wrap64 (by decide) (by decide),YH,aV (by simp),aC];grind [bD,XL]
theorem bDP (m:Int):CS 35 [bT6 m] []=(match decide (0<=m)&&decide (m<Qk) with | true=>some (PV.str ⟨(Lib.decDigits m.toNat).toArray⟩,([]:aG)) | false=>none):=rfl
theorem aLH (n:Nat) (h:n<=65536):SS.CC 35 [bT6 (n:Int)] []=some (.str (bs (Lib.decDigits n)),[]):=by refine JH ?_;rw[bDP,aO (by omega),aO (by unfold Qk; omega),oM];rfl
theorem aOS (n:Nat) (h:n<=65536) (acc:List Tok) (h2:acc.length+1<=1000000):YI (acc.map bD) (n:Int)=some (.tuple [],[aF (dP (acc ++ [tN n]))]):=by rw[b09,wJ (aLH n h),au (aO (by rw[aX]; unfold bC; omega))];grind [bD]
theorem IK {v:Int} (h0 : -65536<=v) (h1:v<=65536) (acc:List Tok) (h:acc.length+(eY v).length<=1000000):SS.CC 167 [bT8,bT6 v] [aF (dP acc)]=some (.tuple [],[aF (dP (acc ++ eY v))]):=by
 rw[b0B];unfold eY at h ⊢;by_cases hv:v<0
 .rw[aS hv] at h ⊢;have h:acc.length+2<=1000000:=h;rw[aO hv,aH,bM (jq ⟨#[45]⟩ acc (by omega))];grind [wrap64,aOS]
 grind [aC,aOS]
abbrev NS (ns:List (bTB)):bTA:=qC (qw ns)
def WR (ns:List (bTB)) (x:EX) (need:Int) (T:List Tok):Prop:=∀ acc:List Tok,acc.length+T.length+1<=1000000 ->
 SS.CC 113 [bT8,bT7 (NS ns),A1 (ev x),bT6 need] [aF (dP acc)]=some (.tuple [],[aF (dP (acc ++ T))])
def Bv (o:Int):bT9:=if o=2 then ⟨#[43]⟩ else if o=3 then ⟨#[45]⟩ else if o=4 then ⟨#[42]⟩ else if o=5 then ⟨#[45]⟩ else if o=6 then ⟨#[61,61]⟩ else if o=7 then ⟨#[33,61]⟩ else if o=8 then ⟨#[60]⟩ else if o=9 then ⟨#[60,61]⟩ else if o=10 then ⟨#[33]⟩ else if o=11 then ⟨#[38,38]⟩ else if o=12 then ⟨#[124,124]⟩ else if o=13 then ⟨#[63]⟩ else ⟨#[]⟩
def EX.op:EX->Int
 | .node o _ _ _=>o
def WB (ns:List (bTB)) (x:EX) (B:List Tok):Prop:=∀ acc:List Tok,acc.length+B.length+1<=1000000 ->
 qi (NS ns) (ev x) (iW x) (acc.map bD) (Bv x.op)=some (.tuple [],[aF (dP (acc ++ B))]) /\
 qj (NS ns) (ev x) (iW x) (acc.map bD) (Bv x.op)=some (.tuple [],[aF (dP (acc ++ B ++ [tS [41]]))])
theorem aYL (x:EX):(ev x).1=x.op:=by obtain ⟨o,v,i,l⟩:=x; rw[kX]; rfl
theorem GK {ns:List (bTB)} {x:EX} {B:List Tok} (hx:x.Len) (h1:0<=x.op) (h2:x.op<=13) (hb:WB ns x B) (need:Int):WR ns x need (wp x need B):=by
 intro acc hacc;have hop:x.op=0\/x.op=1\/x.op=2\/x.op=3\/x.op=4\/x.op=5\/x.op=6\/x.op=7\/x.op=8\/x.op=9\/x.op=10\/x.op=11\/x.op=12\/x.op=13:=by omega
 have lv:SS.CC 207 [A1 (ev x)] []=some (bT6 (iW x),[]):=by obtain ⟨o,v,i,l⟩:=x;exact (bG4 hx rfl h1 h2).1
 rw[a'N,eP lv,aYL];unfold wp at hacc ⊢;by_cases hn:iW x<need
 .rw[aS hn] at hacc ⊢;rw[bP,aY,rH] at hacc;rw[aO hn,aH,bM (jq ⟨#[40]⟩ acc (by omega))];try dsimp only
  have hb:=(hb (acc ++ [tS [40]]) (by rw[aY,rH]; omega)).2;rw[mO,mO] at hb;rw[au (by rw[aO (by omega),aO (by omega)]; rfl)];rcases hop with h | h | h | h | h | h | h | h | h | h | h | h | h | h<;>(rw[h] at hb ⊢; exact hb)
 .rw[aQ hn] at hacc ⊢;have hb:=hb acc;rw[aV hn,aC,au (by rw[aO (by omega),aO (by omega)]; rfl)];have hb:=(hb hacc).1;rcases hop with h | h | h | h | h | h | h | h | h | h | h | h | h | h<;>(rw[h] at hb ⊢; exact hb)
theorem zY (acc:List Tok) (h:acc.length+1<=1000000):SS.CC 166 [bT8,bT7 [.str ⟨#[41]⟩]] [aF (dP acc)]=some (.tuple [],[aF (dP (acc ++ [tS [41]]))]):=jq _ acc h
theorem syQ (acc:List Tok) (h:acc.length+1<=1000000):SS.CC 166 [bT8,bT7 [.str ⟨#[63]⟩]] [aF (dP acc)]=some (.tuple [],[aF (dP (acc ++ [tS [63]]))]):=jq _ acc h
theorem syD (acc:List Tok) (h:acc.length+1<=1000000):SS.CC 166 [bT8,bT7 [.str ⟨#[58]⟩]] [aF (dP acc)]=some (.tuple [],[aF (dP (acc ++ [tS [58]]))]):=jq _ acc h
theorem aSD (acc:List Tok) (h:acc.length+2<=1000000):SS.CC 166 [bT8,bT7 [.str ⟨#[45]⟩,.str ⟨#[40]⟩]] [aF (dP acc)]=some (.tuple [],[aF (dP (acc ++ [tS [45],tS [40]]))]):=sy2 _ _ acc h
theorem woT (acc:List Tok) (h:acc.length+1<=1000000):SS.CC 165 [bT8,bT7 [.str ⟨#[116,114,117,101]⟩]] [aF (dP acc)]=some (.tuple [],[aF (dP (acc ++ [tW nH]))]):=xU _ acc h
theorem woF (acc:List Tok) (h:acc.length+1<=1000000):SS.CC 165 [bT8,bT7 [.str ⟨#[102,97,108,115,101]⟩]] [aF (dP acc)]=some (.tuple [],[aF (dP (acc ++ [tW pz]))]):=xU _ acc h
theorem woB (s:bTB) (acc:List Tok) (h:acc.length+1<=1000000):SS.CC 165 [bT8,bT7 [.str (bs s)]] [aF (dP acc)]=some (.tuple [],[aF (dP (acc ++ [tW s]))]):=xU _ acc h
def Bi (o:Int):bTB:=if o=5 then [45] else if o=10 then [33] else uj o
theorem EH {o:Int} (ho:o=2\/o=3\/o=4\/o=5\/o=6\/o=7\/o=8\/o=9\/o=10\/o=11\/o=12) (acc:List Tok) (h:acc.length+1<=1000000):SS.CC 166 [bT8,bT7 [.str (Bv o)]] [aF (dP acc)]=some (.tuple [],[aF (dP (acc ++ [tS (Bi o)]))]):=by rw[jq _ acc h];rcases ho with rfl | rfl | rfl | rfl | rfl | rfl | rfl | rfl | rfl | rfl | rfl<;>rfl
theorem agc {ns:List (bTB)} {o v i:Int} {l:List EX} {k:Nat} (hk:k<l.length) {need:Int} {T:List Tok} (hw:WR ns l[k] need T) (acc:List Tok) (h:acc.length+T.length+1<=1000000) :
 SS.CC 208 [bT6 (k:Int),bT6 need,bT8,.cst (bT7 (NS ns)),.cst (A1 (o,v,i,mZ l,()))] [some [.ptr 1 0],aF (dP acc)]=some (.tuple [],[some [.ptr 1 0],aF (dP (acc ++ T))]):=by
 rw[b2Y];try dsimp only
 rw[I5 hk,bM (hw acc h)]
theorem xn {ns:List (bTB)} {o v i:Int} {a:EX} {l:List EX} {need:Int} {T:List Tok} (hw:WR ns a need T) (acc:List Tok) (h:acc.length+T.length+1<=1000000) :
 SS.CC 208 [bT6 0,bT6 need,bT8,.cst (bT7 (NS ns)),.cst (A1 (o,v,i,mZ (a::l),()))] [some [.ptr 1 0],aF (dP acc)]=some (.tuple [],[some [.ptr 1 0],aF (dP (acc ++ T))]):=agc (l:=a::l) (k:=0) (by simp) hw acc h
theorem NQ {ns:List (bTB)} {o v i:Int} {a b:EX} {l:List EX} {need:Int} {T:List Tok} (hw:WR ns b need T) (acc:List Tok) (h:acc.length+T.length+1<=1000000) :
 SS.CC 208 [bT6 1,bT6 need,bT8,.cst (bT7 (NS ns)),.cst (A1 (o,v,i,mZ (a::b::l),()))] [some [.ptr 1 0],aF (dP acc)]=some (.tuple [],[some [.ptr 1 0],aF (dP (acc ++ T))]):=agc (l:=a::b::l) (k:=1) (by simp) hw acc h
theorem ag2 {ns:List (bTB)} {o v i:Int} {a b c:EX} {l:List EX} {need:Int} {T:List Tok} (hw:WR ns c need T) (acc:List Tok) (h:acc.length+T.length+1<=1000000) :
 SS.CC 208 [bT6 2,bT6 need,bT8,.cst (bT7 (NS ns)),.cst (A1 (o,v,i,mZ (a::b::c::l),()))] [some [.ptr 1 0],aF (dP acc)]=some (.tuple [],[some [.ptr 1 0],aF (dP (acc ++ T))]):=agc (l:=a::b::c::l) (k:=2) (by simp) hw acc h
theorem Len.arg {o v i:Int} {l:List EX} (h:(EX.node o v i l).Len) {e:EX} (he:e∈l):e.Len:=by
 cases h with
 | mk _ _ _ _ h5=>grind
theorem Dl {o v i:Int} {l:List EX} (h:o≠6):gq (.node o v i l) tE=false:=by grind [tE,Rj]
theorem FC {o v i:Int} {l:List EX} (h:o≠7):gq (.node o v i l) fE=false:=by grind [fE,Rj]
section
variable {ns:List (bTB)}
theorem bPI (hx:tE.Len):WB ns tE [tW nH]:=fun acc h=>by
 have h:acc.length+1+1<=1000000:=h;constructor
 .rw[DK,gQ c116,bV (iO hx tE),show gq tE tE=true from Xg _,aH,bM (woT acc (by omega))]
 .rw[DL,gQ c116,bV (iO hx tE),show gq tE tE=true from Xg _,aH,bM (woT acc (by omega)),bM (zY _ (by rw[aY,rH]; omega))]
theorem bPC (hx:fE.Len):WB ns fE [tW pz]:=fun acc h=>by
 have h:acc.length+1+1<=1000000:=h;have ht:gq fE tE=false:=Dl (by decide);constructor
 .rw[DK,gQ c116,bV (iO hx tE),ht,aC,gQ c117,bV (iO hx fE),show gq fE fE=true from Xg _,aH,bM (woF acc (by omega))]
 .rw[DL,gQ c116,bV (iO hx tE),ht,aC,gQ c117,bV (iO hx fE),show gq fE fE=true from Xg _,aH,bM (woF acc (by omega)),bM (zY _ (by rw[aY,rH]; omega))]
theorem bPH {v:Int} (h0 : -65536<=v) (h1:v<=65536) (hx:(EX.node 0 v 0 []).Len):WB ns (nE v) (eY v):=fun acc h=>by
 have ht:gq (.node 0 v 0 []) tE=false:=Dl (by decide);have hf:gq (.node 0 v 0 []) fE=false:=FC (by decide);unfold nE;constructor
 .rw[DK,gQ c116,bV (iO hx tE),ht,aC,gQ c117,bV (iO hx fE),hf,aC,kX];try dsimp only
  rw[show ((0:Int)==0)=true from rfl,aH,bM (IK h0 h1 acc (by omega))]
 .rw[DL,gQ c116,bV (iO hx tE),ht,aC,gQ c117,bV (iO hx fE),hf,aC,kX];try dsimp only
  rw[show ((0:Int)==0)=true from rfl,aH,bM (IK h0 h1 acc (by omega)),bM (zY _ (by rw[aY]; omega))]
theorem bPJ {i:Nat} {s:bTB} (hs:ns[i]? = some s) (hx:(EX.node 1 0 (i:Int) []).Len):WB ns (vE (i:Int)) [tW s]:=fun acc h=>by
 have h:acc.length+1+1<=1000000:=h;have ht:gq (.node 1 0 (i:Int) []) tE=false:=Dl (by decide);have hf:gq (.node 1 0 (i:Int) []) fE=false:=FC (by decide);have hg:(NS ns)[(i:Int).toNat]? = some (.str (bs s)):=by grind [aOK]
 unfold vE;constructor
 .rw[DK,gQ c116,bV (iO hx tE),ht,aC,gQ c117,bV (iO hx fE),hf,aC,kX];try dsimp only
  rw[show ((1:Int)==0)=false from rfl,aC,show ((1:Int)==1)=true from rfl,aH,sD (by omega) hg,nY,bM (woB s acc (by omega))]
 .rw[DL,gQ c116,bV (iO hx tE),ht,aC,gQ c117,bV (iO hx fE),hf,aC,kX];try dsimp only
  rw[show ((1:Int)==0)=false from rfl,aC,show ((1:Int)==1)=true from rfl,aH,sD (by omega) hg,nY,bM (woB s acc (by omega)),bM (zY _ (by rw[aY,rH]; omega))]
theorem bPF {v:Int} (h0:0<=v) (hw:WR ns (nE v) 0 (eY v)) (hx:(EX.node 5 0 0 [nE v]).Len):WB ns (kw 5 (nE v)) (tS [45]::tS [40]::(eY v ++ [tS [41]])):=fun acc h=>by
 have h:acc.length+((eY v ++ [tS [41]]).length+1+1)+1<=1000000:=h;rw[aY,rH] at h;have ht:gq (.node 5 0 0 [nE v]) tE=false:=Dl (by decide);have hf:gq (.node 5 0 0 [nE v]) fE=false:=FC (by decide);have e:acc ++ tS [45]::tS [40]::(eY v ++ [tS [41]])=acc ++ [tS [45],tS [40]] ++ eY v ++ [tS [41]]:=by simp
 have l1:(acc ++ [tS [45],tS [40]]).length=acc.length+2:=by simp
 have l2:(acc ++ [tS [45],tS [40]] ++ eY v).length=acc.length+2+(eY v).length:=by rw[aY,l1]
 unfold kw;rw[e];show qi _ _ _ _ (Bv 5)=_/\qj _ _ _ _ (Bv 5)=_;constructor
 .rw[DK,gQ c116,bV (iO hx tE),ht,aC,gQ c117,bV (iO hx fE),hf,aC,kX];try dsimp only
  rw[show ((5:Int)==0)=false from rfl,aC,show ((5:Int)==1)=false from rfl,aC,show ((5:Int)==5)=true from rfl,aH,I4,I4,Rl];try dsimp only
  rw[show ((0:Int)==0)=true from rfl,aH,aO h0,aH,bM (aSD acc (by omega)),nz (xn hw _ (by rw[l1]; omega)),bM (zY _ (by rw[l2]; omega))]
 .rw[DL,gQ c116,bV (iO hx tE),ht,aC,gQ c117,bV (iO hx fE),hf,aC,kX];try dsimp only
  rw[show ((5:Int)==0)=false from rfl,aC,show ((5:Int)==1)=false from rfl,aC,show ((5:Int)==5)=true from rfl,aH,I4,I4,Rl];try dsimp only
  rw[show ((0:Int)==0)=true from rfl,aH,aO h0,aH,bM (aSD acc (by omega)),nz (xn hw _ (by rw[l1]; omega)),bM (zY _ (by rw[l2]; omega)),bM (zY _ (by rw[aY,l2,rH]; omega))]
theorem bPE {o v i:Int} {l:List EX} {T:List Tok} (hc:o≠0\/v<0) (hw:WR ns (.node o v i l) 6 T) (hx:(EX.node 5 0 0 [.node o v i l]).Len):WB ns (kw 5 (.node o v i l)) (tS [45]::T):=fun acc h=>by
 have h:acc.length+(T.length+1)+1<=1000000:=h;have ht:gq (.node 5 0 0 [.node o v i l]) tE=false:=Dl (by decide);have hf:gq (.node 5 0 0 [.node o v i l]) fE=false:=FC (by decide);have e:acc ++ tS [45]::T=acc ++ [tS [45]] ++ T:=by simp
 have l1:(acc ++ [tS [45]]).length=acc.length+1:=by simp
 unfold kw;rw[e];show qi _ _ _ _ (Bv 5)=_/\qj _ _ _ _ (Bv 5)=_;constructor
 .rw[DK,gQ c116,bV (iO hx tE),ht,aC,gQ c117,bV (iO hx fE),hf,aC,kX];try dsimp only
  rw[show ((5:Int)==0)=false from rfl,aC,show ((5:Int)==1)=false from rfl,aC,show ((5:Int)==5)=true from rfl,aH,I4,I4,kX];try dsimp only
  by_cases h0:o=0
  .rw[show (o==0)=true by simp[h0],aH,aV (by omega),aC,aH,bM (EH (o:=5) (by simp) acc (by omega))];rw[show Bi 5 = [45] from rfl,nz (xn hw _ (by rw[l1]; omega))]
  .rw[show (o==0)=false by grind,aC,aH,bM (EH (o:=5) (by simp) acc (by omega))];rw[show Bi 5 = [45] from rfl,nz (xn hw _ (by rw[l1]; omega))]
 .rw[DL,gQ c116,bV (iO hx tE),ht,aC,gQ c117,bV (iO hx fE),hf,aC,kX];try dsimp only
  rw[show ((5:Int)==0)=false from rfl,aC,show ((5:Int)==1)=false from rfl,aC,show ((5:Int)==5)=true from rfl,aH,I4,I4,kX];try dsimp only
  by_cases h0:o=0
  .rw[show (o==0)=true by simp[h0],aH,aV (by omega),aC,aH,bM (EH (o:=5) (by simp) acc (by omega))];rw[show Bi 5 = [45] from rfl,nz (xn hw _ (by rw[l1]; omega)),bM (zY _ (by rw[aY,l1]; omega))]
  .rw[show (o==0)=false by grind,aC,aH,bM (EH (o:=5) (by simp) acc (by omega))];rw[show Bi 5 = [45] from rfl,nz (xn hw _ (by rw[l1]; omega)),bM (zY _ (by rw[aY,l1]; omega))]
theorem bPG {a:EX} {T:List Tok} (hw:WR ns a 6 T) (hx:(EX.node 10 0 0 [a]).Len):WB ns (kw 10 a) (tS [33]::T):=fun acc h=>by
 have h:acc.length+(T.length+1)+1<=1000000:=h;have ht:gq (.node 10 0 0 [a]) tE=false:=Dl (by decide);have hf:gq (.node 10 0 0 [a]) fE=false:=FC (by decide);have e:acc ++ tS [33]::T=acc ++ [tS [33]] ++ T:=by simp
 have l1:(acc ++ [tS [33]]).length=acc.length+1:=by simp
 unfold kw;rw[e];show qi _ _ _ _ (Bv 10)=_/\qj _ _ _ _ (Bv 10)=_;constructor
 .rw[DK,gQ c116,bV (iO hx tE),ht,aC,gQ c117,bV (iO hx fE),hf,aC,kX];try dsimp only
  rw[show ((10:Int)==0)=false from rfl,aC,show ((10:Int)==1)=false from rfl,aC,show ((10:Int)==5)=false from rfl,aC,aC,show ((10:Int)==10)=true from rfl,aH,bM (EH (o:=10) (by simp) acc (by omega)),show Bi 10 = [33] from rfl,nz (xn hw _ (by rw[l1]; omega))]
 .rw[DL,gQ c116,bV (iO hx tE),ht,aC,gQ c117,bV (iO hx fE),hf,aC,kX];try dsimp only
  rw[show ((10:Int)==0)=false from rfl,aC,show ((10:Int)==1)=false from rfl,aC,show ((10:Int)==5)=false from rfl,aC,aC,show ((10:Int)==10)=true from rfl,aH,bM (EH (o:=10) (by simp) acc (by omega)),show Bi 10 = [33] from rfl,nz (xn hw _ (by rw[l1]; omega)),bM (zY _ (by rw[aY,l1]; omega))]
theorem bPD {c a b:EX} {C A B:List Tok} (hc:WR ns c 1 C) (ha:WR ns a 0 A) (hb:WR ns b 0 B) (hx:(EX.node 13 0 0 [c,a,b]).Len):WB ns (.node 13 0 0 [c,a,b]) (C ++ tS [63]::(A ++ tS [58]::B)):=fun acc h=>by
 rw[aY,bP,aY,bP] at h;have ht:gq (.node 13 0 0 [c,a,b]) tE=false:=Dl (by decide);have hf:gq (.node 13 0 0 [c,a,b]) fE=false:=FC (by decide);have e:acc ++ (C ++ tS [63]::(A ++ tS [58]::B))=acc ++ C ++ [tS [63]] ++ A ++ [tS [58]] ++ B:=by simp
 have l1:(acc ++ C).length=acc.length+C.length:=by simp
 have l2:(acc ++ C ++ [tS [63]]).length=acc.length+C.length+1:=by rw[aY,l1]; rfl
 have l3:(acc ++ C ++ [tS [63]] ++ A).length=acc.length+C.length+1+A.length:=by rw[aY,l2]
 have l4:(acc ++ C ++ [tS [63]] ++ A ++ [tS [58]]).length=acc.length+C.length+1+A.length+1:=by rw[aY,l3]; rfl
 rw[e];constructor
 .rw[DK,gQ c116,bV (iO hx tE),ht,aC,gQ c117,bV (iO hx fE),hf,aC,kX];try dsimp only
  rw[show ((13:Int)==0)=false from rfl,aC,show ((13:Int)==1)=false from rfl,aC,show ((13:Int)==5)=false from rfl,aC,aC,show ((13:Int)==10)=false from rfl,aC,show ((13:Int)==13)=true from rfl,aH,
   nz (xn hc acc (by omega)),bM (syQ _ (by rw[l1]; omega)),nz (NQ ha _ (by rw[l2]; omega)),bM (syD _ (by rw[l3]; omega)),nz (ag2 hb _ (by rw[l4]; omega))]
 .rw[DL,gQ c116,bV (iO hx tE),ht,aC,gQ c117,bV (iO hx fE),hf,aC,kX];try dsimp only
  rw[show ((13:Int)==0)=false from rfl,aC,show ((13:Int)==1)=false from rfl,aC,show ((13:Int)==5)=false from rfl,aC,aC,show ((13:Int)==10)=false from rfl,aC,show ((13:Int)==13)=true from rfl,aH,
   nz (xn hc acc (by omega)),bM (syQ _ (by rw[l1]; omega)),nz (NQ ha _ (by rw[l2]; omega)),bM (syD _ (by rw[l3]; omega)),nz (ag2 hb _ (by rw[l4]; omega)),bM (zY _ (by rw[aY,l4]; omega))]
theorem aT5 {o lv:Int} {a b:EX} {A B:List Tok} {n1 n2:Int} (ho:o=2\/o=3\/o=4\/o=6\/o=7\/o=8\/o=9\/o=11\/o=12) (hlv:iW (kW o a b)=lv) (hn:lv=3/\n1=4/\n2=4\/lv≠3/\0<=lv/\lv<=7/\n1=lv/\n2=lv+1)
 (ht:gq (.node o 0 0 [a,b]) tE=false) (hf:gq (.node o 0 0 [a,b]) fE=false) (ha:WR ns a n1 A) (hb:WR ns b n2 B) (hx:(EX.node o 0 0 [a,b]).Len):WB ns (kW o a b) (A ++ tS (uj o)::B):=fun acc h=>by
 rw[aY,bP] at h;have e:acc ++ (A ++ tS (uj o)::B)=acc ++ A ++ [tS (Bi o)] ++ B:=by rw[show Bi o=uj o by unfold Bi; rw[aQ (by omega),aQ (by omega)]]; simp
 have l1:(acc ++ A).length=acc.length+A.length:=by simp
 have l2:(acc ++ A ++ [tS (Bi o)]).length=acc.length+A.length+1:=by rw[aY,l1]; rfl
 have b0:(o==0)=false:=by simp; omega
 have b1:(o==1)=false:=by simp; omega
 have b5:(o==5)=false:=by simp; omega
 have b10:(o==10)=false:=by simp; omega
 have b13:(o==13)=false:=by simp; omega
 rw[e,hlv];unfold kW;show qi _ _ _ _ (Bv o)=_/\qj _ _ _ _ (Bv o)=_;rcases hn with ⟨rfl,rfl,rfl⟩ | ⟨h3,h4,h5,rfl,rfl⟩
 .constructor
  .rw[DK,gQ c116,bV (iO hx tE),ht,aC,gQ c117,bV (iO hx fE),hf,aC,kX];try dsimp only
   rw[b0,aC,b1,aC,b5,aC,aC,b10,aC,b13,aC,show ((3:Int)==3)=true from rfl,aH,nz (xn ha acc (by omega)),bM (EH (by omega) _ (by rw[l1]; omega)),nz (NQ hb _ (by rw[l2]; omega))]
  .rw[DL,gQ c116,bV (iO hx tE),ht,aC,gQ c117,bV (iO hx fE),hf,aC,kX];try dsimp only
   rw[b0,aC,b1,aC,b5,aC,aC,b10,aC,b13,aC,show ((3:Int)==3)=true from rfl,aH,nz (xn ha acc (by omega)),bM (EH (by omega) _ (by rw[l1]; omega)),nz (NQ hb _ (by rw[l2]; omega)),bM (zY _ (by rw[aY,l2]; omega))]
 .have b3:(n1==3)=false:=by grind
  constructor
  .rw[DK,gQ c116,bV (iO hx tE),ht,aC,gQ c117,bV (iO hx fE),hf,aC,kX];try dsimp only
   rw[b0,aC,b1,aC,b5,aC,aC,b10,aC,b13,aC,b3,aC,nz (xn ha acc (by omega)),bM (EH (by omega) _ (by rw[l1]; omega)),wrap64 (by omega) (by omega),nz (NQ hb _ (by rw[l2]; omega))]
  .rw[DL,gQ c116,bV (iO hx tE),ht,aC,gQ c117,bV (iO hx fE),hf,aC,kX];try dsimp only
   rw[b0,aC,b1,aC,b5,aC,aC,b10,aC,b13,aC,b3,aC,nz (xn ha acc (by omega)),bM (EH (by omega) _ (by rw[l1]; omega)),wrap64 (by omega) (by omega),nz (NQ hb _ (by rw[l2]; omega)),bM (zY _ (by rw[aY,l2]; omega))]
end
theorem a7Z {o lv:Int} {a b:EX} (h:o=2/\lv=4\/o=3/\lv=4\/o=4/\lv=5\/o=11/\lv=2\/o=12/\lv=1):iW (kW o a b)=lv:=by unfold iW kW;rw[Dl (by omega),FC (by omega)];rcases h with ⟨rfl,rfl⟩ | ⟨rfl,rfl⟩ | ⟨rfl,rfl⟩ | ⟨rfl,rfl⟩ | ⟨rfl,rfl⟩<;>rfl
theorem a7' {o:Int} {a b:EX} (h:o=6\/o=7\/o=8\/o=9) (ht:gq (kW o a b) tE=false) (hf:gq (kW o a b) fE=false):iW (kW o a b)=3:=by unfold iW;rw[ht,hf];grind
theorem bJR (ns:List (bTB)) {x:EX} {B:List Tok} (h:PB ns x B):x.Len->WB ns x B/\0<=x.op/\x.op<=13:=by
 induction h with
 | tt=>grind [bPI,EX.op,tE]
 | ff=>grind [bPC,EX.op,fE]
 | num h0 h1=>grind [bPH,EX.op,nE]
 | var hs=>grind [bPJ,EX.op,vE]
 | @KN v h0 h1 _ ih =>intro hx;obtain ⟨k1,k2,k3⟩:=ih (Len.arg hx (by simp));have hw:=GK (Len.arg hx (by simp)) k2 k3 k1 0;grind [wp,nE,iW,bPF,EX.op]
 | neg hc _ ih =>grind [Len.arg,bPE,GK,EX.op]
 | yF _ ih =>grind [Len.arg,bPG,GK,EX.op]
 | cmp ho ht hf _ _ iha ihb =>
  intro hx;obtain ⟨k1,k2,k3⟩:=iha (Len.arg hx (by simp));obtain ⟨m1,m2,m3⟩:=ihb (Len.arg hx (by simp));refine ⟨aT5 (by omega) (a7' ho ht hf) (.inl ⟨rfl,rfl,rfl⟩) ht hf (GK (Len.arg hx (by simp)) k2 k3 k1 4) (GK (Len.arg hx (by simp)) m2 m3 m1 4) hx,?_,?_⟩;grind [EX.op]
  grind [EX.op]
 | bin ho _ _ iha ihb =>
  intro hx;obtain ⟨k1,k2,k3⟩:=iha (Len.arg hx (by simp));obtain ⟨m1,m2,m3⟩:=ihb (Len.arg hx (by simp));refine ⟨aT5 (by omega) (a7Z ho) (.inr ⟨by omega,by omega,by omega,rfl,rfl⟩) (Dl (by omega)) (FC (by omega)) (GK (Len.arg hx (by simp)) k2 k3 k1 _) (GK (Len.arg hx (by simp)) m2 m3 m1 _) hx,?_,?_⟩;grind [EX.op]
  grind [EX.op]
 | ite _ _ _ OV iha ihb =>grind [Len.arg,bPD,GK,EX.op]
theorem a81 (x:EX):0<=iW x:=by obtain ⟨o,v,i,l⟩:=x;unfold iW;dsimp only;omega
section
variable {ns:List (bTB)}
end
abbrev dN (t:Tok):Int×bTB×Int:=(t.kind,t.text,t.value)
def Tv (t:Tok):Prop:=t.text ≠ []/\(bW t.text).2=0/\dN (bW t.text).1=dN t/\t.kind≠4
theorem bN5:∀ x∈jO,∀ c∈x.head?,y7 c.toNat=false/\c≠47:=by decide
theorem aZA {b:UInt8} {r:bTB} (h:(bW (b::r)).2=0):y7 b.toNat=false/\b≠47:=by
 unfold bW at h;dsimp only at h;cases hd:gy b.toNat with
 | true =>simp only[gy,bF,lw] at hd;refine ⟨?_,fun c=>by simp_all⟩;grind [y7]
 | false =>
  cases hl:isLet b.toNat with
  | true =>simp only[isLet,EP,bF,lw,rM] at hl;refine ⟨?_,fun c=>by simp_all⟩;grind [y7]
  | false =>
   rw[hd,hl] at h;simp only[GM,GY] at h;unfold EI at h;cases hs:AU (b::r) with
   | none=>rw[hs] at h; simp_all
   | some x =>
    obtain ⟨m1,m2⟩:=aSE hs;have hp:=(aB8 x m1).1;match x,m1,m2,hp with
    | c::x,m1,m2,_ =>grind [bN5]
theorem a0P {b:UInt8} {r:bTB} (h:(bW (b::r)).2=0) (u:bTB):iH false (b::u)=0:=by obtain ⟨h1,h2⟩:=aZA h;grind [bMH]
def joinL:List Tok->bTB
 | [] => []
 | [t]=>t.text
 | t::u::l=>t.text ++ 32::joinL (u::l)
theorem aQW:∀ (T:List Tok),T ≠ []->(∀ t,t∈T->Tv t)->∀ (i line start:Nat) (acc:List Tok),∃ T' e,ve false (joinL T) i line start acc = .ok (acc ++ T' ++ [e])/\T'.map dN=T.map dN/\e.kind=4
 | [],h,_,_,_,_,_=>absurd rfl h
 | [t],_,ht,i,line,start,acc=>by
  obtain ⟨h1,h2,h3,_⟩:=ht t (by simp);show ∃ T' e,ve false t.text i line start acc=_/\_;match hx:t.text,h1 with
  | b::r,_ =>
   rw[hx] at h2 h3;have e3:(bW (b::r)).1.text=b::r:=by have:=congrArg (fun c=>c.2.1) h3;simp_all
   have hS:ve false (b::r) i line start acc = .ok (acc ++ [(bW (b::r)).1.at (line:Nat) ((i-start+1:Nat):Int)] ++ [(⟨4,[],0,(line:Nat),((i+(b::r).length-start+1:Nat):Int)⟩:Tok)]):=by rw[a1X (a0P h2 r),aS h2,e3,List.drop_length,QY]
   refine ⟨_,_,hS,?_,rfl⟩;show [dN (bW (b::r)).1] = [dN t];rw[h3]
 | t::u::l,_,ht,i,line,start,acc=>by
  obtain ⟨h1,h2,h3,_⟩:=ht t (by simp);show ∃ T' e,ve false (t.text ++ 32::joinL (u::l)) i line start acc=_/\_;match hx:t.text,h1 with
  | b::r,_ =>
   rw[hx] at h2 h3;have e3:(bW (b::r)).1.text=b::r:=by have:=congrArg (fun c=>c.2.1) h3;simp_all
   have hr:bW (b::(r ++ 32::joinL (u::l)))=bW (b::r):=bKJ (x:=32) (by decide) bN8 _ b r;obtain ⟨T',e,k1,k2,k3⟩:=aQW (u::l) (by simp) (fun t h=>ht t (by simp[h])) (i+(b::r).length+1) line start (acc ++ [(bW (b::r)).1.at (line:Nat) ((i-start+1:Nat):Int)]);refine ⟨(bW (b::r)).1.at (line:Nat) ((i-start+1:Nat):Int)::T',e,?_,?_,k3⟩
   .have hdrop:(b::(r ++ 32::joinL (u::l))).drop (b::r).length=32::joinL (u::l):=by rw[<- gu,List.drop_left]
    rw[gu,a1X (by rw[a0P h2]),hr,aS h2,e3,hdrop,
     C_step (c':=false) (by rw[iH,aS (by decide)]),aQ (by decide),aQ (by decide),k1]
    simp
   .rw[oN,oN,k2,<- h3];rfl
theorem a3M:∀ (n:Nat) (b:UInt8),b∈Lib.decDigits n->gy b.toNat=true:=by
 intro n;induction n using Nat.strongRecOn with
 | _ n ih =>
  intro b hb;have dig:∀ d:Nat,d<10->gy (UInt8.ofNat (48+d)).toNat=true:=fun d hd=>by
   have:d=0\/d=1\/d=2\/d=3\/d=4\/d=5\/d=6\/d=7\/d=8\/d=9:=by omega
   rcases this with rfl | rfl | rfl | rfl | rfl | rfl | rfl | rfl | rfl | rfl<;>rfl
  rw[Lib.decDigits] at hb;grind
theorem aOT:∀ (l:bTB) (b:UInt8) (a m:Nat),tV l a=some m->10*m+(b.toNat-48)<=65536->tV (l ++ [b]) a=some (10*m+(b.toNat-48))
 | [],b,a,m,h,h2=>by grind [tV]
 | c::l,b,a,m,h,h2=>by
  rw[tV] at h;rw[gu,tV];split at h
  .cases h
  .rename_i hc;rw[aQ hc];exact aOT l b _ m h h2
theorem aXW:∀ (n:Nat),n<=65536->tV (Lib.decDigits n) 0=some n:=by
 intro n;induction n using Nat.strongRecOn with
 | _ n ih =>
  intro hn;have dig:∀ d:Nat,d<10->(UInt8.ofNat (48+d)).toNat-48=d:=fun d hd=>by
   have:d=0\/d=1\/d=2\/d=3\/d=4\/d=5\/d=6\/d=7\/d=8\/d=9:=by omega
   rcases this with rfl | rfl | rfl | rfl | rfl | rfl | rfl | rfl | rfl | rfl<;>rfl
  rw[Lib.decDigits];split;grind [tV]
  .have hd:=dig (n % 10) (by omega);have:=aOT (Lib.decDigits (n / 10)) (UInt8.ofNat (48+n % 10)) 0 (n / 10) (ih (n / 10) (by omega) (by omega)) (by rw[hd]; omega);rw[this,hd];grind
theorem aXV:∀ (n:Nat),0<n->∃ b r,Lib.decDigits n=b::r/\b≠48:=by
 intro n;induction n using Nat.strongRecOn with
 | _ n ih =>
  intro hn;rw[Lib.decDigits];split
  .rename_i h;refine ⟨_,[],rfl,?_⟩;have:n=1\/n=2\/n=3\/n=4\/n=5\/n=6\/n=7\/n=8\/n=9:=by omega
   rcases this with rfl | rfl | rfl | rfl | rfl | rfl | rfl | rfl | rfl<;>decide
  .obtain ⟨b,r,h1,h2⟩:=ih (n / 10) (by omega) (by omega);simp_all
theorem LK {p:Nat->Bool}:∀ {l:bTB},(∀ b,b∈l->p b.toNat=true)->gV p l=l
 | [],_=>rfl
 | b::l,h=>by
  have:=LK (l:=l) fun c hc=>h c (by simp[hc])
  grind [gV,List.takeWhile_cons]
theorem a1D {n:Nat} (h:n<=65536):Tv (tN n):=by
 have hne:Lib.decDigits n ≠ []:=by rw[Lib.decDigits]; split<;>simp
 have h1:gV gy (Lib.decDigits n)=Lib.decDigits n:=LK (a3M n);have h2:gV nR (Lib.decDigits n)=Lib.decDigits n:=LK fun b hb=>by grind [nR,a3M]
 have hN:BR (Lib.decDigits n)=(⟨2,Lib.decDigits n,n,0,0⟩,0):=by
  unfold BR;rw[h1,h2,aQ (by omega)];have hz:¬ (1<(Lib.decDigits n).length/\(Lib.decDigits n)[0]? = some 48):=by
   rintro ⟨k1,k2⟩;rcases Nat.eq_zero_or_pos n with rfl | hp
   grind [Lib.decDigits_one]
   grind [aXV]
  rw[aQ hz,aXW n h]
 have hR:bW (Lib.decDigits n)=(⟨2,Lib.decDigits n,n,0,0⟩,0):=by
  unfold bW;match hd:Lib.decDigits n,hne with
  | b::r,_ =>grind [a3M]
 refine ⟨hne,?_,?_,show (2:Int)≠4 by decide⟩;simp_all;simp_all
theorem LZ:∀ s,s∈jO->Tv (tS s):=by
 have:∀ s,s∈jO->s ≠ []/\(bW s).2=0/\dN (bW s).1=(3,s,0):=by decide
 intro s hs;obtain ⟨h1,h2,h3⟩:=this s hs;exact ⟨h1,h2,h3,show (3:Int)≠4 by decide⟩
theorem a1E {s:bTB} (h:nameB s=true):Tv (tW s):=by
 unfold nameB at h;simp only[bF,lw] at h;obtain ⟨h1,h2,h3⟩:=h;have hall:∀ (l:bTB) (k:Nat),zy l k=true->∀ b,b∈l->nR b.toNat=true:=by
  intro l;induction l with
  | nil=>simp
  | cons c l ih =>grind [zy,BV,nR]
 match hs:s,h2 with
 | b::r,_ =>
  have hb:isLet b.toNat=true:=by rw[zy,bF] at h1;have:=h1.1;grind [BV]
  have hdg:gy b.toNat=false:=by rw[Bool.eq_false_iff];grind [gy,isLet]
  have hw:C9 (b::r)=(⟨1,b::r,0,0,0⟩,0):=by grind [C9,LK]
  have hR:bW (b::r)=(⟨1,b::r,0,0,0⟩,0):=by grind [bW]
  refine ⟨by simp,?_,?_,show (1:Int)≠4 by decide⟩;simp_all;simp_all
theorem xP {x:EX} {need:Int} {B:List Tok} (h:∀ t,t∈B->Tv t):∀ t,t∈wp x need B->Tv t:=by
 unfold wp;split
 .intro t ht;rcases jV.1 ht with rfl | ht
  .exact LZ _ (by decide)
  .rcases qQ.1 ht with ht | ht
   simp_all
   .simp only[uI] at ht; rw[ht]; exact LZ _ (by decide)
 .exact h
theorem aSS {v:Int} (h0 : -65536<=v) (h1:v<=65536):∀ t,t∈eY v->Tv t:=by
 unfold eY;split
 .intro t ht;simp only[jV,yS,yZ] at ht;rcases ht with rfl | rfl
  .exact LZ _ (by decide)
  grind [a1D]
 grind [a1D]
theorem ul {ns:List (bTB)} (hns:∀ s,s∈ns->nameB s=true) {x:EX} {B:List Tok} (h:PB ns x B):∀ t,t∈B->Tv t:=by
 have mid:∀ {A C:List Tok} {s:bTB},s∈jO->(∀ t,t∈A->Tv t)->(∀ t,t∈C->Tv t)->∀ t,t∈A ++ tS s::C->Tv t:=fun hs ha hc t ht=>by grind [LZ]
 have pre:∀ {C:List Tok} {s:bTB},s∈jO->(∀ t,t∈C->Tv t)->∀ t,t∈tS s::C->Tv t:=fun hs hc t ht=>by grind [LZ]
 induction h with
 | tt=>intro t ht; simp only[uI] at ht; rw[ht]; exact a1E (by decide)
 | ff=>intro t ht; simp only[uI] at ht; rw[ht]; exact a1E (by decide)
 | num h0 h1=>exact aSS h0 h1
 | var hs =>grind [a1E]
 | KN h0 h1 _ ih =>
  refine pre (by decide) (pre (by decide) fun t ht => ?_);rcases qQ.1 ht with ht | ht
  simp_all
  .simp only[uI] at ht; rw[ht]; exact LZ _ (by decide)
 | neg _ _ ih=>exact pre (by decide) (xP ih)
 | yF _ ih=>exact pre (by decide) (xP ih)
 | cmp _ _ _ _ _ iha ihb=>grind [aR7,xP]
 | bin _ _ _ iha ihb=>grind [aR7,xP]
 | ite _ _ _ OV iha ihb=>exact mid (by decide) (xP OV) (mid (by decide) (xP iha) (xP ihb))
theorem aL8:∀ (T:List Tok),([32]:bTB).intercalate (T.map (·.text))=joinL T
 | []=>rfl
 | [t]=>by simp[List.intercalate,joinL]
 | t::u::l=>by have:=aL8 (u::l);rw[joinL,<- this];rfl
theorem aB6:∀ (l:List (bTB)),strsOf (l.map fun s=>PV.str (bs s))=some (l.map bs)
 | []=>rfl
 | s::l=>by rw[oN,strsOf,aB6 l]; rfl
theorem aLN (es:bTA) (sep:bT9):CS 15 [bT7 es,.str sep] []=(match strsOf es with
 | some xs=>(match Nat.ble (BF xs sep).length 140737488355328&&Nat.ble xs.length 140737488355328 with
  | true=>some (PV.str ⟨(BF xs sep).toArray⟩,([]:aG))
  | false=>none)
 | none=>none):=rfl
theorem bDV (T:List Tok):BF (T.map fun t=>bs t.text) ⟨#[32]⟩=joinL T:=by unfold BF Lib.join;rw[List.map_map,<- aL8];rfl
theorem sjc (T:List Tok) (h1:T.length<=1000000) (h2:(joinL T).length<=1000000):SS.CC 15 [bT7 (T.map fun t=>PV.str (bs t.text)),.str ⟨#[32]⟩] []=some (.str (bs (joinL T)),[]):=by
 refine JH ?_;have hs:strsOf (T.map fun t=>PV.str (bs t.text))=some (T.map fun t=>bs t.text):=by have:=aB6 (T.map (·.text));rw[List.map_map,List.map_map] at this;exact this
 rw[aLN,hs];dsimp only;rw[bDV,aX,JC (by omega),JC (by omega)];rfl
theorem aEZ {T T':List Tok} (h:T'.map dN=T.map dN) (hk:∀ t,t∈T->t.kind≠4):∀ t,t∈T'->t.kind≠4:=by grind [List.mem_map_of_mem]
theorem aFE (T T':List Tok) (hn:T.length<=1000000) (h:T'.map dN=T.map dN):∀ (m k:Nat),k+m=T.length->YP (T.map bD) (T'.map bD) (k:Int)=some (.bool true,[])
 | 0,k,hk=>by grind [aHO,List.length_map,aC]
 | m+1,k,hk=>by
  have hl:T'.length=T.length:=by have:=congrArg List.length h; grind
  have h1:k<T'.length:=by omega
  have h2:k<T.length:=by omega
  have e:dN T'[k]=dN T[k]:=by have:=congrArg (fun l=>l[k]?) h;grind
  have e1:T'[k].kind=T[k].kind:=congrArg (·.1) e;have e2:T'[k].text=T[k].text:=congrArg (·.2.1) e;have e3:T'[k].value=T[k].value:=congrArg (·.2.2) e;have bCO:SS.CC 210 [ng (tk T'[k]),ng (tk T[k])] []=some (.bool true,[]):=by rw[b37];simp_all
  rw[aHO,aO (by rw[aX]; omega),aH,UG h1,UG h2,bV bCO,uH,aC,bu (by omega)];exact aFE T T' hn h m (k+1) (by omega)
theorem aYH (T T':List Tok) (hn:T.length<=1000000) (h:T'.map dN=T.map dN):SS.CC 209 [.sl false 5 (T'.map bD),.sl false 5 (T.map bD),.func (.func 210) [] []] []=some (.bool true,[]):=by
 have hl:T'.length=T.length:=by have:=congrArg List.length h; grind
 rw[b34,aX,aX,show ((T'.length:Int) !=(T.length:Int))=false by simp[hl],aC];exact aFE T T' hn h T.length 0 (by omega)
theorem aLK (T:List Tok) (hn:T.length<=1000000):∀ (m k:Nat),k+m=T.length->SG (T.map bD) ((T.take k).map fun t=>PV.str (bs t.text)) (k:Int)=SG (T.map bD) (T.map fun t=>PV.str (bs t.text)) (T.length:Int)
 | 0,k,hk=>by simp_all
 | m+1,k,hk=>by
  have h1:k<T.length:=by omega
  rw[aGO,aO (by rw[aX]; omega),aH,UG h1,au (aO (by rw[aX,wI]; unfold bC; omega)),bu (by omega)];have:=aLK T hn m (k+1) (by omega);rw[GR h1,lq] at this;exact this
theorem bLZ {T:List Tok} (hne:T ≠ []) (ht:∀ t,t∈T->Tv t) (hl:(joinL T).length<=65536):∃ T' e,uC (joinL T) = .ok (T' ++ [e])/\T'.map dN=T.map dN/\e.kind=4:=by obtain ⟨T',e,h1,h2,h3⟩:=aQW T hne ht 0 1 0 [];grind [uC,bM0]
theorem aF1:∀ (k n:Nat),n<10 ^ (k+1)->(Lib.decDigits n).length<=k+1
 | 0,n,h=>by rw[Lib.decDigits_one (by omega)]; simp
 | k+1,n,h=>by
  rw[Lib.decDigits];split
  .simp
  .rw[aY,rH];have:=aF1 k (n / 10) (by rw[Nat.pow_succ] at h; omega);omega
theorem DZ {t:Tok} {s:bTB} (h:dN t=dN (tS s)):uQ s t:=⟨congrArg (·.1) h,congrArg (·.2.1) h⟩
theorem kP {T:List Tok} (h:T.map dN=([]:List Tok).map dN):T = []:=by simpa using h
theorem rq {T B:List Tok} {b:Tok} (h:T.map dN=(b::B).map dN):∃ t T2,T=t::T2/\dN t=dN b/\T2.map dN=B.map dN:=by
 match T,h with
 | t::T2,h =>rw[oN,oN] at h;grind
theorem kN {T A B:List Tok} (h:T.map dN=(A ++ B).map dN):∃ T1 T2,T=T1 ++ T2/\T1.map dN=A.map dN/\T2.map dN=B.map dN:=by rw[lq] at h;obtain ⟨T1,T2,h1,h2,h3⟩:=List.map_eq_append_iff.1 h;grind
theorem Xa {T A C:List Tok} {s:bTB} (h:T.map dN=(A ++ tS s::C).map dN):∃ T1 t T2,T=T1 ++ t::T2/\T1.map dN=A.map dN/\uQ s t/\T2.map dN=C.map dN:=by obtain ⟨T1,T2,h1,h2,h3⟩:=kN h;obtain ⟨t,T3,h4,h5,h6⟩:=rq h3;grind [DZ]
def Nk (T:List Tok):Prop:=∀ t,t∈T->t.kind≠4
theorem BQ {T B:List Tok} (h:T.map dN=B.map dN) (hb:∀ t,t∈B->Tv t):Nk T:=aEZ h fun t ht=>(hb t ht).2.2.2
theorem Fp:∀ {T R:List Tok},Nk T->ak (T ++ R)->ak R
 | [],_,_,h=>h
 | t::T,R,hk,h=>Fp (fun t ht=>hk t (by simp[ht])) (EJ h (hk t (by simp)))
def Ql (R:List Tok) (n:Int):Prop:=∀ lv:Int,n<=lv->(mk0 R).Dv lv=false
section
variable {v:bTA} {d:Int} {T:List Tok} {x:EX}
theorem KW {s:bTB} {t:Tok} {R:List Tok} {n:Int} (h:uQ s t) (hs:(kD s).1<n):Ql (t::R) n:=fun lv hlv=>by unfold RA.Dv;show (t.kind==3&&(kD t.text).1==lv)=false;rw[h.2,show ((kD s).1==lv)=false by simp; omega,J5]
theorem ZJ {s s2:bTB} {t:Tok} {R:List Tok} (h:uQ s t) (hs:s≠s2):(mk0 (t::R)).is s2=false:=by show ((t.kind==1||t.kind==3)&&t.text==s2)=false;rw[h.2,show (s==s2)=false by grind,J5]
end
theorem aNR (x:EX):iW x<=7:=by obtain ⟨o,v,i,l⟩:=x;unfold iW;dsimp only;omega
section
variable {v:bTA} {d:Int} {T:List Tok} {x:EX}
end
theorem BD (x:EX):1<=fQ x:=by obtain ⟨o,v,i,l⟩:=x;rw[fQ]; omega
theorem bG3 (v:Int):iW (nE v)=if v<0 then 6 else 7:=by rfl
theorem bG6 (i:Int):iW (vE i)=7:=by rfl
theorem a88 {o:Int} (h:o=5\/o=10) (a:EX):iW (kw o a)=6:=by unfold iW kw;rw[Dl (by omega),FC (by omega)];rcases h with rfl | rfl<;>rfl
theorem aNQ (c a b:EX):iW (.node 13 0 0 [c,a,b])=0:=by rfl
theorem bG5:iW tE=7:=by rfl
theorem bG2:iW fE=7:=by rfl
theorem dp1 (o:Int) (a:EX):fQ (kw o a)=fQ a+1:=by simp[fQ,yu]
theorem dp2 (o:Int) (a b:EX):fQ (kW o a b)=max (fQ a) (fQ b)+1:=by simp[fQ,yu]
theorem dp3 (c a b:EX):fQ (.node 13 0 0 [c,a,b])=max (fQ c) (max (fQ a) (fQ b))+1:=by simp[fQ,yu]
theorem aEB {a b:bTB} (h:bs a=bs b):a=b:=by have:=congrArg ByteArray.toList h;rwa [H6,H6] at this
theorem a6A:∀ (ns:List (bTB)) (i k:Nat) (s:bTB),ns.Nodup->ns[i]? = some s->qB (bs s) (qw ns) k=((k+i:Nat):Int)
 | [],i,k,s,_,h=>by simp at h
 | a::ns,0,k,s,_,h=>by
  have:a=s:=by grind
  subst this;show (if bs a=bs a then (k:Int) else _)=_;rw[aS rfl]; simp
 | a::ns,i+1,k,s,hd,h=>by
  have h2:ns[i]? = some s:=by simpa using h
  have hne:bs s≠bs a:=fun e=>by have:=aEB e;subst this;exact (a1O.1 hd).1 (nK h2)
  show (if bs s=bs a then (k:Int) else qB (bs s) (qw ns) (k+1))=_;rw[aQ hne,a6A ns i (k+1) s (a1O.1 hd).2 h2];omega
theorem aZ9 {ns:List (bTB)} {o v i:Int} {l:List EX} {A T:List Tok} (hc:o≠0\/v<0) (h:PB ns (.node o v i l) A) (hT:T.map dN=(wp (.node o v i l) 6 A).map dN):∃ t T1,T=t::T1/\t.kind≠2:=by
 have go:∀ {b:Tok} {B:List Tok},b.kind≠2->T.map dN=(b::B).map dN->∃ t T1,T=t::T1/\t.kind≠2:=fun hb h=>by grind [rq]
 unfold wp at hT;by_cases hn:iW (.node o v i l)<6;grind
 .rw[aQ hn] at hT;generalize hx:EX.node o v i l=x at h hn;cases h with
  | tt=>grind
  | ff=>grind
  | num h0 h1 =>grind [nE,eY]
  | @var i s hs=>grind
  | KN h0 h1 _=>grind
  | neg _ _=>grind
  | yF _=>grind
  | cmp ho ht hf _ _=>grind [a7']
  | bin ho _ _=>rw[a7Z ho] at hn; omega
  | ite _ _ _=>rw[aNQ] at hn; omega
end Go.Proofs.YtcdceiloganlnaaGreatDoor.W
end

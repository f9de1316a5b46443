/-
  The statement ParserChecks is proved. No condition but the row's own.
-/
import Derived.Test.YtcdceiloganlnaaGreatDoorPc5
import Derived.Test.YtcdceiloganlnaaGreatDoorPc7
import Derived.Test.YtcdceiloganlnaaGreatDoorPc6
set_option linter.unusedVariables false
set_option linter.unusedSimpArgs false
set_option linter.unnecessarySimpa false
set_option linter.unusedSectionVars false
noncomputable section
open Go.IntKind (i64)
namespace Go.Proofs.YtcdceiloganlnaaGreatDoor
open Go.RowKit Go.ChangeShapes Go.WideShapes Go.ChangeAt
set_option maxRecDepth 100000
theorem bCK {P:Program} {B:Nat} (hB:B<=reachBytes):∀ {fuel:Nat} {t:TypeId} {ps:List PV},fG P B fuel t ps->Bz P fuel t ps:=by
 intro fuel;induction fuel with
 | zero=>intro t ps h; exact h.elim
 | succ fuel ih =>
  intro t ps h;simp only[fG] at h;simp only[Bz];cases hu:P.underlying t with
  | none=>rw[hu] at h; exact h
  | some ty =>
   cases ty with
   | string =>simp only[hu] at h ⊢;obtain ⟨s,e,hs⟩:=h;exact ⟨s,e,by omega⟩
   | slice e =>simp only[hu] at h ⊢;obtain ⟨es,e,hs,hes⟩:=h;exact ⟨es,e,by omega,fun p hp=>by obtain ⟨qs,hq,he⟩:=hes p hp; exact ⟨qs,ih hq,he⟩⟩
   | struct fs=>simp only[hu] at h ⊢; exact ⟨h.1,fun x hx=>ih (h.2 x hx)⟩
   | array n e=>simp only[hu] at h ⊢; exact ⟨h.1,fun x hx=>ih (h.2 x hx)⟩
   | bool=>simp only[hu] at h ⊢; exact h
   | int k=>simp only[hu] at h ⊢; exact h
   | _=>simp only[hu] at h
def Y6:List TypeId := [3,4,9,42,40,34,83,28,82,22,89,23,87,94,84,97,85,99,95,102,24,105,25,107,103,110,26,112,108]
theorem aP5:Y4 Tryz.prog Y6=true:=by kernel_rfl
theorem aP6:OA Tryz.prog 176 Y6=true:=by kernel_rfl
section
variable {B:Nat}
theorem xM {fuel:Nat} {ps:List PV} (h:fG Tryz.prog B fuel 3 ps):∃ n,ps = [.int .i64 n]/\I64 n:=by
 cases fuel with
 | zero=>exact h.elim
 | succ fuel =>simp only[fG,Tryz.underlying3] at h;obtain ⟨n,rfl,hn⟩:=h;refine ⟨n,rfl,?_⟩;simp[Lit.wf,IntKind.min,IntKind.max,IntKind.signed,IntKind.bits] at hn;exact hn
theorem yG {fuel:Nat} {ps:List PV} (h:fG Tryz.prog B fuel 9 ps):∃ s:W.Nm,ps = [.str (bs s)]:=by
 cases fuel with
 | zero=>exact h.elim
 | succ fuel =>simp only[fG,Tryz.underlying9] at h;obtain ⟨s,rfl,_⟩:=h;exact ⟨s.data.toList,by cases s; simp[bs]⟩
theorem a2O {fuel:Nat} {ps:List PV} (h:fG Tryz.prog B fuel 4 ps):∃ b:Bool,ps = [.bool b]:=by
 cases fuel with
 | zero=>exact h.elim
 | succ fuel =>simp only[fG,Tryz.underlying4] at h;exact h
theorem yE {t e:TypeId} {k:Nat} {α:Type} {f:α->PV} {Q:α->Prop} (hu:Tryz.prog.underlying t=some (.slice e)) (hk:Tryz.prog.cellsOf e=k) (hb:1<=Tryz.prog.bytesOf e)
 (hf:∀ {fuel:Nat} {qs:List PV},fG Tryz.prog B fuel e qs->∃ x,sJ Tryz.prog e qs=f x/\Q x) {fuel:Nat} {ps:List PV} (h:fG Tryz.prog B fuel t ps):∃ l:List α,ps = [.sl false k (l.map f)]/\l.length<=B/\∀ x,x∈l->Q x:=by
 cases fuel with
 | zero=>exact h.elim
 | succ fuel =>
  simp only[fG,hu] at h;obtain ⟨es,rfl,hw,hes⟩:=h;obtain ⟨l,rfl,hq⟩:=a06 (f:=f) (Q:=Q) (es:=es) fun p hp=>by obtain ⟨qs,hs,rfl⟩:=hes p hp;exact hf hs
  refine ⟨l,by rw[hk],?_,hq⟩;rw[bW] at hw;exact iC (Nat.le_mul_of_pos_right _ hb) hw
theorem eF {n:Nat} {ps:List PV} (h:ps.length=n+1):∃ a qs,ps=a::qs/\qs.length=n:=by
 match ps,h with
 | a::qs,h=>exact ⟨a,qs,rfl,by simpa using h⟩
theorem yF {t:TypeId} {fs:Array Field} {k:Nat} {l:List (Nat×TypeId)} (hu:Tryz.prog.underlying t=some (.struct fs)) (hp:parts Tryz.prog t=l) (hk:Tryz.prog.cellsOf t=k) {fuel:Nat} {ps:List PV} (h:fG Tryz.prog B fuel t ps) :
 ps.length=k/\∃ fuel',∀ x,x∈l->fG Tryz.prog B fuel' x.2 ((ps.drop x.1).take (Tryz.prog.cellsOf x.2)):=by
 cases fuel with
 | zero=>exact h.elim
 | succ fuel =>simp only[fG,hu,hp,hk] at h;exact ⟨h.1,fuel,h.2⟩
theorem aO7:Tryz.prog.cellsOf 4=1:=by kernel_rfl
theorem a7N:Tryz.prog.cellsOf 34=1:=by kernel_rfl
theorem aOD:Tryz.prog.cellsOf 83=1:=by kernel_rfl
theorem xh {t:TypeId} {ps:List PV} (h:AP Tryz.prog t=true):sJ Tryz.prog t ps = .agg ps:=by simp only[sJ,h,fD]
theorem a7W {t:TypeId} {p:PV} (h:AP Tryz.prog t=false):sJ Tryz.prog t [p]=p:=by simp[sJ,h]
theorem aJJ {fuel:Nat} {ps:List PV} (h:fG Tryz.prog B fuel 83 ps):∃ l:List Int,ps = [.sl false 1 (W.jF l)]/\l.length<=B:=by obtain ⟨l,h1,h2,_⟩:=yE (k:=1) (f:=fun n=>PV.int .i64 n) (Q:=fun _=>True) (e:=3) Tryz.underlying83 (by kernel_rfl) (jP (by kernel_rfl)) (fun h=>by obtain ⟨n,rfl,_⟩:=xM h;exact ⟨n,a7W (by kernel_rfl),trivial⟩) h;exact ⟨l,h1,h2⟩
theorem a2P {fuel:Nat} {ps:List PV} (h:fG Tryz.prog B fuel 34 ps):∃ l:List W.Nm,ps = [.sl false 1 (W.aS l)]/\l.length<=B:=by obtain ⟨l,h1,h2,_⟩:=yE (k:=1) (f:=fun s:W.Nm=>PV.str (bs s)) (Q:=fun _=>True) (e:=9) Tryz.underlying34 (by kernel_rfl) (jP (by kernel_rfl)) (fun h=>by obtain ⟨n,rfl⟩:=yG h;exact ⟨n,a7W (by kernel_rfl),trivial⟩) h;exact ⟨l,by rw[h1]; simp[W.aS,W.uZ,W.y5],h2⟩
theorem aJH (hB:B<=reachBytes) {fuel:Nat} {ps:List PV} (h:fG Tryz.prog B fuel 42 ps):∃ e:W.EX,ps = [.int .i64 (W.ev e).1,.int .i64 (W.ev e).2.1,.int .i64 (W.ev e).2.2.1,.sl false 4 (W.ev e).2.2.2.1]/\e.Len:=by
 obtain ⟨e,h1,h2⟩:=bCJ (bCK hB h);rw[xh agE] at h1;injection h1 with h1
 exact ⟨e,h1,h2⟩
abbrev QT {α:Type} (_:α):Prop:=True
abbrev QV (v:W.Vr):Prop:=W.JJ v.lo/\W.JJ v.hi
abbrev QU (u:Int×W.EX):Prop:=u.2.Len
theorem aO9:Tryz.prog.cellsOf 82=5:=by kernel_rfl
theorem b9G:parts Tryz.prog 82 = [(0,9),(1,4),(2,4),(3,4),(4,3)]:=by kernel_rfl
theorem bBY {fuel:Nat} {ps:List PV} (h:fG Tryz.prog B fuel 82 ps):∃ x:W.nD,.agg ps=W.LZ x/\QT x:=by obtain ⟨hl,fuel,h⟩:=yF Tryz.underlying82 b9G aO9 h;obtain ⟨a0,q0,rfl,mV⟩:=eF hl;obtain ⟨a1,q1,rfl,mW⟩:=eF mV;obtain ⟨a2,q2,rfl,qh⟩:=eF mW;obtain ⟨a3,q3,rfl,wW⟩:=eF qh;obtain ⟨a4,q4,rfl,yx⟩:=eF wW;obtain rfl:=iU yx;have h0:=h (0,9) (by simp);have h1:=h (1,4) (by simp);have h2:=h (2,4) (by simp);have h3:=h (3,4) (by simp);have h4:=h (4,3) (by simp);simp only[CJ,aO7,EJ,List.drop,List.take] at h0 h1 h2 h3 h4;clear h;obtain ⟨n,e0⟩:=yG h0;obtain ⟨c,e1⟩:=a2O h1;obtain ⟨o,e2⟩:=a2O h2;obtain ⟨f,e3⟩:=a2O h3;obtain ⟨k,e4,_⟩:=xM h4;cases e0;cases e1;cases e2;cases e3;cases e4;exact ⟨⟨n,c,o,f,k⟩,rfl,trivial⟩
theorem aOT:Tryz.prog.cellsOf 94=4:=by kernel_rfl
theorem b9R:parts Tryz.prog 94 = [(0,9),(1,3),(2,3),(3,3)]:=by kernel_rfl
theorem bCG {fuel:Nat} {ps:List PV} (h:fG Tryz.prog B fuel 94 ps):∃ x:W.Vr,.agg ps=W.qH x/\QV x:=by obtain ⟨hl,fuel,h⟩:=yF Tryz.underlying94 b9R aOT h;obtain ⟨a0,q0,rfl,mV⟩:=eF hl;obtain ⟨a1,q1,rfl,mW⟩:=eF mV;obtain ⟨a2,q2,rfl,qh⟩:=eF mW;obtain ⟨a3,q3,rfl,wW⟩:=eF qh;obtain rfl:=iU wW;have h0:=h (0,9) (by simp);have h1:=h (1,3) (by simp);have h2:=h (2,3) (by simp);have h3:=h (3,3) (by simp);simp only[CJ,EJ,List.drop,List.take] at h0 h1 h2 h3;clear h;obtain ⟨n,e0⟩:=yG h0;obtain ⟨a,e1,i0⟩:=xM h1;obtain ⟨b,e2,i1⟩:=xM h2;obtain ⟨c,e3,_⟩:=xM h3;cases e0;cases e1;cases e2;cases e3;exact ⟨⟨n,a,b,c⟩,rfl,i0,i1⟩
theorem aOR:Tryz.prog.cellsOf 99=5:=by kernel_rfl
theorem b9Q:parts Tryz.prog 99 = [(0,3),(1,42)]:=by kernel_rfl
theorem bCE (hB:B<=reachBytes) {fuel:Nat} {ps:List PV} (h:fG Tryz.prog B fuel 99 ps):∃ x:Int×W.EX,.agg ps=W.pUp x/\QU x:=by obtain ⟨hl,fuel,h⟩:=yF Tryz.underlying99 b9Q aOR h;obtain ⟨a0,q0,rfl,mV⟩:=eF hl;obtain ⟨a1,q1,rfl,mW⟩:=eF mV;obtain ⟨a2,q2,rfl,qh⟩:=eF mW;obtain ⟨a3,q3,rfl,wW⟩:=eF qh;obtain ⟨a4,q4,rfl,yx⟩:=eF wW;obtain rfl:=iU yx;have h0:=h (0,3) (by simp);have h1:=h (1,42) (by simp);simp only[EJ,TN,List.drop,List.take] at h0 h1;clear h;obtain ⟨a,e0,_⟩:=xM h0;obtain ⟨e,e1,he⟩:=aJH hB h1;cases e0;cases e1;exact ⟨(a,e),rfl,he⟩
theorem bBZ {fuel:Nat} {ps:List PV} (h:fG Tryz.prog B fuel 22 ps):∃ l:List W.nD,ps = [.sl false 5 (l.map W.LZ)]/\l.length<=B/\∀ x,x∈l->QT x:=by refine yE (e:=82) Tryz.underlying22 (by kernel_rfl) (jP (by kernel_rfl)) (fun h => ?_) h;obtain ⟨x,hp,hx⟩:=bBY h;exact ⟨x,(xh (by kernel_rfl)).trans hp,hx⟩
theorem bCH {fuel:Nat} {ps:List PV} (h:fG Tryz.prog B fuel 84 ps):∃ l:List W.Vr,ps = [.sl false 4 (l.map W.qH)]/\l.length<=B/\∀ x,x∈l->QV x:=by refine yE (e:=94) Tryz.underlying84 (by kernel_rfl) (jP (by kernel_rfl)) (fun h => ?_) h;obtain ⟨x,hp,hx⟩:=bCG h;exact ⟨x,(xh (by kernel_rfl)).trans hp,hx⟩
theorem bCF (hB:B<=reachBytes) {fuel:Nat} {ps:List PV} (h:fG Tryz.prog B fuel 95 ps):∃ l:List (Int×W.EX),ps = [.sl false 5 (l.map W.pUp)]/\l.length<=B/\∀ x,x∈l->QU x:=by refine yE (e:=99) Tryz.underlying95 (by kernel_rfl) (jP (by kernel_rfl)) (fun h => ?_) h;obtain ⟨x,hp,hx⟩:=bCE hB h;exact ⟨x,(xh (by kernel_rfl)).trans hp,hx⟩
abbrev QM (B:Nat) (x:W.Mv):Prop:=x.g.Len/\x.us.length<=B/\∀ u,u∈x.us->u.2.Len
theorem aOS:Tryz.prog.cellsOf 95=1:=by kernel_rfl
theorem aOF:Tryz.prog.cellsOf 97=8:=by kernel_rfl
theorem b9K:parts Tryz.prog 97 = [(0,3),(1,3),(2,3),(3,42),(7,95)]:=by kernel_rfl
theorem bC2 (hB:B<=reachBytes) {fuel:Nat} {ps:List PV} (h:fG Tryz.prog B fuel 97 ps):∃ x:W.Mv,.agg ps=W.xC x/\QM B x:=by obtain ⟨hl,fuel,h⟩:=yF Tryz.underlying97 b9K aOF h;obtain ⟨a0,q0,rfl,mV⟩:=eF hl;obtain ⟨a1,q1,rfl,mW⟩:=eF mV;obtain ⟨a2,q2,rfl,qh⟩:=eF mW;obtain ⟨a3,q3,rfl,wW⟩:=eF qh;obtain ⟨a4,q4,rfl,yx⟩:=eF wW;obtain ⟨a5,q5,rfl,Hg⟩:=eF yx;obtain ⟨a6,q6,rfl,PK⟩:=eF Hg;obtain ⟨a7,q7,rfl,ZF⟩:=eF PK;obtain rfl:=iU ZF;have h0:=h (0,3) (by simp);have h1:=h (1,3) (by simp);have h2:=h (2,3) (by simp);have h3:=h (3,42) (by simp);have h4:=h (7,95) (by simp);simp only[EJ,TN,aOS,List.drop,List.take] at h0 h1 h2 h3 h4;clear h;obtain ⟨a,e0,_⟩:=xM h0;obtain ⟨b,e1,_⟩:=xM h1;obtain ⟨c,e2,_⟩:=xM h2;obtain ⟨g,e3,hg⟩:=aJH hB h3;obtain ⟨us,e4,hn,hu⟩:=bCF hB h4;cases e0;cases e1;cases e2;cases e3;cases e4;exact ⟨⟨a,b,c,g,us⟩,rfl,hg,hn,hu⟩
theorem bC3 (hB:B<=reachBytes) {fuel:Nat} {ps:List PV} (h:fG Tryz.prog B fuel 85 ps):∃ l:List W.Mv,ps = [.sl false 8 (l.map W.xC)]/\l.length<=B/\∀ x,x∈l->QM B x:=by refine yE (e:=97) Tryz.underlying85 (by kernel_rfl) (jP (by kernel_rfl)) (fun h => ?_) h;obtain ⟨x,hp,hx⟩:=bC2 hB h;exact ⟨x,(xh (by kernel_rfl)).trans hp,hx⟩
theorem aOU:Tryz.prog.cellsOf 84=1:=by kernel_rfl
theorem aOG:Tryz.prog.cellsOf 85=1:=by kernel_rfl
theorem a7M:Tryz.prog.cellsOf 87=6:=by kernel_rfl
theorem b9H:parts Tryz.prog 87 = [(0,83),(1,3),(2,3),(3,83),(4,84),(5,85)]:=by kernel_rfl
theorem bB' (hB:B<=reachBytes) {fuel:Nat} {ps:List PV} (h:fG Tryz.prog B fuel 87 ps):∃ (al:List Int) (L i:Int) (mr:List Int) (vs:List W.Vr) (ms:List W.Mv),ps = [.sl false 1 (W.jF al),.int .i64 L,.int .i64 i,.sl false 1 (W.jF mr),.sl false 4 (vs.map W.qH),.sl false 8 (ms.map W.xC)]/\(vs.length<=B/\∀ v,v∈vs->QV v)/\ms.length<=B/\∀ x,x∈ms->QM B x:=by obtain ⟨hl,fuel,h⟩:=yF Tryz.underlying87 b9H a7M h;obtain ⟨a0,q0,rfl,mV⟩:=eF hl;obtain ⟨a1,q1,rfl,mW⟩:=eF mV;obtain ⟨a2,q2,rfl,qh⟩:=eF mW;obtain ⟨a3,q3,rfl,wW⟩:=eF qh;obtain ⟨a4,q4,rfl,yx⟩:=eF wW;obtain ⟨a5,q5,rfl,Hg⟩:=eF yx;obtain rfl:=iU Hg;have h0:=h (0,83) (by simp);have h1:=h (1,3) (by simp);have h2:=h (2,3) (by simp);have h3:=h (3,83) (by simp);have h4:=h (4,84) (by simp);have h5:=h (5,85) (by simp);simp only[aOD,EJ,aOU,aOG,List.drop,List.take] at h0 h1 h2 h3 h4 h5;clear h;obtain ⟨al,e0,_⟩:=aJJ h0;obtain ⟨L,e1,_⟩:=xM h1;obtain ⟨i,e2,_⟩:=xM h2;obtain ⟨mr,e3,_⟩:=aJJ h3;obtain ⟨vs,e4,hv,hw⟩:=bCH h4;obtain ⟨ms,e5,hm,hn⟩:=bC3 hB h5;cases e0;cases e1;cases e2;cases e3;cases e4;cases e5;exact ⟨al,L,i,mr,vs,ms,rfl,⟨hv,hw⟩,hm,hn⟩
abbrev QTm (B:Nat) (t:W.Tm):Prop:=t.ls.length<=B/\t.es.length<=B/\(t.vs.length<=B/\∀ v,v∈t.vs->QV v)/\t.ms.length<=B/\∀ x,x∈t.ms->QM B x
theorem aOP:Tryz.prog.cellsOf 89=9:=by kernel_rfl
theorem b9P:parts Tryz.prog 89 = [(0,9),(1,34),(2,34),(3,87)]:=by kernel_rfl
theorem bCC (hB:B<=reachBytes) {fuel:Nat} {ps:List PV} (h:fG Tryz.prog B fuel 89 ps):∃ x:W.Tm,.agg ps=W.IK x/\QTm B x:=by obtain ⟨hl,fuel,h⟩:=yF Tryz.underlying89 b9P aOP h;obtain ⟨a0,q0,rfl,mV⟩:=eF hl;obtain ⟨a1,q1,rfl,mW⟩:=eF mV;obtain ⟨a2,q2,rfl,qh⟩:=eF mW;obtain ⟨a3,q3,rfl,wW⟩:=eF qh;obtain ⟨a4,q4,rfl,yx⟩:=eF wW;obtain ⟨a5,q5,rfl,Hg⟩:=eF yx;obtain ⟨a6,q6,rfl,PK⟩:=eF Hg;obtain ⟨a7,q7,rfl,ZF⟩:=eF PK;obtain ⟨a8,q8,rfl,b2P⟩:=eF ZF;obtain rfl:=iU b2P;have h0:=h (0,9) (by simp);have h1:=h (1,34) (by simp);have h2:=h (2,34) (by simp);have h3:=h (3,87) (by simp);simp only[CJ,a7N,a7M,List.drop,List.take] at h0 h1 h2 h3;clear h;obtain ⟨n,e0⟩:=yG h0;obtain ⟨ls,e1,hls⟩:=a2P h1;obtain ⟨es,e2,hes⟩:=a2P h2;obtain ⟨al,L,i,mr,vs,ms,e3,hv,hm⟩:=bB' hB h3;cases e0;cases e1;cases e2;cases e3;exact ⟨⟨n,ls,es,al,L,i,mr,vs,ms⟩,rfl,hls,hes,hv,hm⟩
theorem bCD (hB:B<=reachBytes) {fuel:Nat} {ps:List PV} (h:fG Tryz.prog B fuel 23 ps):∃ l:List W.Tm,ps = [.sl false 9 (l.map W.IK)]/\l.length<=B/\∀ x,x∈l->QTm B x:=by refine yE (e:=89) Tryz.underlying23 (by kernel_rfl) (jP (by kernel_rfl)) (fun h => ?_) h;obtain ⟨x,hp,hx⟩:=bCC hB h;exact ⟨x,(xh (by kernel_rfl)).trans hp,hx⟩
abbrev QI (B:Nat) (x:W.Ins):Prop:=x.es.length<=B
theorem aOB:Tryz.prog.cellsOf 102=3:=by kernel_rfl
theorem b9I:parts Tryz.prog 102 = [(0,9),(1,9),(2,34)]:=by kernel_rfl
theorem bC0 {fuel:Nat} {ps:List PV} (h:fG Tryz.prog B fuel 102 ps):∃ x:W.Ins,.agg ps=W.di x/\QI B x:=by obtain ⟨hl,fuel,h⟩:=yF Tryz.underlying102 b9I aOB h;obtain ⟨a0,q0,rfl,mV⟩:=eF hl;obtain ⟨a1,q1,rfl,mW⟩:=eF mV;obtain ⟨a2,q2,rfl,qh⟩:=eF mW;obtain rfl:=iU qh;have h0:=h (0,9) (by simp);have h1:=h (1,9) (by simp);have h2:=h (2,34) (by simp);simp only[CJ,a7N,List.drop,List.take] at h0 h1 h2;clear h;obtain ⟨n,e0⟩:=yG h0;obtain ⟨t,e1⟩:=yG h1;obtain ⟨es,e2,hes⟩:=a2P h2;cases e0;cases e1;cases e2;exact ⟨⟨n,t,es⟩,rfl,hes⟩
theorem aJI {fuel:Nat} {ps:List PV} (h:fG Tryz.prog B fuel 24 ps):∃ l:List W.Ins,ps = [.sl false 3 (l.map W.di)]/\l.length<=B/\∀ x,x∈l->QI B x:=by refine yE (e:=102) Tryz.underlying24 (by kernel_rfl) (jP (by kernel_rfl)) (fun h => ?_) h;obtain ⟨x,hp,hx⟩:=bC0 h;exact ⟨x,(xh (by kernel_rfl)).trans hp,hx⟩
theorem aOL:Tryz.prog.cellsOf 107=2:=by kernel_rfl
theorem b9N:parts Tryz.prog 107 = [(0,9),(1,9)]:=by kernel_rfl
theorem bC8 {fuel:Nat} {ps:List PV} (h:fG Tryz.prog B fuel 107 ps):∃ x:W.Nm×W.Nm,.agg ps=W.su x/\QT x:=by obtain ⟨hl,fuel,h⟩:=yF Tryz.underlying107 b9N aOL h;obtain ⟨a0,q0,rfl,mV⟩:=eF hl;obtain ⟨a1,q1,rfl,mW⟩:=eF mV;obtain rfl:=iU mW;have h0:=h (0,9) (by simp);have h1:=h (1,9) (by simp);simp only[CJ,List.drop,List.take] at h0 h1;clear h;obtain ⟨n,e0⟩:=yG h0;obtain ⟨t,e1⟩:=yG h1;cases e0;cases e1;exact ⟨(n,t),rfl,trivial⟩
theorem bC9 {fuel:Nat} {ps:List PV} (h:fG Tryz.prog B fuel 103 ps):∃ l:List (W.Nm×W.Nm),ps = [.sl false 2 (l.map W.su)]/\l.length<=B/\∀ x,x∈l->QT x:=by refine yE (e:=107) Tryz.underlying103 (by kernel_rfl) (jP (by kernel_rfl)) (fun h => ?_) h;obtain ⟨x,hp,hx⟩:=bC8 h;exact ⟨x,(xh (by kernel_rfl)).trans hp,hx⟩
abbrev QX (B:Nat) (x:W.qX):Prop:=x.ls.length<=B
theorem aOM:Tryz.prog.cellsOf 103=1:=by kernel_rfl
theorem aOJ:Tryz.prog.cellsOf 105=2:=by kernel_rfl
theorem b9M:parts Tryz.prog 105 = [(0,9),(1,103)]:=by kernel_rfl
theorem bC6 {fuel:Nat} {ps:List PV} (h:fG Tryz.prog B fuel 105 ps):∃ x:W.qX,.agg ps=W.FC x/\QX B x:=by obtain ⟨hl,fuel,h⟩:=yF Tryz.underlying105 b9M aOJ h;obtain ⟨a0,q0,rfl,mV⟩:=eF hl;obtain ⟨a1,q1,rfl,mW⟩:=eF mV;obtain rfl:=iU mW;have h0:=h (0,9) (by simp);have h1:=h (1,103) (by simp);simp only[CJ,aOM,List.drop,List.take] at h0 h1;clear h;obtain ⟨n,e0⟩:=yG h0;obtain ⟨ls,e1,hl2,_⟩:=bC9 h1;cases e0;cases e1;exact ⟨⟨n,ls⟩,rfl,hl2⟩
theorem bC7 {fuel:Nat} {ps:List PV} (h:fG Tryz.prog B fuel 25 ps):∃ l:List W.qX,ps = [.sl false 2 (l.map W.FC)]/\l.length<=B/\∀ x,x∈l->QX B x:=by refine yE (e:=105) Tryz.underlying25 (by kernel_rfl) (jP (by kernel_rfl)) (fun h => ?_) h;obtain ⟨x,hp,hx⟩:=bC6 h;exact ⟨x,(xh (by kernel_rfl)).trans hp,hx⟩
theorem aON:Tryz.prog.cellsOf 112=2:=by kernel_rfl
theorem b9O:parts Tryz.prog 112 = [(0,9),(1,3)]:=by kernel_rfl
theorem bCA {fuel:Nat} {ps:List PV} (h:fG Tryz.prog B fuel 112 ps):∃ x:W.Nm×Int,.agg ps=W.DC x/\QT x:=by obtain ⟨hl,fuel,h⟩:=yF Tryz.underlying112 b9O aON h;obtain ⟨a0,q0,rfl,mV⟩:=eF hl;obtain ⟨a1,q1,rfl,mW⟩:=eF mV;obtain rfl:=iU mW;have h0:=h (0,9) (by simp);have h1:=h (1,3) (by simp);simp only[CJ,EJ,List.drop,List.take] at h0 h1;clear h;obtain ⟨n,e0⟩:=yG h0;obtain ⟨k,e1,_⟩:=xM h1;cases e0;cases e1;exact ⟨(n,k),rfl,trivial⟩
theorem bCB {fuel:Nat} {ps:List PV} (h:fG Tryz.prog B fuel 108 ps):∃ l:List (W.Nm×Int),ps = [.sl false 2 (l.map W.DC)]/\l.length<=B/\∀ x,x∈l->QT x:=by refine yE (e:=112) Tryz.underlying108 (by kernel_rfl) (jP (by kernel_rfl)) (fun h => ?_) h;obtain ⟨x,hp,hx⟩:=bCA h;exact ⟨x,(xh (by kernel_rfl)).trans hp,hx⟩
abbrev QC (B:Nat) (x:W.Cst):Prop:=x.ts.length<=B
theorem aOO:Tryz.prog.cellsOf 108=1:=by kernel_rfl
theorem aOH:Tryz.prog.cellsOf 110=3:=by kernel_rfl
theorem b9L:parts Tryz.prog 110 = [(0,9),(1,108),(2,3)]:=by kernel_rfl
theorem bC4 {fuel:Nat} {ps:List PV} (h:fG Tryz.prog B fuel 110 ps):∃ x:W.Cst,.agg ps=W.kL x/\QC B x:=by obtain ⟨hl,fuel,h⟩:=yF Tryz.underlying110 b9L aOH h;obtain ⟨a0,q0,rfl,mV⟩:=eF hl;obtain ⟨a1,q1,rfl,mW⟩:=eF mV;obtain ⟨a2,q2,rfl,qh⟩:=eF mW;obtain rfl:=iU qh;have h0:=h (0,9) (by simp);have h1:=h (1,108) (by simp);have h2:=h (2,3) (by simp);simp only[CJ,aOO,EJ,List.drop,List.take] at h0 h1 h2;clear h;obtain ⟨n,e0⟩:=yG h0;obtain ⟨ts,e1,hl2,_⟩:=bCB h1;obtain ⟨b,e2,_⟩:=xM h2;cases e0;cases e1;cases e2;exact ⟨⟨n,ts,b⟩,rfl,hl2⟩
theorem bC5 {fuel:Nat} {ps:List PV} (h:fG Tryz.prog B fuel 26 ps):∃ l:List W.Cst,ps = [.sl false 3 (l.map W.kL)]/\l.length<=B/\∀ x,x∈l->QC B x:=by refine yE (e:=110) Tryz.underlying26 (by kernel_rfl) (jP (by kernel_rfl)) (fun h => ?_) h;obtain ⟨x,hp,hx⟩:=bC4 h;exact ⟨x,(xh (by kernel_rfl)).trans hp,hx⟩
theorem aOA:Tryz.prog.cellsOf 22=1:=by kernel_rfl
theorem aOQ:Tryz.prog.cellsOf 23=1:=by kernel_rfl
theorem aOC:Tryz.prog.cellsOf 24=1:=by kernel_rfl
theorem aOK:Tryz.prog.cellsOf 25=1:=by kernel_rfl
theorem aOI:Tryz.prog.cellsOf 26=1:=by kernel_rfl
theorem aOE:Tryz.prog.cellsOf 28=7:=by kernel_rfl
theorem b9J:parts Tryz.prog 28 = [(0,9),(1,22),(2,23),(3,24),(4,24),(5,25),(6,26)]:=by kernel_rfl
theorem bC1 (hB:B<=reachBytes) {fuel:Nat} {ps:List PV} (h:fG Tryz.prog B fuel 28 ps):∃ m:W.Mo,.agg ps=W.A0 (W.aO m)/\(B<=W.BK->W.JB m):=by
 obtain ⟨hl,fuel,h⟩:=yF Tryz.underlying28 b9J aOE h;obtain ⟨a0,q0,rfl,mV⟩:=eF hl;obtain ⟨a1,q1,rfl,mW⟩:=eF mV;obtain ⟨a2,q2,rfl,qh⟩:=eF mW;obtain ⟨a3,q3,rfl,wW⟩:=eF qh;obtain ⟨a4,q4,rfl,yx⟩:=eF wW;obtain ⟨a5,q5,rfl,Hg⟩:=eF yx;obtain ⟨a6,q6,rfl,PK⟩:=eF Hg;obtain rfl:=iU PK;have h0:=h (0,9) (by simp);have h1:=h (1,22) (by simp);have h2:=h (2,23) (by simp);have h3:=h (3,24) (by simp);have h4:=h (4,24) (by simp);have h5:=h (5,25) (by simp);have h6:=h (6,26) (by simp);simp only[CJ,aOA,aOQ,aOC,aOK,aOI,List.drop,List.take] at h0 h1 h2 h3 h4 h5 h6;clear h;obtain ⟨n,e0⟩:=yG h0;obtain ⟨es,e1,he,_⟩:=bBZ h1;obtain ⟨ts,e2,ht,hT⟩:=bCD hB h2;obtain ⟨cs,e3,hc,hC⟩:=aJI h3;obtain ⟨rs,e4,hr,hR⟩:=aJI h4;obtain ⟨xs,e5,hx,hX⟩:=bC7 h5;obtain ⟨ks,e6,hk,hK⟩:=bC5 h6;cases e0;cases e1;cases e2;cases e3;cases e4;cases e5;cases e6;refine ⟨⟨n,es,ts,cs,rs,xs,ks⟩,rfl,fun hb=>⟨by show es.length<=_; omega,⟨by show ts.length<=_; omega,fun t h => ?_⟩,⟨by show cs.length<=_; omega,by show rs.length<=_; omega,fun x h => ?_⟩,⟨by show xs.length<=_; omega,fun x h=>iC (hX x h) hb⟩,⟨by show ks.length<=_; omega,fun x h=>iC (hK x h) hb⟩⟩⟩
 .obtain ⟨h1,h2,h3,h4,h5⟩:=hT t h;exact ⟨by omega,by omega,⟨by omega,h3.2⟩,⟨by omega,fun x hx=>⟨(h5 x hx).1,iC (h5 x hx).2.1 hb,(h5 x hx).2.2⟩⟩⟩
 .rcases rP.1 h with h | h
  .exact iC (hC x h) hb
  .exact iC (hR x h) hb
end
theorem bCI {fuel:Nat} {ps:List PV} (h:fG Tryz.prog 184549376 fuel 28 ps):∃ m:W.Mo,sJ Tryz.prog 28 ps=W.A0 (W.aO m)/\W.JB m:=by obtain ⟨m,h1,h2⟩:=bC1 (by decide) h;exact ⟨m,(xh (by kernel_rfl)).trans h1,h2 (by decide)⟩
end Go.Proofs.YtcdceiloganlnaaGreatDoor
namespace Go.Proofs.YtcdceiloganlnaaGreatDoor.W
open Go.RowKit
set_option maxRecDepth 1000000
theorem Kv {n b:Int} {F:Bool->R}:∃ c:Bool,F (decide (n<=b))=F c/\(c=true->n<=b):=⟨_,rfl,jP⟩
theorem smE {x:EX} (h:x.Len) {F:Bool->R}:∃ c:Bool,(G3 24 [A1 (ev x)] fun b=>F b)=F c/\(c=true->True):=by obtain ⟨b,e⟩:=aJX h;exact ⟨b,bD e,fun _=>trivial⟩
theorem smB {x:EX} (hx:x.Len) {P:Prop} {F:Bool->R} {X:R} (h:∃ c:Bool,X=F c/\(c=true->P)):∃ c:Bool,(G3 24 [A1 (ev x)] fun b=>aA b X (F false))=F c/\(c=true->P):=by obtain ⟨b,e⟩:=aJX hx;obtain ⟨c,e2,f2⟩:=wM (b:=b) h;exact ⟨c,(bD e).trans e2,fun h=>(f2 h).2⟩
theorem aQC (m:Mo) (X:List PV) (us:List (Int×EX)) (hn:us.length<=BK) (hu:∀ u,u∈us->u.2.Len) (i j:Int) (b:Bool):∃ c:Bool,yh (aO m) X (us.map pUp) b 0 i j=ER (aO m) c X (i64.wrap (j+1)) i/\(c=true->b=true):=by have hn2:us.length<=300000000:=hn;obtain ⟨c,e,f⟩:=BD (l:=us) (P:=fun _=>True) (L:=fun b k=>yh (aO m) X (us.map pUp) b (k:Int) i j) (fun k hk b=>by rw[a9T,aN (by rw[ak]; omega),aG,I5 hk,bT (by omega)];exact wM (F:=fun c=>yh (aO m) X (us.map pUp) c ((k+1:Nat):Int) i j) (smE (hu _ (dD hk)))) b;refine ⟨c,(show yh (aO m) X (us.map pUp) b 0 i j=_ from e).trans ?_,fun h=>(f h).1⟩;rw[a9T,aT (by rw[ak]; omega),aC]
theorem aQ9 (m:Mo) (ms:List Mv) (hn:ms.length<=BK) (hx:∀ x,x∈ms->x.g.Len/\x.us.length<=BK/\∀ u,u∈x.us->u.2.Len) (i:Int) (b:Bool):∃ c:Bool,ER (aO m) b (ms.map xC) 0 i=CU (aO m) c (i64.wrap (i+1))/\(c=true->b=true/\∀ x,x∈ms->((x.us.map pUp).length:Int)<=20):=by have hn2:ms.length<=300000000:=hn;obtain ⟨c,e,f⟩:=BD (l:=ms) (P:=fun x=>((x.us.map pUp).length:Int)<=20) (L:=fun b k=>ER (aO m) b (ms.map xC) (k:Int) i) (fun k hk b=>by obtain ⟨h1,h2,h3⟩:=hx _ (dD hk);rw[a9S,aN (by rw[ak]; omega),aG,Pn hk];obtain ⟨c,e,f⟩:=wM (b:=b) (F:=fun c=>yh (aO m) (ms.map xC) (jc ms[k]).2.2.2.2.2.2.2.1 c 0 i (k:Int)) (smB h1 (Kv (n:=((jc ms[k]).2.2.2.2.2.2.2.1.length:Int)) (b:=20)));obtain ⟨c2,e2,f2⟩:=aQC m (ms.map xC) (ms[k]).us h2 h3 i (k:Int) c;rw[bT (by omega)] at e2;exact ⟨c2,(show _=_ from e).trans e2,fun h=>f (f2 h)⟩) b;refine ⟨c,(show ER (aO m) b (ms.map xC) 0 i=_ from e).trans ?_,f⟩;rw[a9S,aT (by rw[ak]; omega),aC]
theorem aQD (m:Mo) (t:Tm) (hn:t.vs.length<=BK) (i:Int) (b:Bool):∃ c:Bool,jm (aO m) (bU t) b 0 i=ER (aO m) c (t.ms.map xC) 0 i/\(c=true->b=true/\∀ v,v∈t.vs->oG [v.n]):=by have hn2:t.vs.length<=300000000:=hn;obtain ⟨c,e,f⟩:=BD (l:=t.vs) (P:=fun v=>oG [v.n]) (L:=fun b k=>jm (aO m) (bU t) b (k:Int) i) (fun k hk b=>by rw[a9R,aN (show (k:Int)<((bU t).2.2.2.2.2.2.2.1.length:Int) by rw[ak]; omega),aG,Es hk,bT (by omega)];exact wM (F:=fun c=>jm (aO m) (bU t) c ((k+1:Nat):Int) i) (WN (l := [(t.vs[k]).n]) (by show 1<=BK; decide))) b;refine ⟨c,(show jm (aO m) (bU t) b 0 i=_ from e).trans ?_,f⟩;rw[a9R,aT (show ¬ (t.vs.length:Int)<((bU t).2.2.2.2.2.2.2.1.length:Int) by rw[ak]; omega),aC]
structure JF (t:Tm):Prop where
 n:oG [t.n]
 es:oG t.es/\t.es.length<=40
 ls:oG t.ls/\t.ls.length<=40
 al:t.al.length<=40
 mr:t.mr.length<=40
 vs:t.vs.length<=20/\∀ v,v∈t.vs->oG [v.n]
 ms:t.ms.length<=40/\∀ x,x∈t.ms->x.us.length<=20
theorem aQA (m:Mo) (t:Tm) (h:XD t) (k:Nat) (hk:k<1000000000) (b:Bool):∃ c:Bool,(aA b (G3 42 [.sl false 1 [.str (bU t).1]] fun b11=>aA b11 (G3 42 [.sl false 1 (bU t).2.2.1] fun b13=>aA b13 (G3 42 [.sl false 1 (bU t).2.1] fun b15=>aA b15 (aA (decide (((bU t).2.2.1.length:Int)<=40)) (aA (decide (((bU t).2.1.length:Int)<=40)) (aA (decide (((bU t).2.2.2.1.length:Int)<=40)) (aA (decide (((bU t).2.2.2.2.2.2.1.length:Int)<=40)) (aA (decide (((bU t).2.2.2.2.2.2.2.1.length:Int)<=20)) (jm (aO m) (bU t) (decide (((bU t).2.2.2.2.2.2.2.2.1.length:Int)<=40)) 0 (k:Int)) (jm (aO m) (bU t) false 0 (k:Int))) (jm (aO m) (bU t) false 0 (k:Int))) (jm (aO m) (bU t) false 0 (k:Int))) (jm (aO m) (bU t) false 0 (k:Int))) (jm (aO m) (bU t) false 0 (k:Int))) (jm (aO m) (bU t) false 0 (k:Int))) (jm (aO m) (bU t) false 0 (k:Int))) (jm (aO m) (bU t) false 0 (k:Int))) (jm (aO m) (bU t) false 0 (k:Int)))=CU (aO m) c ((k+1:Nat):Int)/\(c=true->b=true/\JF t):=by obtain ⟨c,e,f⟩:=wM (b:=b) (F:=fun c=>jm (aO m) (bU t) c 0 (k:Int)) (FQ (l := [t.n]) (by show 1<=BK; decide) (FQ (l:=t.es) h.es (FQ (l:=t.ls) h.ls (Az (n:=((bU t).2.2.1.length:Int)) (b:=40) (Az (n:=((bU t).2.1.length:Int)) (b:=40) (Az (n:=((bU t).2.2.2.1.length:Int)) (b:=40) (Az (n:=((bU t).2.2.2.2.2.2.1.length:Int)) (b:=40) (Az (n:=((bU t).2.2.2.2.2.2.2.1.length:Int)) (b:=20) (Kv (n:=((bU t).2.2.2.2.2.2.2.2.1.length:Int)) (b:=40))))))))));obtain ⟨c2,e2,f2⟩:=aQD m t h.vs.1 (k:Int) c;obtain ⟨c3,e3,f3⟩:=aQ9 m t.ms h.ms.1 h.ms.2 (k:Int) c2;rw[bT (by omega)] at e3;refine ⟨c3,(show _=_ from e).trans (e2.trans e3),fun hc => ?_⟩;obtain ⟨q1,q2⟩:=f3 hc;obtain ⟨q3,q4⟩:=f2 q1;obtain ⟨q5,a1,a2,a3,a4,a5,a6,a7,a8,a9⟩:=f q3;simp only[jD,bW] at a4 a5 a6 a7 a8 a9 q2;exact ⟨q5,a1,⟨a2,by omega⟩,⟨a3,by omega⟩,by omega,by omega,⟨by omega,q4⟩,⟨by omega,fun x hx=>by have:=q2 x hx; omega⟩⟩
theorem aF' {a b:Nat} (h:a<=BK) (h2:b<=BK):decide (a+b<=aV)=true:=aN (by have h:a<=300000000:=h;have h2:b<=300000000:=h2;show a+b<=1073741824; omega)
theorem aOW (l:List Ins) (hn:l.length<=BK):SS.CC 45 [.sl false 3 (l.map di)] []=some (.sl true 3 (l.map di),[]):=by
 rw[aBR];refine a0I ?_ fun h => ?_
 .rw[show (false==true)=false from rfl,aC,ah (by rw[bW]; exact aF' (by decide) hn)]
 .rw[show (true==true)=true from rfl,aG,h]
structure XH (x:Ins):Prop where
 n:oG [x.n,x.t]
 es:oG x.es/\x.es.length<=40
structure XJ (x:qX):Prop where
 n:oG [x.n]
 ls:x.ls.length<=40/\∀ l,l∈x.ls->oG [l.1,l.2]
structure XG (x:Cst):Prop where
 n:oG [x.n]
 ts:x.ts.length<=40/\∀ l,l∈x.ts->oG [l.1]
structure XI (m:Mo):Prop where
 n:oG [m.n]
 es:m.es.length<=40/\∀ e,e∈m.es->oG [e.n]
 ts:m.ts.length<=20/\∀ t,t∈m.ts->JF t
 cs:m.cs.length<=40
 rs:m.rs.length<=40
 is:∀ x,x∈m.cs ++ m.rs->XH x
 xs:m.xs.length<=40/\∀ x,x∈m.xs->XJ x
 ks:m.ks.length<=40/\∀ x,x∈m.ks->XG x
theorem aQ8 (ks:List Cst) (hn:ks.length<=BK) (h:∀ x,x∈ks->x.ts.length<=BK) (b:Bool):∃ c:Bool,ET b (ks.map kL) 0=some (.bool c,[])/\(c=true->b=true/\∀ x,x∈ks->XG x):=by
 have hn2:ks.length<=300000000:=hn;obtain ⟨c,e,f⟩:=BD (l:=ks) (P:=XG) (L:=fun b k=>ET b (ks.map kL) (k:Int)) (fun k hk b=>by
  have hts:(ks[k]).ts.length<=300000000:=h _ (dD hk);rw[a9X,aN (by rw[ak]; omega),aG,Kw hk];obtain ⟨c,e,f⟩:=wM (b:=b) (F:=fun c=>yu (ks.map kL) (kw ks[k]).2.1 c 0 (k:Int)) (FQ (l := [(ks[k]).n]) (by show 1<=BK; decide) (Kv (n:=((kw ks[k]).2.1.length:Int)) (b:=40)));obtain ⟨c2,e2,f2⟩:=BD (l:=(ks[k]).ts) (P:=fun l=>oG [l.1]) (L:=fun b i=>yu (ks.map kL) ((ks[k]).ts.map DC) b (i:Int) (k:Int)) (fun i hi b=>by rw[a9Y,aN (by rw[ak]; omega),aG,L9 hi,bT (by omega)];exact wM (F:=fun c=>yu (ks.map kL) ((ks[k]).ts.map DC) c ((i+1:Nat):Int) (k:Int)) (WN (l := [((ks[k]).ts[i]).1]) (by show 1<=BK; decide))) c;have e3:yu (ks.map kL) ((ks[k]).ts.map DC) c2 ((ks[k]).ts.length:Int) (k:Int)=ET c2 (ks.map kL) ((k+1:Nat):Int):=by rw[a9Y,aT (by rw[ak]; omega),aC,bT (by omega)]
  refine ⟨c2,(show _=_ from e).trans ((show yu (ks.map kL) ((ks[k]).ts.map DC) c 0 (k:Int)=_ from e2).trans e3),fun hc => ?_⟩;obtain ⟨q1,q2⟩:=f2 hc;obtain ⟨q3,a1,a2⟩:=f q1;simp only[bW] at a2;exact ⟨q3,a1,by omega,q2⟩) b
 refine ⟨c,(show ET b (ks.map kL) 0=_ from e).trans ?_,f⟩;rw[a9X,aT (by rw[ak]; omega),aC]
theorem aQE (m:Mo) (hn:m.xs.length<=BK) (h:∀ x,x∈m.xs->x.ls.length<=BK) (b:Bool):∃ c:Bool,ES (aO m) b 0=ET c (m.ks.map kL) 0/\(c=true->b=true/\∀ x,x∈m.xs->XJ x):=by
 have hn2:m.xs.length<=300000000:=hn;obtain ⟨c,e,f⟩:=BD (l:=m.xs) (P:=XJ) (L:=fun b k=>ES (aO m) b (k:Int)) (fun k hk b=>by
  have hts:(m.xs[k]).ls.length<=300000000:=h _ (dD hk);rw[a9V,aN (show (k:Int)<((aO m).2.2.2.2.2.1.length:Int) by rw[ak]; omega),aG,I4 hk];obtain ⟨c,e,f⟩:=wM (b:=b) (F:=fun c=>yl (aO m) (yH m.xs[k]).2.1 c 0 (k:Int)) (FQ (l := [(m.xs[k]).n]) (by show 1<=BK; decide) (Kv (n:=((yH m.xs[k]).2.1.length:Int)) (b:=40)));obtain ⟨c2,e2,f2⟩:=BD (l:=(m.xs[k]).ls) (P:=fun l=>oG [l.1,l.2]) (L:=fun b i=>yl (aO m) ((m.xs[k]).ls.map su) b (i:Int) (k:Int)) (fun i hi b=>by rw[a9W,aN (by rw[ak]; omega),aG,Kz hi,bT (by omega)];exact wM (F:=fun c=>yl (aO m) ((m.xs[k]).ls.map su) c ((i+1:Nat):Int) (k:Int)) (WN (l := [((m.xs[k]).ls[i]).1,((m.xs[k]).ls[i]).2]) (by show 2<=BK; decide))) c;have e3:yl (aO m) ((m.xs[k]).ls.map su) c2 ((m.xs[k]).ls.length:Int) (k:Int)=ES (aO m) c2 ((k+1:Nat):Int):=by rw[a9W,aT (by rw[ak]; omega),aC,bT (by omega)]
  refine ⟨c2,(show _=_ from e).trans ((show yl (aO m) ((m.xs[k]).ls.map su) c 0 (k:Int)=_ from e2).trans e3),fun hc => ?_⟩;obtain ⟨q1,q2⟩:=f2 hc;obtain ⟨q3,a1,a2⟩:=f q1;simp only[bW] at a2;exact ⟨q3,a1,by omega,q2⟩) b
 refine ⟨c,(show ES (aO m) b 0=_ from e).trans ?_,f⟩;rw[a9V,aT (show ¬ (m.xs.length:Int)<((aO m).2.2.2.2.2.1.length:Int) by rw[ak]; omega),aC]
theorem aQ7 (m:Mo) (l:List Ins) (hn:l.length<=2*BK) (h:∀ x,x∈l->x.es.length<=BK) (b:Bool):∃ c:Bool,yj (aO m) b (l.map di) ((l.map di).length:Int) 0=ES (aO m) c 0/\(c=true->b=true/\∀ x,x∈l->XH x):=by have hn2:l.length<=2*300000000:=hn;obtain ⟨c,e,f⟩:=BD (l:=l) (P:=XH) (L:=fun b k=>yj (aO m) b (l.map di) ((l.map di).length:Int) (k:Int)) (fun k hk b=>by rw[a9U,aN (by rw[ak]; omega),aG,Eo hk,bT (by omega)];obtain ⟨c,e,f⟩:=wM (b:=b) (F:=fun c=>yj (aO m) c (l.map di) ((l.map di).length:Int) ((k+1:Nat):Int)) (FQ (l := [(l[k]).n,(l[k]).t]) (by show 2<=BK; decide) (FQ (l:=(l[k]).es) (h _ (dD hk)) (Kv (n:=((Qu l[k]).2.2.1.length:Int)) (b:=40))));refine ⟨c,e,fun hc => ?_⟩;obtain ⟨q,a1,a2,a3⟩:=f hc;simp only[jD] at a3;exact ⟨q,a1,a2,by omega⟩) b;refine ⟨c,(show yj (aO m) b (l.map di) ((l.map di).length:Int) 0=_ from e).trans ?_,f⟩;rw[a9U,aT (by rw[ak]; omega),aC]
theorem aQB (m:Mo) (h:JB m) (b:Bool):∃ c:Bool,CU (aO m) b 0=yj (aO m) c ((m.cs ++ m.rs).map di) (((m.cs ++ m.rs).map di).length:Int) 0/\(c=true->b=true/\∀ t,t∈m.ts->JF t):=by have hn2:m.ts.length<=300000000:=h.ts.1;obtain ⟨c,e,f⟩:=BD (l:=m.ts) (P:=JF) (L:=fun b k=>CU (aO m) b (k:Int)) (fun k hk b=>by rw[a9Q,aN (show (k:Int)<((aO m).2.2.1.length:Int) by rw[ak]; omega),aG,L6 hk];exact aQA m _ (h.ts.2 _ (dD hk)) k (by omega) b) b;refine ⟨c,(show CU (aO m) b 0=_ from e).trans ?_,f⟩;rw[a9Q,aT (show ¬ (m.ts.length:Int)<((aO m).2.2.1.length:Int) by rw[ak]; omega),aC,Rj (aOW m.cs h.is.1),ah (by rw[bW]; exact aF' h.is.1 (by rw[bW]; exact h.is.2.1))];dsimp only;rw[<- tY]
theorem aQF (m:Mo) (h:JB m):∃ c:Bool,SS.CC 13 [A0 (aO m)] []=some (.bool c,[])/\(c=true->XI m):=by
 have hn2:m.es.length<=300000000:=h.es;obtain ⟨c0,e0,f0⟩:=FQ (l := [m.n]) (by show 1<=BK; decide) (F:=fun c=>uT (aO m) c 0) (Az (n:=((aO m).2.1.length:Int)) (b:=40) (Az (n:=((aO m).2.2.1.length:Int)) (b:=20) (Az (n:=((aO m).2.2.2.1.length:Int)) (b:=40) (Az (n:=((aO m).2.2.2.2.1.length:Int)) (b:=40) (Az (n:=((aO m).2.2.2.2.2.1.length:Int)) (b:=40) (Kv (n:=((aO m).2.2.2.2.2.2.1.length:Int)) (b:=40)))))));obtain ⟨c1,e1,f1⟩:=BD (l:=m.es) (P:=fun e=>oG [e.n]) (L:=fun b k=>uT (aO m) b (k:Int)) (fun k hk b=>by rw[a9Z,aN (show (k:Int)<((aO m).2.1.length:Int) by rw[ak]; omega),aG,VX hk,bT (by omega)];exact wM (F:=fun c=>uT (aO m) c ((k+1:Nat):Int)) (WN (l := [(m.es[k]).n]) (by show 1<=BK; decide))) c0;have e1':uT (aO m) c1 (m.es.length:Int)=CU (aO m) c1 0:=by rw[a9Z,aT (show ¬ (m.es.length:Int)<((aO m).2.1.length:Int) by rw[ak]; omega),aC]
 obtain ⟨c2,e2,f2⟩:=aQB m h c1;obtain ⟨c3,e3,f3⟩:=aQ7 m (m.cs ++ m.rs) (by rw[aK]; have:=h.is.1; have:=h.is.2.1; omega) h.is.2.2 c2;obtain ⟨c4,e4,f4⟩:=aQE m h.xs.1 h.xs.2 c3;obtain ⟨c5,e5,f5⟩:=aQ8 m.ks h.ks.1 h.ks.2 c4;refine ⟨c5,?_,fun hc => ?_⟩
 .rw[aSI];exact (show _=_ from e0).trans ((show uT (aO m) c0 0=_ from e1).trans (e1'.trans (e2.trans (e3.trans (e4.trans e5)))))
 .obtain ⟨q5,p5⟩:=f5 hc;obtain ⟨q4,p4⟩:=f4 q5;obtain ⟨q3,p3⟩:=f3 q4;obtain ⟨q2,p2⟩:=f2 q3;obtain ⟨q1,p1⟩:=f1 q2;obtain ⟨a0,a1,a2,a3,a4,a5,a6⟩:=f0 q1;simp only[bW] at a1 a2 a3 a4 a5 a6;exact ⟨a0,⟨by omega,p1⟩,⟨by omega,p2⟩,by omega,by omega,p3,⟨by omega,p4⟩,⟨by omega,p5⟩⟩
theorem b7J {t:Tm} (hb:XD t) (hf:JF t):pq t:=by refine ⟨⟨by have:=hf.ls.2; omega,fun s hs=>by have:=hf.ls.1 s hs; omega⟩,⟨by have:=hf.es.2; omega,fun s hs=>by have:=hf.es.1 s hs; omega⟩,by have:=hf.al; omega,by have:=hf.mr; omega,⟨by have:=hf.vs.1; omega,fun v hv=>⟨by have:=hf.vs.2 v hv v.n (by simp); omega,hb.vs.2 v hv⟩⟩,⟨by have:=hf.ms.1; omega,fun x hx=>⟨(hb.ms.2 x hx).1,by have:=hf.ms.2 x hx; omega,(hb.ms.2 x hx).2.2⟩⟩⟩
theorem b7I {m:Mo} (hb:JB m) (hf:XI m):ji m:=by
 refine ⟨by have:=hf.n m.n (by simp); omega,⟨by have:=hf.es.1; omega,fun e he=>by have:=hf.es.2 e he e.n (by simp); omega⟩,⟨by have:=hf.ts.1; omega,fun t ht=>⟨by have:=(hf.ts.2 t ht).n t.n (by simp); omega,b7J (hb.ts.2 t ht) (hf.ts.2 t ht)⟩⟩,⟨by have:=hf.cs; omega,by have:=hf.rs; omega,fun x hx => ?_⟩,⟨by have:=hf.xs.1; omega,fun x hx => ?_⟩,⟨by have:=hf.ks.1; omega,fun x hx => ?_⟩⟩
 .have h:=hf.is x hx;exact ⟨by have:=h.n x.n (by simp); omega,by have:=h.n x.t (by simp); omega,by have:=h.es.2; omega,fun s hs=>by have:=h.es.1 s hs; omega⟩
 .have h:=hf.xs.2 x hx;exact ⟨by have:=h.n x.n (by simp); omega,by have:=h.ls.1; omega,fun l hl=>⟨by have:=h.ls.2 l hl l.1 (by simp); omega,by have:=h.ls.2 l hl l.2 (by simp); omega⟩⟩
 .have h:=hf.ks.2 x hx;exact ⟨by have:=h.n x.n (by simp); omega,by have:=h.ts.1; omega,fun l hl=>by have:=h.ts.2 l hl l.1 (by simp); omega⟩
theorem Ai {α:Type} {f:α->List Tok} {c:Nat}:∀ {l:List α},(∀ x,x∈l->(f x).length<=c)->(l.flatMap f).length<=c*l.length
 | [],_=>uA _
 | a::l,h=>by
  have h1:=h a (by simp);have h2:=Ai (l:=l) fun x hx=>h x (by simp[hx])
  rw[J5,aK,aU,Nat.mul_add];omega
theorem WI {α:Type} {f:α->List Tok} {s:Tok} {c:Nat} {l:List α} (h:∀ x,x∈l->(f x).length<=c):(gq s (l.map f)).length<=c*l.length+l.length:=by
 have h1:=aFV s (l.map f);have h2:=Ai (l:=l) h;have h3:((l.map f).flatMap id).length=(l.flatMap f).length:=by rw[List.flatMap_map]; rfl
 rw[h3,bW] at h1;omega
theorem aH3 {l:List Nm} (h:l.length<=40):(qo l).length<=82:=by have:=WI (l:=l) (f:=fun s => [tW s]) (s:=tS [44]) (c:=1) (fun _ _=>bQ _);unfold qo;simp only[aK,aU,aj];omega
theorem b5L (I:Int) (mr:List Int) (i:Nat) (s:Nm):(vV I mr i s).length<=5:=by unfold vV;simp only[aK,aU,aj];split<;>split<;>simp
theorem aFT (I:Int) (mr:List Int):∀ (l:List Nm) (i:Nat),(vW I mr i l).length<=5*l.length
 | [],_=>uA _
 | s::l,i=>by have:=b5L I mr i s;have:=aFT I mr l (i+1);rw[vW,aK,aU]; omega
theorem bET (v:Vr):(o6 v).length<=12:=by have:=zB v.lo; have:=zB v.hi; have:=zB v.i;unfold o6;simp only[aK,aU,aj];omega
theorem b6X {t:Tm} {x:Mv} (hg:Rk t x) (hu:x.us.length<=20):(lJ t x).length<=10900:=by
 have hx:∀ {y:EX},uF t.vs.length y->(uP (t.vs.map (·.n)) y).length<=512:=fun hy=>a00 (by rw[Dj]; exact hy)
 have h1:=hx hg.g;have h2:=WI (l:=x.us) (f:=ku (t.vs.map (·.n))) (s:=tS [44]) (c:=514) (fun u hu=>by have:=hx (hg.us u hu).2;unfold ku;simp only[aK,aU,aj];omega);unfold lJ;simp only[aK,aU,aj];split<;>split<;>simp only[aU,aj]<;>omega
theorem bDQ {t:Tm} (hg:yP t) (hf:JF t):(jv t).length<=440000:=by
 have h1:=aH3 hf.es.2;have h2:=aFT t.I t.mr t.ls 0;have h3:=Ai (l:=t.vs) (f:=o6) (c:=12) fun v _=>bET v
 have h4:=Ai (l:=t.ms) (f:=lJ t) (c:=10900) fun x hx=>b6X (hg.ms x hx) (hf.ms.2 x hx)
 have:=hf.ls.2; have:=hf.vs.1; have:=hf.ms.1;unfold jv;simp only[aK,aU,aj];omega
theorem b6U {m:Mo} (hg:zy m) (hf:XI m):(jH m).length<=10000000:=by
 have h1:=Ai (l:=m.es) (f:=pz) (c:=9) fun e _=>b5N e
 have h2:=Ai (l:=m.ts) (f:=jv) (c:=440000) fun t ht=>bDQ (hg.ts t ht).2 (hf.ts.2 t ht)
 have hi:∀ (w:Nm) (x:Ins),x∈m.cs ++ m.rs->(inT w x).length<=90:=fun w x hx=>by have:=aH3 (hf.is x hx).es.2;unfold inT;simp only[aK,aU,aj];omega
 have h3:=Ai (l:=m.cs) (f:=inT wC) (c:=90) fun x hx=>hi _ x (RQ _ hx)
 have h4:=Ai (l:=m.rs) (f:=inT wR) (c:=90) fun x hx=>hi _ x (X6 _ hx)
 have h5:=Ai (l:=m.xs) (f:=pY) (c:=130) fun x hx=>by have:=WI (l:=x.ls) (f:=fun l:Nm×Nm => [tW l.1,tW l.2]) (s:=tS [44]) (c:=2) (fun _ _=>bQ _);have:=(hf.xs.2 x hx).ls.1;unfold pY;simp only[aK,aU,aj];omega
 have h6:=Ai (l:=m.ks) (f:=pJ) (c:=210) fun x hx=>by have:=WI (l:=x.ts) (f:=fun l:Nm×Int=>eG l.2 ++ [tS [42],tW l.1]) (s:=tS [43]) (c:=4) (fun l _=>by have:=zB l.2;rw[aK];simp only[aU,aj];omega);have:=(hf.ks.2 x hx).ts.1;have:=zB x.b;unfold pJ;simp only[aK,aU,aj];omega
 have:=hf.es.1; have:=hf.ts.1; have:=hf.cs; have:=hf.rs; have:=hf.xs.1; have:=hf.ks.1;unfold jH;simp only[aK,aU,aj];omega
theorem bCM (T:List Tok) (h1:T.length<=1000000000000) (h2:(joinL T).length<=1000000000000):SS.CC 15 [.sl false 1 (bH T),.str ⟨#[32]⟩] []=some (.str (bs (joinL T)),[]):=by
 refine JC ?_;have hs:strsOf (T.map fun t=>PV.str (bs t.text))=some (T.map fun t=>bs t.text):=by have:=a2W (T.map (·.text));rw[Bi,Bi] at this;exact this
 unfold bH;rw[aEG,hs];dsimp only;rw[aED,bW,J8 (by omega),J8 (by omega)];rfl
theorem a6Z (m:Mo) (ho:ji m) (h2:m.cs.length+m.rs.length<=1000) (hl:sF m=0->(joinL (jH m)).length<=30000):Ue (aO m) (sF m)=jQ (.bool true):=by
 rw[aYM];by_cases hc:sF m=0
 .have hl:=hl hc;rw[JG (bA8 ho h2 hc hl),bV (TQ m ho h2),hc];dsimp only;rw[qZ rfl,aC,aC,aC,show ((0:Int)==0)=true from rfl,aG,ou (bDH ho h2 hc hl),GG]
 .rw[JG (bA9 ho h2 hc),bV (TQ m ho h2)];dsimp only;rw[show (sF m != sF m)=false by simp,aC,aC,ru hc,aG,GG,aG]
theorem c3 (m:Mo) (h:JB m):SS.CC 3 [A0 (aO m)] []=jQ (.bool true):=by
 obtain ⟨c,e,f⟩:=aQF m h;rw[aYO,bD known,uq,aC,bD e];cases c with
 | false=>rw[zn,aG,bD known]
 | true =>
  have hf:=f rfl;have ho:=b7I h hf;have h2:m.cs.length+m.rs.length<=1000:=by have:=hf.cs; have:=hf.rs; omega
  rw[uq,aC,bV (b5A m ho h2)];by_cases hc:sF m=0
  .have hg:=Yq ho hc;have hn:=b6U hg hf;have hj:=aEE (jH m) fun t ht=>XV (Ze (Qp hg) t ht)
   rw[show (sF m==0)=true by simpa using hc,aG,zx (aL0 m ho hg h2 (by omega)),ou (bCM (jH m) (by omega) (by omega)),jR];by_cases hl:(30000:Int)<((joinL (jH m)).length:Int)
   .rw[aN hl,aG]
   .rw[aT hl,aC];exact a6Z m ho h2 fun _=>by omega
  .rw[show (sF m==0)=false by simpa using hc,aC];exact a6Z m ho h2 fun hz=>absurd hz hc
end Go.Proofs.YtcdceiloganlnaaGreatDoor.W
namespace Go.Proofs.YtcdceiloganlnaaGreatDoor
open Go.ChangeShapes Go.WideShapes Go.ChangeAt Go.RowKit
set_option maxRecDepth 100000 in
theorem aN' (os:Os) (started:os.Started) (H:Type) (enc:TypeId×Value->H) (F:Stop.Interp) :
 ReturnsInHanded {} Tryz.checked os 3 .any ((Rows.OpenSpec.upto Rows.parserChecksSpec).preRow enc Tryz.prog Tryz.f3 Rows.parserChecksUptoRow.domain false Rows.parserChecksUptoRow.laid) (((Rows.OpenSpec.upto Rows.parserChecksSpec).at F).post enc Tryz.prog Tryz.f3 false true false false):=by
 obtain ⟨x,hx,hxb⟩:=Option.any_eq_true _ _ |>.1 (show (DataW.whole enc Tryz.prog ((laidWorld6 os).forCall (fun _ _=>0) ⟨#[],#[.agg #[.string .empty,.slice none 0 0,.slice none 0 0,.slice none 0 0,.slice none 0 0,.slice none 0 0,.slice none 0 0]],[]⟩).memory Tryz.f3.params.toList Rows.parserChecksSpec.vars false (#[.agg #[.string .empty,.slice none 0 0,.slice none 0 0,.slice none 0 0,.slice none 0 0,.slice none 0 0,.slice none 0 0]]:Array Value).toList 8).any (fun x=>decide (Rows.uptoBulkAll (x.1 ++ x.2.1)<=1048576))=true by kernel_rfl);refine returnsInHanded_of_row (C:=Tryz.checked) (s:=Rows.OpenSpec.upto Rows.parserChecksSpec) b7S started (by kernel_rfl) Tryz.func3
  (witness_row_at (enc:=enc) (C:=Tryz.checked) false (laidWorld6 os) #[.agg #[.string .empty,.slice none 0 0,.slice none 0 0,.slice none 0 0,.slice none 0 0,.slice none 0 0,.slice none 0 0]] rfl (by kernel_rfl) (by kernel_rfl) (by kernel_rfl)
   (OpenSpec.preRow_of_cond 8 hx (by kernel_rfl) (fun k hk=>by cases hk; exact hxb) (by kernel_rfl) (laidMet_of_run' 8 (by kernel_rfl) (by kernel_rfl)))) ?_
 intro W base args ds gs before hval0 hW hcnd0 hcnd hsz0 hlaid b2X _;have hbk:Rows.uptoBulkAll (ds ++ gs)<=1048576:=jP (hcnd _ rfl);have hval:∀ (j:Nat) t v,Tryz.f3.params[j]? = some t->args[j]? = some v->Value.okWide Tryz.prog W .any base t v:=hval0;have hW':=hW;obtain ⟨p,q,hA0,hV,rfl,hfz,hnd⟩:=hW;have hA:DataW.TrodAll enc Tryz.prog W 0 (fun _=>true) true Tryz.f3.params.toList args.toList ds p:=hA0;rw[Tryz.params3] at hA hval;have hsz1:∀ (j:Nat) t d,(Tryz.f3.params.toList)[j]? = some t->ds[j]? = some d->∀ n,n∈d.weights Tryz.prog t->n<=184549376:=fun j t d ht hd n hn=>iC (a4J aP6 (by decide) (ds ++ gs) (Tryz.f3.params.toList ++ Rows.parserChecksSpec.plain.varTypes Tryz.prog) n
  (fun t ht=>a4P.1 (fH.1 (show (Tryz.f3.params.toList ++ Rows.parserChecksSpec.plain.varTypes Tryz.prog).all (Y6.contains ·)=true by kernel_rfl) t ht))
  (DataW.weights_mem_each (j:=j) (t:=t) (d:=d) (by rw[jM (dQ.1 ht).1]; exact ht) (by rw[jM (dQ.1 hd).1]; exact hd) n hn)) (by omega)
 rw[Tryz.params3] at hsz1;clear hsz0 hcnd hcnd0;have gw:GW W:=b23 hlaid.tail.tail b2X;obtain ⟨v0,vs0,d0,ds0,p0,q0,hargs,rfl,rfl,h0,r0⟩:=trodAll_cons hA;obtain ⟨rfl,rfl,rfl⟩:=trodAll_nil r0;obtain rfl:args = #[v0]:=by cases args; simp_all
 obtain ⟨rfl,rfl⟩:=trodVars_none hV;have k0:=h0;have lt0:∀ x∈p0,x.block<W.heap.size:=by obtain ⟨m,hm⟩:=k0; exact DataW.trod_lt m _ _ _ hm
 obtain ⟨f0,q0,s0,aIA⟩:=b7R (hW:=gw) aP5 (by decide) (hval 0 28 v0 rfl rfl) h0 (hsz1 0 28 d0 rfl rfl);obtain ⟨e0,he0,x0⟩:=bCI s0;rw[he0] at aIA;clear hA0 hval0;refine (Ev.top (aPZ (Go.Proofs.YtcdceiloganlnaaGreatDoor.W.c3 e0 x0)) (bAS aIA bAR)).mono fun e W' ⟨vr,M',he,hrep,_,bel⟩ => ?_
 subst he;obtain rfl:=iZ.1 hrep;exact ⟨_,rfl,_,_,_,[],_,[],hW',trodAll_mk1 (shut_bool Tryz.underlying4 _),(trodAll_cons_mk (Below.trod b57 (by kernel_rfl) (jP (by kernel_rfl)) k0 bel lt0) trodAll_mk0),rfl,bel.frame _,fun h=>by cases h⟩
theorem aNY:(Rows.parserChecksUptoRow.inPlace==Tryz.prog.inPlace 3)=true:=by kernel_rfl
theorem aO3:(Rows.parserChecksUptoRow.unfollowed==Tryz.prog.unfollowed 3)=true:=by kernel_rfl
theorem aO1:(Rows.parserChecksUptoRow.recurses==Tryz.prog.recurses 3)=true:=by kernel_rfl
theorem aO4:(Rows.parserChecksUptoRow.named==Tryz.prog.varsNamed 3)=true:=by kernel_rfl
theorem aNZ:joinedFacts Tryz.prog 3 Tryz.f3 (Rows.OpenSpec.upto Rows.parserChecksSpec).bare Rows.parserChecksUptoRow=true :=b3T (by kernel_rfl) aNY aO3 aO1 aO4 (by kernel_rfl)
theorem aO5:Tryz.f3.isWrapper Tryz.prog Rows.parserChecksUptoRow.wrapper Rows.parserChecksUptoRow.mainSum:=by unfold Func.isWrapper;first | (rw[aH (by decide +kernel)]; kernel_rfl) | (rw[aI (by decide +kernel)]; exact ⟨rfl,rfl⟩)
theorem aO2:Rows.ParserChecksUptoSaid :=
 OpenClaim.holds_of_cond 3 Tryz.f3 rfl rfl rfl rfl rfl rfl rfl ⟨rfl,rfl,rfl,rfl,rfl⟩ rfl rfl rfl rfl rfl (by kernel_rfl) Tryz.func3 aNZ
  (jP (by kernel_rfl)) aO5
  (fun os started H enc _ F=>by rw[OpenClaim.pre_eq_preRow]; exact aN' os started H enc F)
end Go.Proofs.YtcdceiloganlnaaGreatDoor
end

/-
  The statement ParserWrites is proved. No condition but the row's own.
-/
import Derived.Test.YtcdceiloganlnaaGreatDoorPw7
import Derived.Test.YtcdceiloganlnaaGreatDoorPw9
import Derived.Test.YtcdceiloganlnaaGreatDoorPw8
set_option linter.unusedVariables false
set_option linter.unusedSimpArgs false
set_option linter.unnecessarySimpa false
set_option linter.unusedSectionVars false
namespace Go.Proofs.YtcdceiloganlnaaGreatDoor.W
open Go.RowKit
set_option maxRecDepth 1000000
theorem aEP (l:List ByteArray) (hl:l.length≤1000):SS.CC 101 [.sl false 1 (nmP l)] []=some (.sl true 1 (nmP l),[]):=by
 rw[aR']
 refine aAL ?_ fun h => ?_
 ·show aC false _ _=_
  rw[aA]
  exact aT (bI (by unfold nmP iP; rw[List.length_map]; omega))
 ·rw[h]; rfl
abbrev MF0:MF:=(⟨#[]⟩,[],[],[],[],[],[])
def exA (x:EX) (a b e:Int):R:=some (.tuple [A1 (ev x),.int .i64 a,.int .i64 b,.int .i64 e],[])
theorem aZ3 {A:RA} (h:A.fin.e=0):A.e=0:=by
 unfold RA.fin at h
 split at h
 ·exact h
 ·exact absurd h (yC (by decide))
theorem exprs (l:List ByteArray) (hl:l.length≤1000) (s:List UInt8):∃ x a b e,SS.CC 21 [.sl false 1 (nmP l),.str (bs s)] []=exA x a b e∧SS.CC 22 [.sl false 1 (nmP l),.str (bs s)] []=exA x a b e∧x.Fit:=by
 obtain ⟨A',x,y,e1,e2,o⟩:=(aVO (F:=MF0) (l:=l) (by omega) (ZN s).N).2 0 (by decide) (by decide) (ZN s) (aLX s) (Nat.le_refl _)
 have h21:SS.CC 21 [.sl false 1 (nmP l),.str (bs s)] []=aC (A'.fin.e != 0) (exA zE (if A'.fin.e=0 then 0 else A'.fin.line) (if A'.fin.e=0 then 0 else A'.fin.col) A'.fin.e) (exA x 0 0 0):=by
  rw[aHU,a8L (aY3 s),lS (aEP l hl)]
  try dsimp only
  rw[jB e1]
  try dsimp only
  rw[jF (aX4 o.ok)]
  try dsimp only
  rw[ZA (aLK _)]
  rfl
 have h22:SS.CC 22 [.sl false 1 (nmP l),.str (bs s)] []=aC (A'.fin.e != 0) (exA zE (if A'.fin.e=0 then 0 else A'.fin.line) (if A'.fin.e=0 then 0 else A'.fin.col) A'.fin.e) (exA y 0 0 0):=by
  rw[aVF,a8L (aY3 s)]
  try dsimp only
  rw[oJ e2]
  try dsimp only
  rw[jF (aX4 o.ok)]
  try dsimp only
  rw[ZA (aLK _)]
  rfl
 by_cases he:A'.fin.e=0
 ·have hx:=o.eq (aZ3 he)
  subst hx
  exact ⟨x,0,0,0,by rw[h21,OI he,aA],by rw[h22,OI he,aA],o.fit⟩
 ·exact ⟨zE,_,_,_,by rw[h21,OH he,aB],by rw[h22,OH he,aB],SH⟩
theorem aOZ {l:List ByteArray} (hl:l.length≤1000) {s:List UInt8} {y:EX} {B:RA} (hB:B.ok) (e1:SS.CC 102 [.ptr 0 0] [fJ (pc 0 (nmP l)),aI (ZN s).v]=some (A1 (ev y),[fJ (pc 0 (nmP l)),aI B.v])) :
 SS.CC 21 [.sl false 1 (nmP l),.str (bs s)] []=aC (B.fin.e != 0) (exA zE (if B.fin.e=0 then 0 else B.fin.line) (if B.fin.e=0 then 0 else B.fin.col) B.fin.e) (exA y 0 0 0):=by
 rw[aHU,a8L (aY3 s),lS (aEP l hl)]
 try dsimp only
 rw[jB e1]
 try dsimp only
 rw[jF (aX4 hB)]
 try dsimp only
 rw[ZA (aLK _)]
 rfl
theorem aPX {s:List UInt8} {T:List Tok} (h:pU s = .ok T):ZN s=mk0 T:=by unfold ZN; rw[h]; rfl
theorem aAY (all:List EX) (hn:all.length≤1000) (ih:∀ e,e∈all→SS.CC 23 [A1 (ev e),A1 (ev e)] []=some (.bool true,[])):∀ (m k:Nat),k+m=all.length→J9 (GU all) (GU all) (k:Int)=some (.bool true,[])
 | 0,k,h=>by
  rw[xJ,dF (by rw[evL_map,List.length_map]; omega),aA]
 | m+1,k,h=>by
  have hk:k<all.length:=by omega
  have hg:(GU all)[(k:Int).toNat]? = some (A1 (ev all[k])):=by
   rw[evL_map,Int.toNat_natCast,List.getElem?_map,List.getElem?_eq_getElem hk]; rfl
  rw[xJ,bI (by rw[evL_map,List.length_map]; omega),aB]
  show fU _ _ _=_
  rw[dM (by omega) hg]
  show fU _ _ _=_
  rw[dM (by omega) hg]
  show G3 23 [A1 (ev all[k]),A1 (ev all[k])] _=_
  rw[aW (ih _ (List.getElem_mem hk))]
  rw[Bool.not_true,aA,wrap64 (by omega) (by omega),show ((k:Int)+1)=((k+1:Nat):Int) by omega]
  exact aAY all hn ih m (k+1) (by omega)
theorem eqc {x:EX} (h:x.Fit):SS.CC 23 [A1 (ev x),A1 (ev x)] []=some (.bool true,[]):=by
 induction h with
 | @mk o v i l hl _ ih =>
  rw[aIM,ev_n]
  try dsimp only
  rw[beq_self_eq_true,aB,beq_self_eq_true,aB,beq_self_eq_true,aB]
  have:SS.CC 106 [.sl false 4 (GU l),.sl false 4 (GU l),.func (.func 23) [] []] []=some (.bool true,[]):=by
   rw[aAX,show (((GU l).length:Int) !=((GU l).length:Int))=false by simp,aA]
   exact aAY l (by omega) ih l.length 0 (by omega)
  rw[aW this]
theorem aLW:∀ k:Nat,k<4→∃ l:List ByteArray,l.length≤1000∧SS.CC 20 [.int .u8 120,.int .i64 (k:Int)] []=some (.sl false 1 (nmP l),[]):=by
 intro k hk
 have h:k=0∨k=1∨k=2∨k=3:=by omega
 rcases h with rfl | rfl | rfl | rfl
 ·exact ⟨[],by decide,rQ SS_ok 60 (by kernel_rfl)⟩
 ·exact ⟨[⟨#[120,48]⟩],by decide,rQ SS_ok 60 (by kernel_rfl)⟩
 ·exact ⟨[⟨#[120,48]⟩,⟨#[120,49]⟩],by decide,rQ SS_ok 60 (by kernel_rfl)⟩
 ·exact ⟨[⟨#[120,48]⟩,⟨#[120,49]⟩,⟨#[120,50]⟩],by decide,rQ SS_ok 60 (by kernel_rfl)⟩
theorem known:SS.CC 12 [] []=some (.bool true,[]):=b86
theorem c4 (s:ByteArray) (n:Int) (h0:0≤n) (h1:n≤255):SS.CC 4 [.str s,.int .u8 n] []=CJ (.bool true):=by
 rw[b07,aW known,Bool.not_true,aA]
 by_cases hs:500<(s.size:Int)
 ·rw[bI hs,aB,aW known]
 ·rw[dF hs,aA]
  have hm:IntKind.i64.wrap (Int.tmod n 4)=((n.toNat % 4:Nat):Int):=by
   rw[wrap64 (by have:=Int.tmod_nonneg (a:=n) 4 h0; omega) (by have:=Int.tmod_lt_of_pos n (b:=4) (by decide); omega)]
   rw[Int.tmod_eq_emod_of_nonneg h0]; omega
  obtain ⟨l,hl,e1⟩:=aLW (n.toNat % 4) (by omega)
  obtain ⟨x,a,b,e,e2,e3,hf⟩:=exprs l hl s.data.toList
  rw[CE] at e2 e3
  rw[hm,aZU e1,aB4 e2,aB4 e3]
  try dsimp only
  rw[beq_self_eq_true,aB,beq_self_eq_true,aB,beq_self_eq_true,aB,aW (eqc hf)]
end Go.Proofs.YtcdceiloganlnaaGreatDoor.W
namespace Go.Proofs.YtcdceiloganlnaaGreatDoor.W
open Go.RowKit
set_option maxRecDepth 1000000
def SmR (r:R):Prop:=∃ b c',r=some (.bool b,[pK (c',())])∧0≤c'∧c'≤80
theorem aA7 {o v i d:Int} (hd:0≤d∧d≤10) (all:List EX) (hn:all.length≤4) (ih:∀ e,e∈all→∀ d c,0≤d→d≤11→0≤c→c≤80→SmR (SS.CC 201 [A1 (ev e),.int .i64 d,.ptr 0 0] [pK (c,())])) :
 ∀ (l:List EX) (k:Nat) (c:Int),all.drop k=l→0≤c→c≤80→SmR (PG d (o,v,i,GU all,()) c (k:Int))
 | [],k,c,ha,h0,h1=>by
  have h2:all.length≤k:=List.drop_eq_nil_iff.1 ha
  rw[QY]
  try dsimp only
  rw[dF (by rw[lZ]; omega),aA]
  exact ⟨_,c,rfl,h0,h1⟩
 | a::l,k,c,ha,h0,h1=>by
  obtain ⟨k1,k2,k3⟩:=drop_cons ha
  rw[QY]
  try dsimp only
  rw[bI (by rw[lZ]; omega),aB,lg1 k1,k2,wrap64 (n:=d+1) (by omega) (by omega)]
  obtain ⟨b,c',r1,r2,r3⟩:=ih a (by rw[← k2]; exact List.getElem_mem k1) (d+1) c (by omega) (by omega) h0 h1
  rw[aIZ r1]
  cases b with
  | false=>exact ⟨_,c',rfl,r2,r3⟩
  | true =>
   rw[Bool.not_true,aA,wrap64 (by omega) (by omega),show ((k:Int)+1)=((k+1:Nat):Int) by omega]
   exact aA7 hd all hn ih l (k+1) c' k3 r2 r3
theorem smc {x:EX} (hx:x.Len):∀ d c,0≤d→d≤11→0≤c→c≤80→SmR (SS.CC 201 [A1 (ev x),.int .i64 d,.ptr 0 0] [pK (c,())]):=by
 induction hx with
 | @mk o v i l hl hv ho hi _ ih =>
  intro d c h0 h1 h2 h3
  rw[aOK,ev_n]
  try dsimp only
  by_cases hc:c=0
  ·rw[show (c==0)=true by simp[hc],aB]; exact ⟨_,c,rfl,h2,h3⟩
  rw[show (c==0)=false by simpa using hc,aA]
  by_cases hd:10<d
  ·rw[bI hd,aB]; exact ⟨_,c,rfl,h2,h3⟩
  rw[dF hd,aA,lZ]
  by_cases hl4:(4:Int)<(l.length:Int)
  ·rw[bI hl4,aB]; exact ⟨_,c,rfl,h2,h3⟩
  rw[dF hl4,aA,wrap64 (by omega) (by omega)]
  exact aA7 ⟨h0,by omega⟩ l (by omega) ih l 0 (c-1) rfl (by omega) (by omega)
theorem aV3 {x:EX} (hx:x.Len):∃ b,SS.CC 24 [A1 (ev x)] []=some (.bool b,[]):=by
 obtain ⟨b,c',h,_,_⟩:=smc hx 1 80 (by decide) (by decide) (by decide) (by decide)
 have h2:SS.CC 107 [A1 (ev x)] []=some (.bool b,[]):=by rw[aM0,aIZ h]
 exact ⟨b,by rw[aUS,aW h2]⟩
theorem aR1 (v:Int):kW v ≠ []:=by unfold kW; split<;>simp
theorem aTB {ns:List (List UInt8)} {x:EX} {B:List Tok} (h:PB ns x B):B ≠ []:=by
 cases h with
 | tt=>simp
 | ff=>simp
 | num _ _=>exact aR1 _
 | var _=>simp
 | negc _ _ _=>simp
 | neg _ _=>simp
 | nott _=>simp
 | cmp _ _ _ _ _=>simp
 | bin _ _ _=>simp
 | ite _ _ _=>simp
theorem wp0 (x:EX) (B:List Tok):wp x 0 B=B:=by
 have:=aGD x
 unfold wp; rw[if_neg (by omega)]
theorem aU' {ns:List (List UInt8)} (hn:ns.length≤4) (hs:∀ s,s∈ns→s.length≤60) (hb:ns.any qL=true) (x:EX):SS.CC 28 [.sl false 1 (NS ns),A1 (ev x)] []=some (.tuple [.str ⟨#[]⟩,.int .i64 7],[]):=by
 rw[a5X,aW (aUJ ns (by omega) fun s h=>by have:=hs s h; omega),hb,aB]
theorem aWV {ns:List (List UInt8)} (hn:ns.length≤4) (hs:∀ s,s∈ns→s.length≤60) (hb:ns.any qL=false) {x:EX} {k e:Int} (hc:SS.CC 27 [A1 (ev x),.int .i64 ((NS ns).length:Int)] []=some (.tuple [.int .i64 k,.int .i64 e],[])) (he:e≠0):SS.CC 28 [.sl false 1 (NS ns),A1 (ev x)] []=some (.tuple [.str ⟨#[]⟩,.int .i64 e],[]):=by
 rw[a5X,aW (aUJ ns (by omega) fun s h=>by have:=hs s h; omega),hb,aA,aFS hc]
 try dsimp only
 rw[OH he,aB]
theorem b2F {ns:List (List UInt8)} (hn:ns.length≤4) (hs:∀ s,s∈ns→s.length≤60) (hb:ns.any qL=false) (hnm:∀ s,s∈ns→nameB s=true) {x:EX} (hx:x.Len) {B:List Tok} (hB:PB ns x B) (hl:B.length≤600) {k:Int} (hc:SS.CC 27 [A1 (ev x),.int .i64 ((NS ns).length:Int)] []=some (.tuple [.int .i64 k,.int .i64 0],[])):SS.CC 28 [.sl false 1 (NS ns),A1 (ev x)] []=some (.tuple [.str (bs (joinL B)),.int .i64 0],[]):=by
 obtain ⟨w1,w2,w3⟩:=b09 ns hB hx
 have hw:=zW hx w2 w3 w1 0 [] (by rw[wp0]; show 0+B.length+1≤1000000; omega)
 rw[wp0,List.nil_append] at hw
 rw[a5X,aW (aUJ ns (by omega) fun s h=>by have:=hs s h; omega),hb,aA,aFS hc]
 try dsimp only
 rw[OI rfl,aA,dA (show SS.CC 113 [.ptr 0 0,.sl false 1 (NS ns),A1 (ev x),.int .i64 0] [bG ([],())]=_ from hw)]
 try dsimp only
 rw[aHI (a'1 (aTB hB) (by omega) (o6 hnm hB) (aTQ hnm hB))]
theorem b5Y {ns:List (List UInt8)} (hn:ns.length≤4) (hs:∀ s,s∈ns→s.length≤60) {x:EX} (hx:x.Len) (x6:Bool) (h6:x6=true→ns.Nodup) :
 aC ((if ns.any qL then (7:Int) else 0)==0) (G6 27 [A1 (ev x),.int .i64 ((NS ns).length:Int)] fun u9=>BK (NS ns) (ev x) u9.2.1.1 x6) (BK (NS ns) (ev x) (if ns.any qL then (7:Int) else 0) x6)=CJ (.bool true):=by
 have bad:∀ {e:Int},e≠0→SS.CC 28 [.sl false 1 (NS ns),A1 (ev x)] []=some (.tuple [.str ⟨#[]⟩,.int .i64 e],[])→BK (NS ns) (ev x) e x6=CJ (.bool true):=fun {e} he h=>by
  rw[X7,aHI h]
  try dsimp only
  rw[OH he,aB,beq_self_eq_true,aB,beq_self_eq_true]
 cases hb:ns.any qL with
 | true =>
  show BK (NS ns) (ev x) 7 x6=_
  exact bad (by decide) (aU' hn hs hb x)
 | false =>
  have hlen:((NS ns).length:Int)=(ns.length:Int):=by rw[CZ]
  obtain ⟨k,e,hc,hok⟩:=b6R hx (n:=((NS ns).length:Int)) (by omega) (by omega)
  show aC true (G6 27 [A1 (ev x),.int .i64 ((NS ns).length:Int)] fun u9=>BK (NS ns) (ev x) u9.2.1.1 x6) _=_
  rw[aB,aFS hc]
  try dsimp only
  by_cases he:e=0
  ·subst he
   obtain ⟨hf,hd,hz⟩:=hok rfl
   rw[hlen] at hf
   obtain ⟨B,hB,hl⟩:=b0L ns hf
   have hnot:∀ s,s∈ns→qL s=false:=fun s hs=>by
    cases hq:qL s with
    | false=>rfl
    | true=>rw[List.any_eq_true.2 ⟨s,hs,hq⟩] at hb; cases hb
   have hnm:∀ s,s∈ns→nameB s=true:=fun s hs=>by
    have:=hnot s hs
    unfold qL at this
    simp only[Bool.or_eq_false_iff,Bool.not_eq_false'] at this
    exact this.1
   have hT:∀ s,s∈ns→s≠iJ:=fun s hs=>by
    have:=hnot s hs
    unfold qL at this
    simp only[Bool.or_eq_false_iff,beq_eq_false_iff_ne] at this
    exact this.2.1
   have hF:∀ s,s∈ns→s≠gK:=fun s hs=>by
    have:=hnot s hs
    unfold qL at this
    simp only[Bool.or_eq_false_iff,beq_eq_false_iff_ne] at this
    exact this.2.2
   have hp:=b2F hn hs hb hnm hx hB (by omega) hc
   obtain ⟨m1,m2,m3⟩:=a_Z ns hB hx
   have hm:=BN hx m2 m3 m1 0 (by decide) (by omega)
   rw[wp0] at hm
   have hj:=LQ B (aTQ hnm hB)
   have hjn:SS.CC 15 [.sl false 1 (ZE B),.str ⟨#[32]⟩] []=some (.str (bs (joinL B)),[]):=sjc B (by omega) (by omega)
   rw[X7,aHI hp]
   try dsimp only
   rw[OI rfl,aA,aA,lS hm,wZ hjn,beq_self_eq_true,Bool.not_true,aA]
   cases x6 with
   | false =>
    obtain ⟨y,a,b,e',f1,_,_⟩:=exprs (VA ns) (by rw[List.length_map]; omega) (joinL B)
    rw[aB4 f1]
    rfl
   | true =>
    obtain ⟨T',ee,s1,s2,s3⟩:=QD (aTB hB) (o6 hnm hB) (by omega)
    have hTo:fP (T' ++ [ee]):=a2S s1
    have hbd:=a'F hnm hT hF (h6 rfl) (by omega) hB 0 T' (by decide) (by omega) s2
    have hkind:ee.kind≠3:=by omega
    have he4:fP [ee] := .inl ⟨s3,rfl⟩
    have hX:=aN6 (C9 s2 (o6 hnm hB)) hbd [ee] hTo (fun lv hlv=>aPM (A:=mk0 [ee]) hkind lv (by omega)) (b06 (A:=mk0 [ee]) s3 _)
    have hp21:=aOZ (l:=VA ns) (by rw[List.length_map]; omega) (s:=joinL B) (y:=x) (B:=mk0 [ee]) (jZ he4) (by rw[aPX s1]; exact hX)
    have hfin:(mk0 [ee]).fin=mk0 [ee]:=by unfold RA.fin; rw[if_pos (show (mk0 [ee]).pk.kind=4 from s3)]
    rw[hfin] at hp21
    have hp22:SS.CC 21 [.sl false 1 (NS ns),.str (bs (joinL B))] []=exA x 0 0 0:=hp21
    rw[aB4 hp22]
    try dsimp only
    rw[Bool.not_true,aA,beq_self_eq_true,aB,aW (nD hx x),nV]
  ·exact bad he (aWV hn hs hb hc he)
theorem aH9 {s:List UInt8}:∀ (l:List (List UInt8)) (k:Nat),(0≤oC (bs s) (VA l) k↔s∈l)
 | [],k=>by
  constructor
  ·intro h
   have:(0:Int) ≤ -1:=h
   omega
  ·intro h; cases h
 | a::l,k=>by
  show 0≤(if bs s=bs a then (k:Int) else oC (bs s) (VA l) (k+1))↔_
  by_cases h:bs s=bs a
  ·rw[if_pos h]
   exact ⟨fun _=>by rw[aIY h]; simp,fun _=>by omega⟩
  ·rw[if_neg h,aH9 l (k+1),List.mem_cons]
   exact ⟨fun hm => .inr hm,fun hm=>hm.resolve_left fun e=>h (by rw[e])⟩
theorem aHK {ns:List (List UInt8)} (hn:ns.length≤4) {x:EX} (hx:x.Len):∀ (l:List (List UInt8)) (k:Nat) (x6:Bool),ns.drop k=l→(∀ s,s∈ns.take k→s.length≤60)→(x6=true→(ns.take k).Nodup) →
 oD (NS ns) (ev x) (if (ns.take k).any qL then 7 else 0) x6 (k:Int)=CJ (.bool true)
 | [],k,x6,h,hs,h6=>by
  have h2:ns.length≤k:=List.drop_eq_nil_iff.1 h
  rw[List.take_of_length_le h2] at hs h6 ⊢
  rw[a3F,dF (by rw[CZ]; omega),aA]
  exact b5Y hn hs hx x6 h6
 | s::l,k,x6,h,hs,h6=>by
  obtain ⟨h1,h2,h3⟩:=drop_cons h
  rw[a3F,bI (by rw[CZ]; omega),aB,dM (by omega) (PI h1),uV,h2,dQ]
  by_cases hb:(60:Int)<(s.length:Int)
  ·rw[bI hb,aB]
  rw[dF hb,aA]
  have htk:ns.take (k+1)=ns.take k ++ [s]:=by rw[List.take_succ_eq_append_getElem h1,h2]
  have hs':∀ t,t∈ns.take (k+1)→t.length≤60:=fun t ht=>by
   rw[htk] at ht
   rcases List.mem_append.1 ht with ht | ht
   ·exact hs t ht
   ·simp only[List.mem_singleton] at ht; rw[ht]; omega
  have hany:(ns.take (k+1)).any qL=((ns.take k).any qL||qL s):=by rw[htk,List.any_append]; simp
  have hw:IntKind.i64.wrap ((k:Int)+1)=((k+1:Nat):Int):=wrs (by omega)
  have step:∀ x6':Bool,(x6'=true→(ns.take (k+1)).Nodup) →
   aC ((if (ns.take k).any qL then (7:Int) else 0)==0) (G3 26 [.str (bs s)] fun b5=>aC (!b5) (oD (NS ns) (ev x) 7 x6' (IntKind.i64.wrap ((k:Int)+1))) (aC ((bs s).toList==(⟨#[116,114,117,101]⟩:ByteArray).toList) (oD (NS ns) (ev x) 7 x6' (IntKind.i64.wrap ((k:Int)+1))) (aC ((bs s).toList==(⟨#[102,97,108,115,101]⟩:ByteArray).toList) (oD (NS ns) (ev x) 7 x6' (IntKind.i64.wrap ((k:Int)+1))) (oD (NS ns) (ev x) (if (ns.take k).any qL then (7:Int) else 0) x6' (IntKind.i64.wrap ((k:Int)+1)))))) (oD (NS ns) (ev x) (if (ns.take k).any qL then (7:Int) else 0) x6' (IntKind.i64.wrap ((k:Int)+1)))=CJ (.bool true):=fun x6' hx6=>by
   have ih:=aHK hn hx l (k+1) x6' h3 hs' hx6
   rw[hany] at ih
   rw[hw]
   cases hq:(ns.take k).any qL with
   | true =>
    rw[hq,Bool.true_or] at ih
    exact ih
   | false =>
    rw[hq,Bool.false_or] at ih
    show aC true (G3 26 [.str (bs s)] _) _=_
    rw[aB,aW (nmc s (by omega)),lG,tlT,tlF]
    unfold qL at ih
    cases hnb:nameB s with
    | false=>rw[hnb] at ih; exact ih
    | true =>
     rw[hnb] at ih
     cases ht:s==iJ with
     | true=>rw[ht] at ih; exact ih
     | false =>
      cases hf:s==gK with
      | true=>rw[ht,hf] at ih; exact ih
      | false=>rw[ht,hf] at ih; exact ih
  cases x6 with
  | false =>
   rw[aA]
   exact step false fun h=>by cases h
  | true =>
   have htake:(NS ns).take k=nmP (VA (ns.take k)):=by unfold NS nmP VA; rw[← List.map_take,← List.map_take]
   rw[aB,aT (by rw[bI (by omega),bI (by rw[CZ]; omega)]; rfl),Int.toNat_natCast,htake,aW (hasc (VA (ns.take k)) (by rw[List.length_map,List.length_take]; omega) (bs s))]
   refine step _ fun hq => ?_
   have hnot:s∉ns.take k:=fun hm=>by
    rw[bI ((aH9 (s:=s) (ns.take k) 0).2 hm)] at hq
    cases hq
   rw[htk,List.nodup_append]
   exact ⟨h6 rfl,by simp,fun a ha b hb=>by simp only[List.mem_singleton] at hb; subst hb; exact fun e=>hnot (e▸ha)⟩
theorem c5 {x:EX} (hx:x.Len) (l:List ByteArray) (hl:l.length≤70368744177664):SS.CC 5 [A1 (ev x),.sl false 1 (nmP l)] []=CJ (.bool true):=by
 obtain ⟨b,hb⟩:=aV3 hx
 rw[a_T,aW known,Bool.not_true,aA,aW hb]
 cases b with
 | false=>rw[Bool.not_false,aB,aW known]
 | true =>
  rw[Bool.not_true,aA]
  by_cases h4:(4:Int)<((nmP l).length:Int)
  ·rw[bI h4,aB,aW known]
  ·rw[dF h4,aA]
   have e:VA (l.map (·.data.toList))=l:=by
    unfold VA
    rw[List.map_map]
    exact (List.map_congr_left fun s _=>CE s).trans (List.map_id l)
   have h:=aHK (ns:=l.map (·.data.toList)) (by unfold nmP at h4; rw[List.length_map] at h4 ⊢; omega) hx _ 0 true rfl (by simp) (fun _=>by simp)
   unfold NS at h
   rw[e] at h
   exact h
end Go.Proofs.YtcdceiloganlnaaGreatDoor.W
namespace Go.Proofs.YtcdceiloganlnaaGreatDoor
open Go.ChangeShapes Go.WideShapes Go.ChangeAt Go.RowKit
set_option maxRecDepth 100000 in
theorem VU (os:Os) (started:os.Started) (H:Type) (enc:TypeId×Value→H) (F:Stop.Interp) :
 ReturnsInHanded {} Tryz.checked os 5 .any ((OpenSpec.ofChange Rows.parserWritesSpec).preRow enc Tryz.prog Tryz.f5 Rows.parserWritesRow.domain false Rows.parserWritesRow.laid) (((OpenSpec.ofChange Rows.parserWritesSpec).at F).post enc Tryz.prog Tryz.f5 false true false false):=by
 obtain ⟨x,hx⟩:=Option.isSome_iff_exists.1 (show (DataW.whole enc Tryz.prog ((laidWorld6 os).forCall (fun _ _=>0) ⟨#[],#[.agg #[.int .i64 0,.int .i64 0,.int .i64 0,.slice none 0 0],.slice none 0 0],[]⟩).memory Tryz.f5.params.toList Rows.parserWritesSpec.vars false (#[.agg #[.int .i64 0,.int .i64 0,.int .i64 0,.slice none 0 0],.slice none 0 0]:Array Value).toList 8).isSome=true by kernel_rfl)
 refine returnsInHanded_of_row (C:=Tryz.checked) (s:=OpenSpec.ofChange Rows.parserWritesSpec) b2W started (by kernel_rfl) Tryz.func5
  (witness_row_at (enc:=enc) (C:=Tryz.checked) false (laidWorld6 os) #[.agg #[.int .i64 0,.int .i64 0,.int .i64 0,.slice none 0 0],.slice none 0 0] rfl (by kernel_rfl) (by kernel_rfl) (by kernel_rfl)
   (OpenSpec.preRow_of_cond 8 hx (by kernel_rfl) (fun k hk=>by cases hk) (by kernel_rfl) (laidMet_of_run' 8 (by kernel_rfl) (by kernel_rfl)))) ?_
 intro W base args ds gs before hval0 hW hcnd _ hsz0 hlaid hshp _
 have hval:∀ (j:Nat) t v,Tryz.f5.params[j]? = some t→args[j]? = some v→Value.okWide Tryz.prog W .any base t v:=hval0
 have hsz:(DataW.weightsEach Tryz.prog (Tryz.f5.params.toList ++ Rows.parserWritesSpec.plain.varTypes Tryz.prog) (ds ++ gs)).all (· ≤ reachBytes)=true:=hsz0
 have hW':=hW
 obtain ⟨p,q,hA0,hV,rfl,hfz,hnd⟩:=hW
 have hA:DataW.TrodAll enc Tryz.prog W 0 (fun _=>true) true Tryz.f5.params.toList args.toList ds p:=hA0
 rw[Tryz.params5] at hA hval hsz
 have hsz1:∀ (j:Nat) t d,(Tryz.f5.params.toList)[j]? = some t→ds[j]? = some d→∀ n,n∈d.weights Tryz.prog t→n≤reachBytes:=fun j t d ht hd n hn=>of_decide_eq_true (List.all_eq_true.1 hsz0 _ (DataW.weights_mem_each (j:=j) (t:=t) (d:=d) (by rw[List.getElem?_append_left (List.getElem?_eq_some_iff.1 ht).1]; exact ht) (by rw[List.getElem?_append_left (List.getElem?_eq_some_iff.1 hd).1]; exact hd) n hn))
 rw[Tryz.params5] at hsz1
 clear hsz hsz0
 have gw:GW W:=b0N hlaid.tail.tail hshp
 obtain ⟨v0,vs0,d0,ds0,p0,q0,hargs,rfl,rfl,h0,r0⟩:=trodAll_cons hA
 obtain ⟨v1,vs1,d1,ds1,p1,q1,rfl,rfl,rfl,h1,r1⟩:=trodAll_cons r0
 obtain ⟨rfl,rfl,rfl⟩:=trodAll_nil r1
 obtain rfl:args = #[v0,v1]:=by cases args; simp_all
 obtain ⟨rfl,rfl⟩:=trodVars_none hV
 have k0:=h0
 have lt0:∀ x∈p0,x.block<W.heap.size:=by obtain ⟨m,hm⟩:=k0; exact DataW.trod_lt m _ _ _ hm
 obtain ⟨f0,q0,s0,rep0⟩:=open_arg (hW:=gw) QT (by decide) (hval 0 42 v0 rfl rfl) h0 (hsz1 0 42 d0 rfl rfl)
 obtain ⟨e0,he0,x0⟩:=a_0 s0
 rw[he0] at rep0
 have k1:=h1
 have lt1:∀ x∈p1,x.block<W.heap.size:=by obtain ⟨m,hm⟩:=k1; exact DataW.trod_lt m _ _ _ hm
 obtain ⟨f1,q1,s1,rep1⟩:=open_arg (hW:=gw) QT (by decide) (hval 1 34 v1 rfl rfl) h1 (hsz1 1 34 d1 rfl rfl)
 obtain ⟨e1,he1,x1⟩:=aG4 s1
 rw[he1] at rep1
 clear hA0 hval0
 refine (Ev.top (a_U (Go.Proofs.YtcdceiloganlnaaGreatDoor.W.c5 x0 e1 x1.1)) (aT2 rep0 (aT2 rep1 aZD))).mono fun e W' ⟨vr,M',he,hrep,_,bel⟩ => ?_
 subst he
 obtain rfl:=rep_bool.1 hrep
 exact ⟨_,rfl,_,_,_,[],_,[],hW',trodAll_mk1 (shut_bool Tryz.underlying4 _),(trodAll_cons_mk (Below.trod WQ (by kernel_rfl) (of_decide_eq_true (by kernel_rfl)) k0 bel lt0) (trodAll_cons_mk (Below.trod WQ (by kernel_rfl) (of_decide_eq_true (by kernel_rfl)) k1 bel lt1) trodAll_mk0)),rfl,bel.frame _,fun h=>by cases h⟩
theorem aCA:(Rows.parserWritesRow.inPlace==Tryz.prog.inPlace 5)=true:=by kernel_rfl
theorem aC4:(Rows.parserWritesRow.unfollowed==Tryz.prog.unfollowed 5)=true:=by kernel_rfl
theorem aCR:(Rows.parserWritesRow.recurses==Tryz.prog.recurses 5)=true:=by kernel_rfl
theorem aCS:(Rows.parserWritesRow.named==Tryz.prog.varsNamed 5)=true:=by kernel_rfl
theorem aDU:joinedFacts Tryz.prog 5 Tryz.f5 (OpenSpec.ofChange Rows.parserWritesSpec).bare Rows.parserWritesRow=true :=
 YO (by kernel_rfl) aCA aC4 aCR aCS (by kernel_rfl)
theorem aDM:Tryz.f5.isWrapper Tryz.prog Rows.parserWritesRow.wrapper Rows.parserWritesRow.mainSum:=by
 unfold Func.isWrapper
 first | (rw[if_pos (by decide +kernel)]; kernel_rfl) | (rw[if_neg (by decide +kernel)]; exact ⟨rfl,rfl⟩)
theorem a6N:Rows.ParserWritesSaid :=
 OpenClaim.holds_of_cond 5 Tryz.f5 rfl rfl rfl rfl rfl rfl rfl ⟨rfl,rfl,rfl,rfl,rfl⟩ rfl rfl rfl rfl rfl (by kernel_rfl) Tryz.func5 aDU
  (of_decide_eq_true (by kernel_rfl)) aDM
  (fun os started H enc _ F=>by rw[OpenClaim.pre_eq_preRow]; exact VU os started H enc F)
theorem YU (f:FuncId) (fn:Func) (hf:Tryz.pinned.checked.prog.funcNamed "overseer/overseerlaw17.ParserWrites" = some f) (hfn:Tryz.pinned.checked.prog.funcs[f]? = some fn) :
 false=Tryz.pinned.checked.prog.looks []∧∀ (j:Nat) t,fn.params[j]? = some t→Tryz.pinned.checked.prog.wantsStandIn t=false:=by
 obtain rfl:f=5:=Option.some.inj ((show Tryz.prog.funcNamed "overseer/overseerlaw17.ParserWrites" = some 5 by kernel_rfl).symm.trans hf) |>.symm
 obtain rfl:fn=Tryz.f5:=(Option.some.inj (Tryz.func5.symm.trans hfn)).symm
 refine ⟨by kernel_rfl,fun j t ht => ?_⟩
 rw[Tryz.params5] at ht
 have hm:=Array.mem_of_getElem? ht
 have hall:∀ t,t∈([42,34]:List TypeId)→Tryz.prog.wantsStandIn t=false:=fun t h=>by simpa using List.all_eq_true.1 (show ([42,34]:List TypeId).all (fun t => !Tryz.prog.wantsStandIn t)=true by kernel_rfl) t h
 exact hall t (by simpa using hm)
theorem writes_holds:Rows.ParserWritesCardSaid :=
 Claim7.holds_tied_plain_at .later [] _ _ _ _ a6N (fun _ h=>by cases h) (by kernel_rfl) (fun _ h=>by cases h) parserWrites_row_tie rfl ⟨rfl,rfl⟩ (by kernel_rfl) rfl YU (by kernel_rfl)
end Go.Proofs.YtcdceiloganlnaaGreatDoor

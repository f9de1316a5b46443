/- A part of the proof: P18b. -/
import Derived.Test.YtcdceiloganlnaaGreatDoorPw7
set_option linter.unusedVariables false
set_option linter.unusedSimpArgs false
set_option linter.unnecessarySimpa false
set_option linter.unusedSectionVars false
namespace Go.Proofs.YtcdceiloganlnaaGreatDoor.W
open Go.RowKit
set_option maxRecDepth 1000000
structure Wf (v:List PV) (d:Int) (T:List Tok) (x:EX) (need:Int):Prop where
 e:1≤need→need≤6→Ef v d T x need
 l:need=1∨need=2∨need=4∨need=5→Lf v d T x need
 x0:need=0→Xf v d T x
 u:need=6→Uf v d T x
theorem bdU {v:List PV} {d:Int} {T:List Tok} {x:EX} (h:6≤qH x) (u:Uf v d T x):Bd v d T x:=⟨fun _=>u,fun c=>by omega,fun c=>by omega,fun c=>by omega⟩
theorem J3 {v:List PV} {x:EX} {B:List Tok} (htv:∀ t,t∈B→Tv t) (hb:∀ (d:Int) (T:List Tok),0≤d→d+2*(PH x:Int)≤32→T.map bV=B.map bV→Bd v d T x) {need d:Int} (h0:0≤d) (hd:d+2*(PH x:Int)+1≤32) (hdp:1≤PH x)
 {T:List Tok} (hT:T.map bV=(wp x need B).map bV):Wf v d T x need:=by
 have hk:Nk T:=C9 hT (qF htv)
 unfold wp at hT
 by_cases hn:qH x<need
 ·rw[if_pos hn] at hT
  obtain ⟨o,T1,rfl,h1,h2⟩:=fD hT
  obtain ⟨T2,T3,rfl,h3,h4⟩:=SA h2
  obtain ⟨c,T4,rfl,h5,h6⟩:=fD h4
  obtain rfl:=sQ h6
  have hk2:Nk T2:=C9 h3 htv
  have u:Uf v d (o::(T2 ++ [c])) x:=aBG h0 (by omega) (vP h1) (vP h5) hk2 (aN6 hk2 (hb (d+1) T2 (by omega) (by omega) h3))
  have e6:=aIB u
  exact ⟨fun k1 k2=>X3 hk k1 k2 (Int.le_refl _) e6,fun k=>a8B (by omega) (by omega) (X3 hk (by omega) (by omega) (Int.le_refl _) e6),fun _=>aGU hk (X3 hk (by decide) (by decide) (Int.le_refl _) e6),fun _=>u⟩
 ·rw[if_neg hn] at hT
  have b:=hb d T h0 (by omega) hT
  exact ⟨fun k1 k2=>aVA hk b k1 k2 (by omega),fun k=>b73 hk b k (by omega),fun _=>aN6 hk b,fun k=>b.1 (by omega)⟩
theorem tY (x:EX):1≤PH x:=by
 obtain ⟨o,v,i,l⟩:=x
 rw[PH]; omega
theorem a'L (v:Int):qH (nE v)=if v<0 then 6 else 7:=by
 unfold qH nE
 rw[rJ (by decide),vG (by decide)]
 rfl
theorem a'I (i:Int):qH (vE i)=7:=by
 unfold qH vE
 rw[rJ (by decide),vG (by decide)]
 rfl
theorem aF9 {o:Int} (h:o=5∨o=10) (a:EX):qH (GL o a)=6:=by
 unfold qH GL
 rw[rJ (by omega),vG (by omega)]
 rcases h with rfl | rfl<;>rfl
theorem aJV (c a b:EX):qH (.node 13 0 0 [c,a,b])=0:=by
 unfold qH
 rw[rJ (by decide),vG (by decide)]
 rfl
theorem b3C:qH tE=7:=by unfold qH; rw[if_pos (nV _)]
theorem aZO:qH fE=7:=by unfold qH; rw[show o8 fE tE=false from rJ (by decide),if_neg (by decide),if_pos (nV _)]
theorem dp1 (o:Int) (a:EX):PH (GL o a)=PH a+1:=by simp[PH,dpL]
theorem dp2 (o:Int) (a b:EX):PH (zC o a b)=max (PH a) (PH b)+1:=by simp[PH,dpL]
theorem dp3 (c a b:EX):PH (.node 13 0 0 [c,a,b])=max (PH c) (max (PH a) (PH b))+1:=by simp[PH,dpL]
theorem aIY {a b:List UInt8} (h:bs a=bs b):a=b:=by
 have:=congrArg ByteArray.toList h
 rwa [lG,lG] at this
theorem aHP:∀ (ns:List (List UInt8)) (i k:Nat) (s:List UInt8),ns.Nodup→ns[i]? = some s→oC (bs s) (VA ns) k=((k+i:Nat):Int)
 | [],i,k,s,_,h=>by simp at h
 | a::ns,0,k,s,_,h=>by
  have:a=s:=by simpa using h
  subst this
  show (if bs a=bs a then (k:Int) else _)=_
  rw[if_pos rfl]; simp
 | a::ns,i+1,k,s,hd,h=>by
  have h2:ns[i]? = some s:=by simpa using h
  have hne:bs s≠bs a:=fun e=>by
   have:=aIY e
   subst this
   exact (List.nodup_cons.1 hd).1 (List.mem_of_getElem? h2)
  show (if bs s=bs a then (k:Int) else oC (bs s) (VA ns) (k+1))=_
  rw[if_neg hne,aHP ns i (k+1) s (List.nodup_cons.1 hd).2 h2]
  omega
theorem aLG {ns:List (List UInt8)} {o v i:Int} {l:List EX} {A T:List Tok} (hc:o≠0∨v<0) (h:PB ns (.node o v i l) A) (hT:T.map bV=(wp (.node o v i l) 6 A).map bV):∃ t T1,T=t::T1∧t.kind≠2:=by
 have go:∀ {b:Tok} {B:List Tok},b.kind≠2→T.map bV=(b::B).map bV→∃ t T1,T=t::T1∧t.kind≠2:=fun hb h=>by
  obtain ⟨t,T1,h1,h2,_⟩:=fD h
  exact ⟨t,T1,h1,by rw[show t.kind=_ from congrArg (·.1) h2]; exact hb⟩
 unfold wp at hT
 by_cases hn:qH (.node o v i l)<6
 ·rw[if_pos hn] at hT
  exact go (b:=tS [40]) (show (3:Int)≠2 by decide) hT
 ·rw[if_neg hn] at hT
  generalize hx:EX.node o v i l=x at h hn
  cases h with
  | tt=>exact go (b:=tW iJ) (show (1:Int)≠2 by decide) hT
  | ff=>exact go (b:=tW gK) (show (1:Int)≠2 by decide) hT
  | num h0 h1 =>
   rename_i w
   unfold nE at hx
   injection hx with e1 e2
   have hw:w<0:=by omega
   unfold kW at hT
   rw[if_pos hw] at hT
   exact go (b:=tS [45]) (show (3:Int)≠2 by decide) hT
  | @var i s hs=>exact go (b:=tW s) (show (1:Int)≠2 by decide) hT
  | negc h0 h1 _=>exact go (b:=tS [45]) (show (3:Int)≠2 by decide) hT
  | neg _ _=>exact go (b:=tS [45]) (show (3:Int)≠2 by decide) hT
  | nott _=>exact go (b:=tS [33]) (show (3:Int)≠2 by decide) hT
  | cmp ho ht hf _ _=>exact absurd (a07 ho ht hf) (by omega)
  | bin ho _ _=>rw[ZL ho] at hn; omega
  | ite _ _ _=>rw[aJV] at hn; omega
theorem aVE {ns:List (List UInt8)} {w d:Int} {T:List Tok} (h0 : -65536≤w) (h1:w≤65536) (hd0:0≤d) (hd:d<32) (hT:T.map bV=(kW w).map bV):Uf (NS ns) d T (nE w):=by
 unfold kW at hT
 by_cases hw:w<0
 ·rw[if_pos hw] at hT
  obtain ⟨o,T1,rfl,k1,k2⟩:=fD hT
  obtain ⟨t,T2,rfl,k3,k4⟩:=fD k2
  obtain rfl:=sQ k4
  have:=aXB (v:=NS ns) hd0 hd (vP k1) k3 (by omega)
  rwa [show -((-w).toNat:Int)=w by omega] at this
 ·rw[if_neg hw] at hT
  obtain ⟨t,T2,rfl,k3,k4⟩:=fD hT
  obtain rfl:=sQ k4
  have:=b0Q (v:=NS ns) (d:=d) k3
  rwa [show (w.toNat:Int)=w by omega] at this
theorem a'F {ns:List (List UInt8)} (hns:∀ s,s∈ns→nameB s=true) (hT:∀ s,s∈ns→s≠iJ) (hF:∀ s,s∈ns→s≠gK) (hnd:ns.Nodup) (hlen:ns.length≤1000) {x:EX} {B:List Tok} (h:PB ns x B) :
 ∀ (d:Int) (T:List Tok),0≤d→d+2*(PH x:Int)≤32→T.map bV=B.map bV→Bd (NS ns) d T x:=by
 induction h with
 | tt =>
  intro d T h0 h1 hc
  obtain ⟨t,T2,rfl,k1,k2⟩:=fD hc
  obtain rfl:=sQ k2
  exact bdU (by rw[b3C]; decide) (aU4 (congrArg (·.1) k1) (congrArg (·.2.1) k1))
 | ff =>
  intro d T h0 h1 hc
  obtain ⟨t,T2,rfl,k1,k2⟩:=fD hc
  obtain rfl:=sQ k2
  exact bdU (by rw[aZO]; decide) (aQV (congrArg (·.1) k1) (congrArg (·.2.1) k1))
 | @num w v0 v1 =>
  intro d T h0 h1 hc
  have:=tY (nE w)
  exact bdU (by rw[a'L]; split<;>decide) (aVE v0 v1 h0 (by omega) hc)
 | @var i s hs =>
  intro d T h0 h1 hc
  obtain ⟨t,T2,rfl,k1,k2⟩:=fD hc
  obtain rfl:=sQ k2
  have hm:=List.mem_of_getElem? hs
  have hk:t.kind=1:=congrArg (·.1) k1
  have htx:t.text=s:=congrArg (·.2.1) k1
  refine bdU (by rw[a'I]; decide) fun R hR => ?_
  have hR:fP (t::R):=hR
  have hi:oC (bs (mk0 (t::R)).pk.text) (VA ns) 0=(i:Int):=by
   show oC (bs t.text) (VA ns) 0=(i:Int)
   rw[htx,aHP ns i 0 s hnd hs]; simp
  have:=b2P (d:=d) (l:=VA ns) (by rw[List.length_map]; omega) (jZ hR) hk (by show t.text≠iJ; rw[htx]; exact hT s hm) (by show t.text≠gK; rw[htx]; exact hF s hm) (by rw[hi]; omega)
  rw[hi,wQ (by rw[hk]; decide)] at this
  exact this
 | @negc w v0 v1 hp ih =>
  intro d T h0 h1 hc
  rw[dp1] at h1
  have hd1:=tY (nE w)
  obtain ⟨o,T1,rfl,k1,k2⟩:=fD hc
  obtain ⟨p,T2,rfl,k3,k4⟩:=fD k2
  obtain ⟨T3,T4,rfl,k5,k6⟩:=SA k4
  obtain ⟨c,T5,rfl,k7,k8⟩:=fD k6
  obtain rfl:=sQ k8
  have hk3:Nk T3:=C9 k5 (aAE (by omega) v1)
  have hX:=aN6 hk3 (ih (d+1+1) T3 (by omega) (by omega) k5)
  exact bdU (by rw[aF9 (.inl rfl)]; decide) (aT9 h0 (by omega) (vP k1) (by rw[(vP k3).1]; decide) (aBG (by omega) (by omega) (vP k3) (vP k7) hk3 hX))
 | @neg o v i l A hc0 hp ih =>
  intro d T h0 h1 hc
  rw[dp1] at h1
  have hd1:=tY (.node o v i l)
  obtain ⟨m,T1,rfl,k1,k2⟩:=fD hc
  obtain ⟨t,T2,rfl,k3⟩:=aLG hc0 hp k2
  have hw:=J3 (o6 hns hp) ih (need:=6) (d:=d+1) (by omega) (by omega) hd1 k2
  exact bdU (by rw[aF9 (.inl rfl)]; decide) (aT9 h0 (by omega) (vP k1) k3 (hw.u rfl))
 | @nott a A hp ih =>
  intro d T h0 h1 hc
  rw[dp1] at h1
  have hd1:=tY a
  obtain ⟨m,T1,rfl,k1,k2⟩:=fD hc
  have hw:=J3 (o6 hns hp) ih (need:=6) (d:=d+1) (by omega) (by omega) hd1 k2
  exact bdU (by rw[aF9 (.inr rfl)]; decide) (aZY h0 (by omega) (vP k1) (hw.u rfl))
 | @cmp o a b A B ho ht hf ha hb iha ihb =>
  intro d T h0 h1 hc
  rw[dp2] at h1
  have hd1:=tY a
  have hd2:=tY b
  obtain ⟨T1,t,T2,rfl,k1,k2,k3⟩:=JY hc
  have w1:=J3 (o6 hns ha) iha (need:=4) (d:=d) h0 (by omega) hd1 k1
  have w2:=J3 (o6 hns hb) ihb (need:=4) (d:=d) h0 (by omega) hd2 k3
  have l3:=a07 ho ht hf
  exact ⟨fun c=>by omega,fun c=>by omega,fun _=>b0W ho k2 (C9 k1 (qF (o6 hns ha))) (C9 k3 (qF (o6 hns hb))) (w1.e (by decide) (by decide)) (w2.e (by decide) (by decide)),fun c=>by omega⟩
 | @bin o lv a b A B ho ha hb iha ihb =>
  intro d T h0 h1 hc
  rw[dp2] at h1
  have hd1:=tY a
  have hd2:=tY b
  obtain ⟨T1,t,T2,rfl,k1,k2,k3⟩:=JY hc
  have w1:=J3 (o6 hns ha) iha (need:=lv) (d:=d) h0 (by omega) hd1 k1
  have w2:=J3 (o6 hns hb) ihb (need:=lv+1) (d:=d) h0 (by omega) hd2 k3
  have ll:=ZL (a:=a) (b:=b) ho
  exact ⟨fun c=>by omega,fun _=>by rw[ll]; exact b0V ho k2 (C9 k1 (qF (o6 hns ha))) (C9 k3 (qF (o6 hns hb))) (w1.l (by omega)) (w2.e (by omega) (by omega)),fun c=>by omega,fun c=>by omega⟩
 | @ite c a b C A B hcc ha hb ihc iha ihb =>
  intro d T h0 h1 hc
  rw[dp3] at h1
  have hd0:=tY c
  have hd1:=tY a
  have hd2:=tY b
  obtain ⟨T1,q,T2,rfl,k1,k2,k3⟩:=JY hc
  obtain ⟨T3,k,T4,rfl,k4,k5,k6⟩:=JY k3
  have w0:=J3 (o6 hns hcc) ihc (need:=1) (d:=d) h0 (by omega) hd0 k1
  have w1:=J3 (o6 hns ha) iha (need:=0) (d:=d) h0 (by omega) hd1 k4
  have w2:=J3 (o6 hns hb) ihb (need:=0) (d:=d) h0 (by omega) hd2 k6
  have l0:=aJV c a b
  exact ⟨fun c=>by omega,fun c=>by omega,fun c=>by omega,fun _=>b2N k2 k5 (C9 k1 (qF (o6 hns hcc))) (C9 k4 (qF (o6 hns ha))) (C9 k6 (qF (o6 hns hb))) (w0.e (by decide) (by decide)) (w1.x0 rfl) (w2.x0 rfl)⟩
end Go.Proofs.YtcdceiloganlnaaGreatDoor.W

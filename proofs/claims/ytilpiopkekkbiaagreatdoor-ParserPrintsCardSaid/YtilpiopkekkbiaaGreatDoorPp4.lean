/- A part of the proof. -/
import Derived.Test.YtilpiopkekkbiaaGreatDoorPp3
import Derived.Shelf.Lay
import Derived.Shelf.Strings.Builder1
import Derived.Shelf.Strings.OnBuilder
import Derived.Shelf.Strconv.Itoa3
import Derived.Test.YtilpiopkekkbiaaGreatDoorChecked
import Derived.Shelf.LaysM
import Derived.Shelf.Strings.Search1
import Derived.Shelf.Strings.Shaped
import Derived.Shelf.Strings.Repeat
set_option linter.unusedVariables false
set_option linter.unusedSimpArgs false
set_option linter.unnecessarySimpa false
set_option linter.unusedSectionVars false
noncomputable section
open Go.IntKind (i64)
namespace Go.Proofs
open Go.Shelf
shelf_lay Lays.n171 Nm 171 at Tryz as Tryz.lays171
shelf_lay Lays.n156 Nm 156 at Tryz as Tryz.lays156
shelf_lay Lays.n169 Nm 169 at Tryz as Tryz.lays169
end Go.Proofs
namespace Go.Proofs.YtilpiopkekkbiaaGreatDoor
open Go.RowKit Go.Shelf
theorem YG:Builder.Extra Tryz.prog Tryz.lays156_ren where
 sizeBuilder:=by kernel_rfl
 liesBuilder:=by kernel_rfl
 t5:=Tryz.underlying5
 a5:=Tryz.isAgg5
 z5:=Tryz.sizeOf5
 v5:=Tryz.zeroValue5
 infoByte:=by kernel_rfl
 cellsByte:=by kernel_rfl
 sizeByte:=by kernel_rfl
 neB5:=by decide
theorem Ji:Builder.Extra Tryz.prog Tryz.lays169_ren where
 sizeBuilder:=by kernel_rfl
 liesBuilder:=by kernel_rfl
 t5:=Tryz.underlying5
 a5:=Tryz.isAgg5
 z5:=Tryz.sizeOf5
 v5:=Tryz.zeroValue5
 infoByte:=by kernel_rfl
 cellsByte:=by kernel_rfl
 sizeByte:=by kernel_rfl
 neB5:=by decide
theorem lays240:Lays.n240 Tryz.prog Tryz.lays156_ren := { Tryz.lays156 with }
theorem bJM (i:Nat) (hi:i<100) (w:World):Calls Tryz.prog 123 #[.int .i64 i] w fun e w'=>e = .returned (.string ⟨(Lib.decDigits i).toArray⟩)/\w'=w:=Any.strconv_Itoa_small Tryz.lays171 i hi w
theorem bJR (bk o c:Nat) (xs:List ByteArray) (sep:ByteArray) (w:World) (hcells:∀ (j:Nat) x,xs[j]? = some x->w.cell? ⟨bk,o+j,none⟩=some (.string x)) (hbk:bk<w.heap.size) (hN:xs.length<=140737488355328) (hcap:xs.length<=c)
 (hlen:(Lib.join (xs.map (·.data.toList)) sep.data.toList).length<=140737488355328) :
 Calls Tryz.prog 25 #[.slice (some ⟨bk,o,none⟩) xs.length c,.string sep] w fun e w'=>e = .returned (.string ⟨(Lib.join (xs.map (·.data.toList)) sep.data.toList).toArray⟩)/\Below w.heap.size w w' :=
 Any.strings_Join Tryz.lays156 YG bk o c xs sep w hcells hbk hN hcap hlen
theorem bJQ (a:Option Addr) (c:Nat) (sep:ByteArray) (w:World):Calls Tryz.prog 25 #[.slice a 0 c,.string sep] w fun e w'=>e = .returned (.string ⟨#[]⟩)/\w'=w :=Any.strings_Join_none Tryz.lays156 YG a c sep w
theorem aZN (b:Nat) (w:World) (h0:w.cell? ⟨b,0,none⟩=some (.pointer (some ⟨b,0,none⟩))):Calls Tryz.prog 207 #[.pointer (some ⟨b,0,none⟩)] w fun e w'=>e = .returned (.tuple #[])/\w'=w :=Any.Builder_copyCheck_used lays240 YG.toX72 b w h0
section
variable {P:Program} {ρ:Ren}
set_option maxHeartbeats 1000000 in
set_option maxRecDepth 100000 in
theorem aZM (L:Lays.n240 P ρ) (X:Builder.X72 P ρ) (T:TypeId) (b:Nat) (w:World) (h0:w.cell? ⟨b,0,none⟩=some (.pointer none)) (hsh:w.shape? b=some (T,2)) (hfz:w.frozen? ⟨b,0,none⟩=false)
 (hlies:liesAt P P.depth T (2 / P.cellsOf T) 0 (ρ.t 72) 1=true) :
 Calls P (ρ.f 240) #[.pointer (some ⟨b,0,none⟩)] w fun e w'=>e = .returned (.tuple #[])/\w'=w.setCell ⟨b,0,none⟩ (.pointer (some ⟨b,0,none⟩)):=by
 obtain ⟨j,hj,hjs⟩:=JQ.1 X.sizeBuilder;have mixed:=L.mixed;have t72:=L.t72; have a72:=L.a72; have z72:=L.z72; have v72:=L.v72; have u72:=fG L.t72;have t70:=L.t70; have a70:=L.a70; have z70:=L.z70; have v70:=L.v70; have u70:=fG L.t70;have t9:=L.t9; have a9:=L.a9; have z9:=L.z9; have v9:=L.v9; have u9:=fG L.t9;have t4:=L.t4; have a4:=L.a4; have z4:=L.z4; have v4:=L.v4; have u4:=fG L.t4;have t164:=L.t164; have a164:=L.a164; have z164:=L.z164; have v164:=L.v164; have u164:=fG L.t164;go_enter L.f240,Body.n240_ntmps ρ
 go_wp2
 rw[Lib.run_to_unsafe w ⟨b,0,none⟩ L.t70 L.t164 hj (by rw[hjs]; decide) hsh (Nat.zero_lt_succ 1)];simp only[Result.andThen];rw[a4I];go_wp2
 rw[run_callFunc_extern L.f276 (by kernel_rfl) (by kernel_rfl) (by kernel_rfl) (e:=Extern.AbiNoEscape.same) (by kernel_rfl)];rw[Lib.run_noEscape];simp only[Result.andThen];rw[a4I];go_wp2
 rw[Lib.run_from_unsafe w ⟨b,0,none⟩ L.t164 L.t70 hj hsh hlies];simp only[Result.andThen];rw[a4I];go_wp2
 go_end0
 exact ⟨rfl,rfl⟩
end
theorem aZL (b:Nat) (w:World) (h0:w.cell? ⟨b,0,none⟩=some (.pointer none)) (hsh:w.shape? b=some (188,2)) (hfz:w.frozen? ⟨b,0,none⟩=false) :
 Calls Tryz.prog 207 #[.pointer (some ⟨b,0,none⟩)] w fun e w'=>e = .returned (.tuple #[])/\w'=w.setCell ⟨b,0,none⟩ (.pointer (some ⟨b,0,none⟩)) :=
 aZM lays240 YG.toX72 188 b w h0 hsh hfz (by kernel_rfl)
end Go.Proofs.YtilpiopkekkbiaaGreatDoor
namespace Go.Proofs
open Go.Shelf Go.RowKit Go.Sort Go.Lib
shelf_lay LaysM.n171 Nm 171 at Tryz as Tryz.laysM171
namespace YtilpiopkekkbiaaGreatDoor
section
variable {P:Program} {ρ:Ren}
theorem below_grown (w:World) (k:Nat) (os:Array Obj):Below w.heap.size w (grow (w.drewN k) os) :=⟨rfl,rfl,rfl,by simp,fun i hi=>by show (w.heap ++ os)[i]? = _; rw[a4B hi]⟩
def Gu (P:Program) (ρ:Ren) (w:World):Prop:=∀ i,i<20->w.cell? ⟨ρ.g 17,i,none⟩=some (.int .u64 ((10 ^ i:Nat):Int))
theorem Gu.alloc {w:World} (h:Gu P ρ w) (o:Obj):Gu P ρ (w.alloc o):=fun i hi=>by have hb:=yx _ _ (h i hi);rw[aE9 _ _ _ (Nat.ne_of_lt hb)]; exact h i hi
set_option maxHeartbeats 2000000 in
set_option maxRecDepth 100000 in
theorem a'O (L:LaysM.n284 P ρ) (u:Nat) (h1:1<=u) (h2:u<18446744073709551616) (w:World) (htab:Gu P ρ w) :
 Calls P (ρ.f 284) #[.int .u64 u] w fun e w'=>e = .returned (.int .i64 (Lib.nDigits u))/\w'=w:=by
 have mixed:=L.mixed;have t53:=L.t53; have a53:=L.a53; have z53:=L.z53; have v53:=L.v53;have t3:=L.t3; have a3:=L.a3; have z3:=L.z3; have v3:=L.v3;have t212:=L.t212; have a212:=L.a212; have z212:=L.z212; have v212:=L.v212;have t0:=L.t0; have a0:=L.a0; have z0:=L.z0; have v0:=L.v0;have t4:=L.t4; have a4:=L.a4; have z4:=L.z4; have v4:=L.v4;have e129:∀ args w,(callFunc (ρ.f 129) args).run P w = .ok (.enter (ρ.f 129) args) w:=enters_of L.f129 (by kernel_rfl) rfl;have e317:∀ args w,(callFunc (ρ.f 317) args).run P w = .ok (.enter (ρ.f 317) args) w:=enters_of L.f317 (by kernel_rfl) rfl;have e318:∀ args w,(callFunc (ρ.f 318) args).run P w = .ok (.enter (ρ.f 318) args) w:=enters_of L.f318 (by kernel_rfl) rfl;obtain ⟨hnd,h19⟩:=Lib.numDigits_eq u h1 h2;have hL:Lib.bitLen u<=64:=Lib.bitLen_le u 64 (fK _) h2;have hcell:=htab (Lib.l10 (Lib.bitLen u)) (by omega);have hto:((u:Int)).toNat=u:=by omega
 generalize hq:Lib.l10 (Lib.bitLen u)=q at hnd h19 hcell;generalize hT:10 ^ q=T at hnd hcell;have h20:q<20:=by omega
 have Hnd:=Lib.hid hnd;clear hnd htab;go_enter L.f284,Body.n284_ntmps ρ
 go_wp2_with (first
  | (go_at_fn (ρ.f 129); refine (Any.bits_Len64 { L with } _ _ (by omega) (by omega)).mono ?_; rintro e w' ⟨rfl,rfl⟩)
  | (go_at_fn (ρ.f 317); refine (Any.internal_strconv_log10Pow2 { L with } _ (by first | exact hL | (rw[hto]; exact hL)) _).mono ?_; rintro e w' ⟨rfl,rfl⟩)
  | (go_at_fn (ρ.f 318); refine (Any.internal_strconv_bool2_int { L with } _ _).mono ?_; rintro e w' ⟨rfl,rfl⟩))
 all_goals go_ret
 all_goals (
  refine ⟨?_,rfl⟩;have hnd:=Hnd.out;congr 2
  split at hnd<;>simp_all<;>omega)
set_option maxHeartbeats 6400000 in
set_option maxRecDepth 100000 in
theorem b09 (L:LaysM.n246 P ρ) (u:Nat) (hu1:100<=u) (hu:u<9223372036854775808) (w:World) (htab:Gu P ρ w) :
 Calls P (ρ.f 246) #[.int .i64 u,.int .i64 10] w fun e w'=>e = .returned (.string ⟨(Lib.decDigits u).toArray⟩)/\Below w.heap.size w w':=by
 have mixed:=L.mixed;have t2:=L.t2; have a2:=L.a2; have z2:=L.z2; have v2:=L.v2;have t3:=L.t3; have a3:=L.a3; have z3:=L.z3; have v3:=L.v3;have t9:=L.t9; have a9:=L.a9; have z9:=L.z9; have v9:=L.v9;have t4:=L.t4; have a4:=L.a4; have z4:=L.z4; have v4:=L.v4;have t171:=L.t171; have a171:=L.a171; have z171:=L.z171; have v171:=L.v171;have t0:=L.t0; have a0:=L.a0; have z0:=L.z0; have v0:=L.v0;have t53:=L.t53; have a53:=L.a53; have z53:=L.z53; have v53:=L.v53;have t37:=L.t37; have a37:=L.a37; have z37:=L.z37; have v37:=L.v37;have t5:=L.t5; have a5:=L.a5; have z5:=L.z5; have v5:=L.v5;have t173:=L.t173; have a173:=L.a173; have z173:=L.z173; have v173:=L.v173;have e283:∀ args w,(callFunc (ρ.f 283) args).run P w = .ok (.enter (ρ.f 283) args) w:=enters_of L.f283 (by kernel_rfl) rfl;have e284:∀ args w,(callFunc (ρ.f 284) args).run P w = .ok (.enter (ρ.f 284) args) w:=enters_of L.f284 (by kernel_rfl) rfl;have e285:∀ args w,(callFunc (ρ.f 285) args).run P w = .ok (.enter (ρ.f 285) args) w:=enters_of L.f285 (by kernel_rfl) rfl;have hu64:u<18446744073709551616:=by omega
 have hnd20:Lib.nDigits u<=20:=by have:=Lib.numDigits_eq u (by omega) hu64; split at this<;>omega
 have hb3:Lib.nDigits u<=23:=by omega
 have hal:P.arrayLen (ρ.t 171)=24:=by simp[Program.arrayLen,L.t171]
 have hsl1:∀ W,(Instr.sliceAt (ρ.t 171) (.pointer (some ⟨w.heap.size,0,none⟩)) (some (.int .i64 1)) (some (.int .i64 (1+(Lib.nDigits u:Int)))) none).run P W = .ok (.slice (some ⟨w.heap.size,1,none⟩) (Lib.nDigits u) 23) W:=fun W=>by
  rw[run_sliceAt_array_lh W (ρ.t 171) ⟨w.heap.size,0,none⟩ (by simp[Program.arrayLen,Program.elem,L.t171]) .i64 .i64 1 (1+(Lib.nDigits u:Int)) (by omega) (by omega) (by rw[hal]; omega)];go_simp
  omega
 have hH0:=Lib.holds_zero w (ρ.t 171) (Lib.nDigits u) (by omega);have hfmt:=Any.internal_strconv_formatBase10 { L with } w.heap.size 1 23 u (Array.replicate (Lib.nDigits u) 0) (w.alloc (.cells Lib.zeros24 (ρ.t 171))) hH0 (by rw[aDW]; exact Lib.lt_pow_nDigits u) hu64 (by rw[aDW]; omega);rw[aDW] at hfmt;have HH0:=Lib.hid hH0;clear hH0 hal;go_enter L.f246,Body.n246_ntmps ρ
 go_wp2_with (first
  | (go_at_fn (ρ.f 284); refine (a'O { L with } u (by omega) hu64 _ (htab.alloc _)).mono ?_; rintro e w' ⟨rfl,rfl⟩))
 go_at_fn (ρ.f 285)
 refine hfmt.mono ?_;rintro e w' ⟨rfl,k,v',dk,rfl,hF⟩;have hcv:(convert (ρ.t 37) (ρ.t 9) (.slice (some ⟨w.heap.size,1,none⟩) (Lib.nDigits u) 23)).run P ((putRow (fun (b:UInt8)=>Value.int .u8 (b.toNat:Int)) (w.alloc (.cells Lib.zeros24 (ρ.t 171))) w.heap.size 1 dk).drewN k) = .ok (.string ⟨(Lib.decDigits u).toArray⟩) ((putRow (fun (b:UInt8)=>Value.int .u8 (b.toNat:Int)) (w.alloc (.cells Lib.zeros24 (ρ.t 171))) w.heap.size 1 dk).drewN k):=by have h:=run_convert_bytes_back (P:=P) ((putRow (fun (b:UInt8)=>Value.int .u8 (b.toNat:Int)) (w.alloc (.cells Lib.zeros24 (ρ.t 171))) w.heap.size 1 dk).drewN k) (ρ.t 37) (ρ.t 9) (ρ.t 5) ⟨w.heap.size,1,none⟩ 23 (Lib.decDigits u) L.t37 L.t5 L.t9 (fun j hj=>by rw[Lib.row_is_numeral hF j hj,Lib.add_plain,World.cell?_drewN];exact cell?_putRow (fun (b:UInt8)=>Value.int .u8 (b.toNat:Int)) _ w.heap.size 1 _ dk HH0.out (by rw[hF.size,aDW]) j (by rw[hF.size]; rw[Lib.decDigits_length] at hj; exact hj));rw[Lib.decDigits_length] at h;exact h
 go_wp2
 go_ret
 obtain ⟨os,eo⟩:=Lib.fin_pos w (.cells Lib.zeros24 (ρ.t 171)) dk k;refine ⟨rfl,?_⟩;rw[eo];exact below_grown w k os
set_option maxRecDepth 100000 in
theorem bJJ (L:LaysM.n243 P ρ) (u:Nat) (hu1:100<=u) (hu:u<9223372036854775808) (w:World) (htab:Gu P ρ w) :
 Calls P (ρ.f 243) #[.int .i64 u] w fun e w'=>e = .returned (.string ⟨(Lib.decDigits u).toArray⟩)/\Below w.heap.size w w':=by
 have mixed:=L.mixed;have t3:=L.t3; have a3:=L.a3; have z3:=L.z3; have v3:=L.v3;have t9:=L.t9; have a9:=L.a9; have z9:=L.z9; have v9:=L.v9;have t2:=L.t2; have a2:=L.a2; have z2:=L.z2; have v2:=L.v2;have e246:∀ args w,(callFunc (ρ.f 246) args).run P w = .ok (.enter (ρ.f 246) args) w:=enters_of L.f246 (by kernel_rfl) rfl;go_enter L.f243,Body.n243_ntmps ρ
 go_wp2_with (go_at_fn (ρ.f 246); refine (b09 { L with } u hu1 hu _ htab).mono ?_; rintro e w' ⟨rfl,hb⟩)
 go_ret
 exact ⟨rfl,hb⟩
set_option maxRecDepth 100000 in
theorem bJL (L:LaysM.n171 P ρ) (u:Nat) (hu1:100<=u) (hu:u<9223372036854775808) (w:World) (htab:Gu P ρ w) :
 Calls P (ρ.f 171) #[.int .i64 u] w fun e w'=>e = .returned (.string ⟨(Lib.decDigits u).toArray⟩)/\Below w.heap.size w w':=by
 have mixed:=L.mixed;have t3:=L.t3; have a3:=L.a3; have z3:=L.z3; have v3:=L.v3;have t9:=L.t9; have a9:=L.a9; have z9:=L.z9; have v9:=L.v9;have e243:∀ args w,(callFunc (ρ.f 243) args).run P w = .ok (.enter (ρ.f 243) args) w:=enters_of L.f243 (by kernel_rfl) rfl;go_enter L.f171,Body.n171_ntmps ρ
 go_wp2_with (go_at_fn (ρ.f 243); refine (bJJ { L with } u hu1 hu _ htab).mono ?_; rintro e w' ⟨rfl,hb⟩)
 go_ret
 exact ⟨rfl,hb⟩
end
end YtilpiopkekkbiaaGreatDoor
end Go.Proofs
namespace Go.Proofs
open Go.Shelf
shelf_lay Lays.n217 Nm 217 at Tryz as Tryz.lays217
end Go.Proofs
namespace Go.Proofs.YtilpiopkekkbiaaGreatDoor
open Go.RowKit Go.Shelf
theorem bJ5 (s:ByteArray) (c:Int) (w:World):Calls Tryz.prog 252 #[.string s,.int .u8 c] w fun e w'=>e = .returned (.int .i64 (Lib.indexByte s.data.toList c.toNat.toUInt8))/\w'=w:=Any.stringslite_IndexByte Tryz.lays217 s c w
def C16:Cal:=fun g args h=>match g,args with
 | 252,[.str s,.int .u8 c]=>some (.int .i64 (Lib.indexByte s.data.toList c.toNat.toUInt8),h)
 | _,_=>none
theorem a6B {P:Program} {g:FuncId} {args:List PV} {r:PV} {v:Value} (hc:callable P g=true) (hr:∀ M B,Rep M B r v) (ho:r.own=false)
 (h:∀ (M:Mem) (B:aP) (w:World) (vals:Array Value),ay M B args vals.toList->Calls P g vals w fun e w'=>e = .returned v/\w'=w) (hh:aG):Ev P g args hh r hh:=by
 refine ⟨hc,fun out M B w vals hmem hheap hcnt hnew hv=>(h M B w vals hv).mono ?_⟩;rintro e w' ⟨rfl,rfl⟩;refine ⟨v,M,B,rfl,hmem,dH.refl _ _,Fr.refl _ _ _,hheap,hr M B,fJ ho,fun b _ => ?_,fun b => ?_,fun b hb => ?_⟩;grind [dP]
 grind [dP]
 grind [dP]
theorem Eh:oN Tryz.prog C16:=by
 intro g args h r h' hv;unfold C16 at hv;split at hv
 .rename_i s c;injection hv with hv; injection hv with h1 h2; subst h1; subst h2
  refine a6B (v := .int .i64 (Lib.indexByte s.data.toList c.toNat.toUInt8)) (by kernel_rfl) (fun _ _=>dw.2 rfl) rfl (fun M B w vals hv => ?_) h;obtain ⟨u1,us,e1,r1,hv⟩:=cO.1 hv;obtain ⟨u2,us,rfl,r2,hv⟩:=cO.1 hv;rw[dW] at hv;subst hv;rw[iq] at r1; rw[dw] at r2;subst r1; subst r2;have:vals = #[.string s,.int .u8 c]:=by rw[<- sK]; exact e1
  rw[this];exact bJ5 s c w
 .cases hv
end Go.Proofs.YtilpiopkekkbiaaGreatDoor
namespace Go.Proofs.YtilpiopkekkbiaaGreatDoor
open Go.RowKit
set_option maxRecDepth 1000000
variable {p:Nat->Bool} {l:bZ'}
def MQ (p:PV) (K:Int->ByteArray->Int->Int->Int->R):R:=match p with | .agg [.int .i64 x0,.str x1,.int .i64 x2,.int .i64 x3,.int .i64 x4]=>K x0 x1 x2 x3 x4 | _=>none
theorem aDN (p:PV):(∀ K:PV->R,MQ p (fun x0 x1 x2 x3 x4=>K (.agg [.int .i64 x0,.str x1,.int .i64 x2,.int .i64 x3,.int .i64 x4]))=K p)\/(∀ K:PV->R,MQ p (fun x0 x1 x2 x3 x4=>K (.agg [.int .i64 x0,.str x1,.int .i64 x2,.int .i64 x3,.int .i64 x4]))=none):=by
 unfold MQ; split
 .exact .inl fun _=>rfl
 .exact .inr fun _=>rfl
@[simp] theorem bZQ (x0 : Int) (x1 : ByteArray) (x2 : Int) (x3 : Int) (x4 : Int) (K : Int -> ByteArray -> Int -> Int -> Int -> R) : MQ (.agg [.int .i64 x0, .str x1, .int .i64 x2, .int .i64 x3, .int .i64 x4]) K = K x0 x1 x2 x3 x4 := rfl
def VV (t:TypeId) (p:PV) (K:PV->R):R :=
 aA (Nat.beq t 2) (vI .i64 p fun n1=>K (.int .i64 n1))
  (aA (Nat.beq t 3) (vI .i64 p fun n1=>K (.int .i64 n1))
  (aA (Nat.beq t 4) (vB p fun b1=>K (.bool b1))
  (aA (Nat.beq t 5) (vI .u8 p fun n1=>K (.int .u8 n1))
  (aA (Nat.beq t 6) (vI .u8 p fun n1=>K (.int .u8 n1))
  (aA (Nat.beq t 9) (vS p fun s1=>K (.str s1))
  (aA (Nat.beq t 10) (vS p fun s1=>K (.str s1))
  (aA (Nat.beq t 11) (vS p fun s1=>K (.str s1))
  (aA (Nat.beq t 12) (vI .u64 p fun n1=>K (.int .u64 n1))
  (aA (Nat.beq t 21) (vI .i32 p fun n1=>K (.int .i32 n1))
  (aA (Nat.beq t 38) (vL false 5 p fun l1=>K (.sl false 5 l1))
  (aA (Nat.beq t 47) (vI .i64 p fun n1=>K (.int .i64 n1))
  (aA (Nat.beq t 60) (vL false 1 p fun l1=>K (.sl false 1 l1))
  (aA (Nat.beq t 32) (vI .u16 p fun n1=>K (.int .u16 n1))
  (aA (Nat.beq t 64) (vL false 1 p fun l1=>K (.sl false 1 l1))
  (aA (Nat.beq t 146) (vL false 5 p fun l1=>K (.sl false 5 l1))
  (aA (Nat.beq t 76) (vL false 1 p fun l1=>K (.sl false 1 l1))
  (aA (Nat.beq t 194) (vL false 1 p fun l1=>K (.sl false 1 l1))
  (aA (Nat.beq t 80) (vL false 5 p fun l1=>K (.sl false 5 l1))
  (aA (Nat.beq t 260) (vI .u64 p fun n1=>K (.int .u64 n1))
  (aA (Nat.beq t 97) (vI .i8 p fun n1=>K (.int .i8 n1))
  (aA (Nat.beq t 114) (MQ p fun n1 s2 n3 n4 n5=>K (.agg [.int .i64 n1,.str s2,.int .i64 n3,.int .i64 n4,.int .i64 n5]))
  (aA (Nat.beq t 115) (MQ p fun n1 s2 n3 n4 n5=>K (.agg [.int .i64 n1,.str s2,.int .i64 n3,.int .i64 n4,.int .i64 n5]))
  (aA (Nat.beq t 293) (vL false 1 p fun l1=>K (.sl false 1 l1))
  (aA (Nat.beq t 220) (vL false 1 p fun l1=>K (.sl false 1 l1))
  (aA (Nat.beq t 301) (vI .u32 p fun n1=>K (.int .u32 n1))
  (aA (Nat.beq t 304) (vI .u64 p fun n1=>K (.int .u64 n1))
  (aA (Nat.beq t 337) (vI .u8 p fun n1=>K (.int .u8 n1))
  (aA (Nat.beq t 338) (vI .u8 p fun n1=>K (.int .u8 n1))
  (aA (Nat.beq t 340) (vI .i32 p fun n1=>K (.int .i32 n1))
  (aA (Nat.beq t 341) (vI .i32 p fun n1=>K (.int .i32 n1))
  (K p)))))))))))))))))))))))))))))))
theorem aXA:yf VV:=fun t p =>kZ (sH .i64 p) (kZ (sH .i64 p) (kZ (J8 p) (kZ (sH .u8 p) (kZ (sH .u8 p) (kZ (Wl p) (kZ (Wl p) (kZ (Wl p) (kZ (sH .u64 p) (kZ (sH .i32 p) (kZ (Aq false 5 p) (kZ (sH .i64 p) (kZ (Aq false 1 p) (kZ (sH .u16 p) (kZ (Aq false 1 p) (kZ (Aq false 5 p) (kZ (Aq false 1 p) (kZ (Aq false 1 p) (kZ (Aq false 5 p) (kZ (sH .u64 p) (kZ (sH .i8 p) (kZ (aDN p) (kZ (aDN p) (kZ (Aq false 1 p) (kZ (Aq false 1 p) (kZ (sH .u32 p) (kZ (sH .u64 p) (kZ (sH .u8 p) (kZ (sH .u8 p) (kZ (sH .i32 p) (kZ (sH .i32 p) (.inl fun _=>rfl)))))))))))))))))))))))))))))))
def Wq (p:PV) (K:List PV->Int->Int->Int->R):R:=match p with | .tuple [.sl false 5 l1,.int .i64 n2,.int .i64 n3,.int .i64 n4]=>K l1 n2 n3 n4 | _=>none
theorem bVQ (p:PV) (h:aG):(∀ K:PV->aG->R,Wq p (fun l1 n2 n3 n4=>K (.tuple [.sl false 5 l1,.int .i64 n2,.int .i64 n3,.int .i64 n4]) h)=K p h)\/(∀ K:PV->aG->R,Wq p (fun l1 n2 n3 n4=>K (.tuple [.sl false 5 l1,.int .i64 n2,.int .i64 n3,.int .i64 n4]) h)=none):=by
 unfold Wq; split
 .exact .inl fun _=>rfl
 .exact .inr fun _=>rfl
@[simp] theorem bZS (l1 : List PV) (n2 : Int) (n3 : Int) (n4 : Int) (K : List PV -> Int -> Int -> Int -> R) : Wq (.tuple [.sl false 5 l1, .int .i64 n2, .int .i64 n3, .int .i64 n4]) K = K l1 n2 n3 n4 := rfl
def Ec (p:PV) (K:Int->ByteArray->Int->Int->Int->Int->R):R:=match p with | .tuple [.agg [.int .i64 n1,.str s2,.int .i64 n3,.int .i64 n4,.int .i64 n5],.int .i64 n6]=>K n1 s2 n3 n4 n5 n6 | _=>none
theorem aDP (p:PV) (h:aG):(∀ K:PV->aG->R,Ec p (fun n1 s2 n3 n4 n5 n6=>K (.tuple [.agg [.int .i64 n1,.str s2,.int .i64 n3,.int .i64 n4,.int .i64 n5],.int .i64 n6]) h)=K p h)\/(∀ K:PV->aG->R,Ec p (fun n1 s2 n3 n4 n5 n6=>K (.tuple [.agg [.int .i64 n1,.str s2,.int .i64 n3,.int .i64 n4,.int .i64 n5],.int .i64 n6]) h)=none):=by
 unfold Ec; split
 .exact .inl fun _=>rfl
 .exact .inr fun _=>rfl
@[simp] theorem bZT (n1 : Int) (s2 : ByteArray) (n3 : Int) (n4 : Int) (n5 : Int) (n6 : Int) (K : Int -> ByteArray -> Int -> Int -> Int -> Int -> R) : Ec (.tuple [.agg [.int .i64 n1, .str s2, .int .i64 n3, .int .i64 n4, .int .i64 n5], .int .i64 n6]) K = K n1 s2 n3 n4 n5 n6 := rfl
def KO (p:PV) (h:aG) (K:Int->ByteArray->Int->Int->Int->Int->Int->Int->R):R:=match p,h with | .agg [.int .i64 n1,.str s2,.int .i64 n3,.int .i64 n4,.int .i64 n5],[some [.int .i64 n6],some [.int .i64 n7],some [.int .i64 n8]]=>K n1 s2 n3 n4 n5 n6 n7 n8 | _,_=>none
theorem bII (p:PV) (h:aG):(∀ K:PV->aG->R,KO p h (fun n1 s2 n3 n4 n5 n6 n7 n8=>K (.agg [.int .i64 n1,.str s2,.int .i64 n3,.int .i64 n4,.int .i64 n5]) [some [.int .i64 n6],some [.int .i64 n7],some [.int .i64 n8]])=K p h)\/(∀ K:PV->aG->R,KO p h (fun n1 s2 n3 n4 n5 n6 n7 n8=>K (.agg [.int .i64 n1,.str s2,.int .i64 n3,.int .i64 n4,.int .i64 n5]) [some [.int .i64 n6],some [.int .i64 n7],some [.int .i64 n8]])=none):=by
 unfold KO; split
 .exact .inl fun _=>rfl
 .exact .inr fun _=>rfl
@[simp] theorem bXH (n1 : Int) (s2 : ByteArray) (n3 : Int) (n4 : Int) (n5 : Int) (n6 : Int) (n7 : Int) (n8 : Int) (K : Int -> ByteArray -> Int -> Int -> Int -> Int -> Int -> Int -> R) : KO (.agg [.int .i64 n1, .str s2, .int .i64 n3, .int .i64 n4, .int .i64 n5]) [some [.int .i64 n6], some [.int .i64 n7], some [.int .i64 n8]] K = K n1 s2 n3 n4 n5 n6 n7 n8 := rfl
def Xm (h0:aG) (r:PV) (h:aG) (K:PV->aG->R):R:=match h0 with
 | [some [.int .i64 _],some [.int .i64 _],some [.int .i64 _]]=>KO r h (fun n1 s2 n3 n4 n5 n6 n7 n8=>K (.agg [.int .i64 n1,.str s2,.int .i64 n3,.int .i64 n4,.int .i64 n5]) [some [.int .i64 n6],some [.int .i64 n7],some [.int .i64 n8]])
 | []=>MQ r fun n1 s2 n3 n4 n5=>K (.agg [.int .i64 n1,.str s2,.int .i64 n3,.int .i64 n4,.int .i64 n5]) h
 | _=>K r h
theorem aXC (h0:aG) (r:PV) (h:aG):(∀ K:PV->aG->R,Xm h0 r h K=K r h)\/(∀ K:PV->aG->R,Xm h0 r h K=none):=by
 unfold Xm; split
 .exact bII r h
 .exact zk (aDN r) h
 .exact .inl fun _=>rfl
def a4Y (g:FuncId) (h0:aG) (r:PV) (h:aG) (K:PV->aG->R):R :=
 aA (Nat.beq g 266) (vB r fun b1=>K (.bool b1) h)
  (aA (Nat.beq g 267) (Ec r fun n1 s2 n3 n4 n5 n6=>K (.tuple [.agg [.int .i64 n1,.str s2,.int .i64 n3,.int .i64 n4,.int .i64 n5],.int .i64 n6]) h)
  (aA (Nat.beq g 268) (vB r fun b1=>K (.bool b1) h)
  (aA (Nat.beq g 269) (Ec r fun n1 s2 n3 n4 n5 n6=>K (.tuple [.agg [.int .i64 n1,.str s2,.int .i64 n3,.int .i64 n4,.int .i64 n5],.int .i64 n6]) h)
  (aA (Nat.beq g 298) (vS r fun s1=>K (.str s1) h)
  (aA (Nat.beq g 299) (vB r fun b1=>K (.bool b1) h)
  (K r h))))))
theorem aXF (g:FuncId) (h0:aG) (r:PV) (h:aG):(∀ K:PV->aG->R,a4Y g h0 r h K=K r h)\/(∀ K:PV->aG->R,a4Y g h0 r h K=none) :=tY (zk (J8 r) h) (tY (aDP r h) (tY (zk (J8 r) h) (tY (aDP r h) (tY (zk (Wl r) h) (tY (zk (J8 r) h) (.inl fun _=>rfl))))))
def a4X (g:FuncId) (h0:aG) (r:PV) (h:aG) (K:PV->aG->R):R :=
 aA (Nat.beq g 24) (Wq r fun l1 n2 n3 n4=>K (.tuple [.sl false 5 l1,.int .i64 n2,.int .i64 n3,.int .i64 n4]) h)
  (aA (Nat.beq g 216) (vB r fun b1=>K (.bool b1) h)
  (aA (Nat.beq g 279) (vB r fun b1=>K (.bool b1) h)
  (aA (Nat.beq g 202) (w0 r (K (.tuple []) h))
  (aA (Nat.beq g 203) (vI .i64 r fun n1=>K (.int .i64 n1) h)
  (aA (Nat.beq g 204) (Xm h0 r h K)
  (aA (Nat.beq g 205) (Ec r fun n1 s2 n3 n4 n5 n6=>K (.tuple [.agg [.int .i64 n1,.str s2,.int .i64 n3,.int .i64 n4,.int .i64 n5],.int .i64 n6]) h)
  (aA (Nat.beq g 206) (vL false 2 r fun l1=>K (.sl false 2 l1) h)
  (aA (Nat.beq g 252) (vI .i64 r fun n1=>K (.int .i64 n1) h)
  (aA (Nat.beq g 263) (vB r fun b1=>K (.bool b1) h)
  (aA (Nat.beq g 264) (vI .i64 r fun n1=>K (.int .i64 n1) h)
  (aA (Nat.beq g 265) (vL false 1 r fun l1=>K (.sl false 1 l1) h)
  (a4Y g h0 r h K))))))))))))
theorem aXE (g:FuncId) (h0:aG) (r:PV) (h:aG):(∀ K:PV->aG->R,a4X g h0 r h K=K r h)\/(∀ K:PV->aG->R,a4X g h0 r h K=none) :=tY (bVQ r h) (tY (zk (J8 r) h) (tY (zk (J8 r) h) (tY (bVP r h) (tY (zk (sH .i64 r) h) (tY (aXC h0 r h) (tY (aDP r h) (tY (zk (Aq false 2 r) h) (tY (zk (sH .i64 r) h) (tY (zk (J8 r) h) (tY (zk (sH .i64 r) h) (tY (zk (Aq false 1 r) h) (aXF g h0 r h))))))))))))
def WW:FuncId->aG->PV->aG->(PV->aG->R)->R:=a4X
theorem aXD:uT WW:=aXE
def aAY (g:FuncId):ww:=match g with
 | 24=>⟨[0,2,3,4,5],[22],[],[],[(4,[0]),(10,[2,3,4,5])],[],[(2,[5])],[],[([5],false),([],true),([],true),([],true)],[],[],[],false⟩
 | 216=>⟨[0,1],[],[],[],[],[],[],[],[],[],[],[],false⟩
 | 119=>⟨[0,1],[],[],[],[],[],[],[1],[],[],[],[],false⟩
 | 279=>⟨[0,1],[],[],[],[],[],[],[],[],[],[],[],false⟩
 | 202=>⟨[0,1,3,4,5,6,7,8,9,11,12,13,47,48,49],[],[],[(47,[2])],[(2,[0,1,3,4,5]),(6,[0,1,3,4,5,6,7]),(5,[0,1,3,4,5,6,7]),(8,[0,1,3,4,5,6]),(12,[0,1,3,4,5,8]),(15,[0,1,3,4,5,8,9,47,48,49]),(18,[0,1,3,4,5,8,9,47,48,49]),(19,[0,1,3,4,5,8,9]),(21,[0,1,3,4,5,12])],[(2,[0,1,3,4,5]),(4,[0,1,3,4,5,6,7]),(14,[0,1,3,4,5,8,9,47,48,49])],[],[],[],[],[],[],false⟩
 | 203=>⟨[0,3,4],[],[],[],[(5,[0,3]),(11,[0,3,4]),(12,[3])],[(3,[0,3])],[],[],[],[],[],[],false⟩
 | 204=>⟨[0,1,2,3,4,5],[],[],[],[],[],[],[],[],[],[],[6,7,8,1000000,1000001,1000002],false⟩
 | 205=>⟨[0,2,5,6,7,8],[],[],[(6,[1])],[(4,[0,2,6,7,8]),(7,[0,2,6,7,8]),(8,[2])],[(3,[0,2,6,7,8])],[],[],[],[],[],[],false⟩
 | 206=>⟨[],[],[],[],[],[],[],[],[([2],false)],[],[],[],false⟩
 | 252=>⟨[0,1],[],[],[],[],[],[],[],[],[],[],[],false⟩
 | 263=>⟨[0],[],[],[],[],[],[],[],[],[],[],[],false⟩
 | 264=>⟨[0,1],[],[],[],[],[],[],[],[],[],[],[],false⟩
 | 265=>⟨[],[],[],[],[],[],[],[],[([1],false)],[],[],[],false⟩
 | 266=>⟨[0],[],[],[],[],[],[],[],[],[],[],[],false⟩
 | 267=>⟨[0,2,4],[],[],[],[(5,[2,4])],[],[],[],[],[],[],[],false⟩
 | 268=>⟨[0],[],[],[],[],[],[],[],[],[],[],[],false⟩
 | 269=>⟨[0,2,4,5,6,27,28],[],[],[],[(5,[2,4]),(8,[2,4,5,27,28]),(12,[2,4,5,27,28]),(13,[2,4,5])],[(7,[2,4,5,27,28])],[],[],[],[],[],[],false⟩
 | 298=>⟨[0,1,5,7,8],[],[],[],[(4,[0,1,7,8]),(7,[0,1,7,8]),(8,[0])],[(3,[0,1,7,8])],[],[],[],[],[],[],false⟩
 | 299=>⟨[0],[],[],[],[],[],[],[],[],[],[],[],false⟩
 | _=>⟨[],[],[],[],[],[],[],[],[],[],[],[],false⟩
noncomputable def SS:SE:=⟨Tryz.prog,aAY,VV,WW,C16⟩
theorem dQ:SS.OK:=⟨aXA,aXD⟩
def aKO:Code:=qh Tryz.f203
def a7D:AE:=SS.ae 203 34
def bA7:XE:=SS.xe SS.CC SS.LL a7D 0
def aKM:AX->ASt->R:=G5 SS.P Tryz.f203.results.toList (SS.iL 203).ro 0 []
def aKP:Code:=Code.sub [true,true,true] aKO
def bA5:AX->ASt->R:=wU (wH a7D 0 aKP (bH bA7 aKP aKM)) aKM
def bA6:AX->ASt->R:=ak 0 bA5
def bA8:Code:=Code.sub [true,true,false,false,false] aKO
def U3 (x0:ByteArray) (x3:Int):R:=SS.LL a7D 0 [0,3] 0 bA8 bA6 ⟨[(0,.str x0),(3,.int .i64 x3)],[]⟩
theorem aKN (x0:ByteArray) (x3:Int):U3 x0 x3=aA (decide (x3<(x0.size:Int))) (vw x0 x3 fun c1=>jO SS.CC 263 [.int .u8 c1] fun r3=>vB r3 fun b2=>aA b2 (U3 x0 (i64.wrap (x3+1))) (chk (decide (0<=x3)&&decide (x3<=(x0.size:Int))) (jO SS.CC 216 [.str (x0.extract x3.toNat x0.size),.str ⟨#[47,47]⟩] fun r5=>vB r5 fun b4=>aA b4 (chk (decide (0<=x3)&&decide (x3<=(x0.size:Int))) (jO SS.CC 264 [.str (x0.extract x3.toNat x0.size),.int .u8 10] fun r7=>vI .i64 r7 fun n6=>aA (decide (n6<0)) (some (.int .i64 (x0.size:Int),[])) (U3 x0 (i64.wrap (x3+n6))))) (some (.int .i64 x3,[]))))) (some (.int .i64 x3,[])):=(DI dQ (by decide) (by kernel_rfl) (by kernel_rfl)).trans (by kernel_rfl)
theorem bA9 (a0:ByteArray):SS.CC 203 [.str a0] []=U3 a0 0:=(uI dQ rfl).trans (by kernel_rfl)
def aKT:Code:=qh Tryz.f205
def a7E:AE:=SS.ae 205 19
def bAC:XE:=SS.xe SS.CC SS.LL a7E 0
def aKR:AX->ASt->R:=G5 SS.P Tryz.f205.results.toList (SS.iL 205).ro 0 []
def aKU:Code:=Code.sub [true,true] aKT
def bAA:AX->ASt->R:=wU (wH a7E 0 aKU (bH bAC aKU aKR)) aKR
def bAB:AX->ASt->R:=ak 0 bAA
def bAD:Code:=Code.sub [true,false,true,false,false] aKT
def Ze (x0:ByteArray) (x6:bZZ) (x8:Int):R:=SS.LL a7E 0 [0,2,6,7,8] 1 bAD bAB ⟨[(0,.str x0),(2,.ptr 0 0),(6,.sl false 1 x6),(7,.int .i64 (x6.length:Int)),(8,.int .i64 x8)],[some [.int .i64 0,.str ⟨#[]⟩,.int .i64 0,.int .i64 0,.int .i64 0]]⟩
theorem aKS (x0:ByteArray) (x6:bZZ) (x8:Int):Ze x0 x6 x8=aA (decide (x8<(x6.length:Int))) (bz x6 x8 fun e1=>vS e1 fun s2=>jO SS.CC 216 [.str x0,.str s2] fun r4=>vB r4 fun b3=>aA b3 (some (.tuple [.agg [.int .i64 3,.str s2,.int .i64 0,.int .i64 0,.int .i64 0],.int .i64 0],[])) (Ze x0 x6 (i64.wrap (x8+1)))) (some (.tuple [.agg [.int .i64 0,.str ⟨#[]⟩,.int .i64 0,.int .i64 0,.int .i64 0],.int .i64 14],[])):=(DI dQ (by decide) (by kernel_rfl) (by kernel_rfl)).trans (by kernel_rfl)
theorem bAE (a0:ByteArray):SS.CC 205 [.str a0] []=jO SS.CC 265 [] fun r2=>vL false 1 r2 fun l1=>Ze a0 l1 0:=(uI dQ rfl).trans (by kernel_rfl)
theorem bCG (a0:ByteArray):SS.CC 267 [.str a0] []=jO SS.CC 298 [.str a0,.func (.func 299) [] []] fun r2=>vS r2 fun s1=>aA (decide (32<(s1.size:Int))) (some (.tuple [.agg [.int .i64 0,.str ⟨#[]⟩,.int .i64 0,.int .i64 0,.int .i64 0],.int .i64 15],[])) (some (.tuple [.agg [.int .i64 1,.str s1,.int .i64 0,.int .i64 0,.int .i64 0],.int .i64 0],[])):=(uI dQ rfl).trans (by kernel_rfl)
def a7J:Code:=qh Tryz.f269
def a7H:AE:=SS.ae 269 46
def aL7:XE:=SS.xe SS.CC SS.LL a7H 0
def a7I:AX->ASt->R:=G5 SS.P Tryz.f269.results.toList (SS.iL 269).ro 0 []
def bCL:Code:=Code.sub [true,true,true] a7J
def aL8:Code:=Code.sub [true,true,true,true,true] a7J
def bCJ:AX->ASt->R:=wU (wH a7H 0 aL8 (bH aL7 aL8 a7I)) a7I
def bCK:AX->ASt->R:=ak 0 bCJ
def bCM:Code:=Code.sub [true,true,true,true,false,true,false,false] a7J
def Zv (x4:ByteArray):R:=bH aL7 bCL a7I ⟨[(2,.ptr 0 0),(4,.str x4)],[some [.int .i64 0,.str ⟨#[]⟩,.int .i64 0,.int .i64 0,.int .i64 0]]⟩
def Zw (x4:ByteArray) (x5:Int) (x28:Int):R:=SS.LL a7H 0 [2,4,5,27,28] 1 bCM bCK ⟨[(2,.ptr 0 0),(4,.str x4),(5,.int .i64 x5),(27,.int .i64 (x4.size:Int)),(28,.int .i64 x28)],[some [.int .i64 0,.str ⟨#[]⟩,.int .i64 0,.int .i64 0,.int .i64 0]]⟩
theorem bCI (x4:ByteArray):Zv x4=Zw x4 0 0:=by kernel_rfl
theorem aL6 (x4:ByteArray) (x5:Int) (x28:Int):Zw x4 x5 x28=aA (decide (x28<(x4.size:Int))) (vw x4 x28 fun c1=>aA (decide (65536<(i64.wrap ((i64.wrap (10*x5))+(i64.wrap (IntKind.u8.wrap (c1-48))))))) (some (.tuple [.agg [.int .i64 0,.str ⟨#[]⟩,.int .i64 0,.int .i64 0,.int .i64 0],.int .i64 2],[])) (Zw x4 (i64.wrap ((i64.wrap (10*x5))+(i64.wrap (IntKind.u8.wrap (c1-48))))) (i64.wrap (x28+1)))) (some (.tuple [.agg [.int .i64 2,.str x4,.int .i64 x5,.int .i64 0,.int .i64 0],.int .i64 0],[])):=(DI dQ (by decide) (by kernel_rfl) (by kernel_rfl)).trans (by kernel_rfl)
theorem bCN (a0:ByteArray):SS.CC 269 [.str a0] []=jO SS.CC 298 [.str a0,.func (.func 268) [] []] fun r2=>vS r2 fun s1=>jO SS.CC 298 [.str a0,.func (.func 299) [] []] fun r4=>vS r4 fun s3=>aA (decide ((s1.size:Int)<(s3.size:Int))) (some (.tuple [.agg [.int .i64 0,.str ⟨#[]⟩,.int .i64 0,.int .i64 0,.int .i64 0],.int .i64 6],[])) (aA (decide (1<(s1.size:Int))) (vw s1 0 fun c5=>aA (c5==48) (some (.tuple [.agg [.int .i64 0,.str ⟨#[]⟩,.int .i64 0,.int .i64 0,.int .i64 0],.int .i64 6],[])) (Zv s1)) (Zv s1)):=(uI dQ rfl).trans (by kernel_rfl)
theorem bAF:SS.CC 206 [] []=some (.sl false 2 [.agg [.func (.func 266) [] [],.func (.func 267) [] []],.agg [.func (.func 268) [] [],.func (.func 269) [] []]],[]):=(uI dQ rfl).trans (by kernel_rfl)
theorem bCC (a0:Int):SS.CC 263 [.int .u8 a0] []=aA (a0==32) (some (.bool true,[])) (aA (a0==9) (some (.bool true,[])) (aA (a0==13) (some (.bool true,[])) (some (.bool (a0==10),[])))):=(uI dQ rfl).trans (by kernel_rfl)
theorem b1M (a0:ByteArray) (a1:ByteArray):SS.CC 216 [.str a0,.str a1] []=jO SS.CC 279 [.str a0,.str a1] fun r2=>vB r2 fun b1=>some (.bool b1,[]):=(uI dQ rfl).trans (by kernel_rfl)
theorem bCD (a0:ByteArray) (a1:Int):SS.CC 264 [.str a0,.int .u8 a1] []=jO SS.CC 252 [.str a0,.int .u8 a1] fun r2=>vI .i64 r2 fun n1=>some (.int .i64 n1,[]):=(uI dQ rfl).trans (by kernel_rfl)
theorem bCE:SS.CC 265 [] []=some (.sl false 1 [.str ⟨#[45,62]⟩,.str ⟨#[58,61]⟩,.str ⟨#[61,61]⟩,.str ⟨#[33,61]⟩,.str ⟨#[60,61]⟩,.str ⟨#[62,61]⟩,.str ⟨#[46,46]⟩,.str ⟨#[38,38]⟩,.str ⟨#[124,124]⟩,.str ⟨#[123]⟩,.str ⟨#[125]⟩,.str ⟨#[40]⟩,.str ⟨#[41]⟩,.str ⟨#[91]⟩,.str ⟨#[93]⟩,.str ⟨#[44]⟩,.str ⟨#[59]⟩,.str ⟨#[58]⟩,.str ⟨#[61]⟩,.str ⟨#[60]⟩,.str ⟨#[62]⟩,.str ⟨#[43]⟩,.str ⟨#[45]⟩,.str ⟨#[42]⟩,.str ⟨#[33]⟩,.str ⟨#[63]⟩],[]):=(uI dQ rfl).trans (by kernel_rfl)
def aLI:Code:=qh Tryz.f298
def a7O:AE:=SS.ae 298 22
def bDA:XE:=SS.xe SS.CC SS.LL a7O 0
def aLG:AX->ASt->R:=G5 SS.P Tryz.f298.results.toList (SS.iL 298).ro 0 []
def aLJ:Code:=Code.sub [true,true] aLI
def bD8:AX->ASt->R:=wU (wH a7O 0 aLJ (bH bDA aLJ aLG)) aLG
def bD9:AX->ASt->R:=ak 0 bD8
def bDB:Code:=Code.sub [true,false,true,false,false] aLI
def a00 (x0:ByteArray) (x8:Int):R:=SS.LL a7O 0 [0,1,7,8] 0 bDB bD9 ⟨[(0,.str x0),(1,.func (.func 299) [] []),(7,.int .i64 (x0.size:Int)),(8,.int .i64 x8)],[]⟩
theorem aLH (x0:ByteArray) (x8:Int):a00 x0 x8=aA (decide (x8<(x0.size:Int))) (vw x0 x8 fun c1=>jO SS.CC 299 [.int .u8 c1] fun r3=>vB r3 fun b2=>aA (!b2) (chk (decide (0<=x8)&&decide (x8<=(x0.size:Int))) (some (.str (x0.extract 0 x8.toNat),[]))) (a00 x0 (i64.wrap (x8+1)))) (some (.str x0,[])):=(DI dQ (by decide) (by kernel_rfl) (by kernel_rfl)).trans (by kernel_rfl)
theorem bDC (a0:ByteArray):SS.CC 298 [.str a0,.func (.func 299) [] []] []=a00 a0 0:=(uI dQ rfl).trans (by kernel_rfl)
def aLE:Code:=qh Tryz.f298
def a7N:AE:=SS.ae 298 22
def bD5:XE:=SS.xe SS.CC SS.LL a7N 0
def aLC:AX->ASt->R:=G5 SS.P Tryz.f298.results.toList (SS.iL 298).ro 0 []
def aLF:Code:=Code.sub [true,true] aLE
def bD3:AX->ASt->R:=wU (wH a7N 0 aLF (bH bD5 aLF aLC)) aLC
def bD4:AX->ASt->R:=ak 0 bD3
def bD6:Code:=Code.sub [true,false,true,false,false] aLE
def Zz (x0:ByteArray) (x8:Int):R:=SS.LL a7N 0 [0,1,7,8] 0 bD6 bD4 ⟨[(0,.str x0),(1,.func (.func 268) [] []),(7,.int .i64 (x0.size:Int)),(8,.int .i64 x8)],[]⟩
theorem aLD (x0:ByteArray) (x8:Int):Zz x0 x8=aA (decide (x8<(x0.size:Int))) (vw x0 x8 fun c1=>jO SS.CC 268 [.int .u8 c1] fun r3=>vB r3 fun b2=>aA (!b2) (chk (decide (0<=x8)&&decide (x8<=(x0.size:Int))) (some (.str (x0.extract 0 x8.toNat),[]))) (Zz x0 (i64.wrap (x8+1)))) (some (.str x0,[])):=(DI dQ (by decide) (by kernel_rfl) (by kernel_rfl)).trans (by kernel_rfl)
theorem bD7 (a0:ByteArray):SS.CC 298 [.str a0,.func (.func 268) [] []] []=Zz a0 0:=(uI dQ rfl).trans (by kernel_rfl)
theorem b8L (a0:ByteArray) (a1:ByteArray):SS.CC 279 [.str a0,.str a1] []=aA (decide ((a1.size:Int)<=(a0.size:Int))) (chk (decide (0<=(a1.size:Int))&&decide ((a1.size:Int)<=(a0.size:Int))) (some (.bool ((a0.extract 0 (a1.size:Int).toNat).toList==a1.toList),[]))) (some (.bool false,[])):=(uI dQ rfl).trans (by kernel_rfl)
theorem bDD (a0:Int):SS.CC 299 [.int .u8 a0] []=jO SS.CC 266 [.int .u8 a0] fun r2=>vB r2 fun b1=>aA b1 (some (.bool true,[])) (jO SS.CC 268 [.int .u8 a0] fun r4=>vB r4 fun b3=>some (.bool b3,[])):=(uI dQ rfl).trans (by kernel_rfl)
theorem bCH (a0:Int):SS.CC 268 [.int .u8 a0] []=aA (decide (48<=a0)) (some (.bool (decide (a0<=57)),[])) (some (.bool false,[])):=(uI dQ rfl).trans (by kernel_rfl)
theorem bCF (a0:Int):SS.CC 266 [.int .u8 a0] []=aA (decide (97<=a0)) (aA (decide (a0<=122)) (some (.bool true,[])) (aA (decide (65<=a0)) (aA (decide (a0<=90)) (some (.bool true,[])) (some (.bool (a0==95),[]))) (some (.bool (a0==95),[])))) (aA (decide (65<=a0)) (aA (decide (a0<=90)) (some (.bool true,[])) (some (.bool (a0==95),[]))) (some (.bool (a0==95),[]))):=(uI dQ rfl).trans (by kernel_rfl)
theorem aKQ (a0:Int) (Gy:ByteArray) (Gz:Int) (aFA:Int) (aFB:Int) (bf:Int) (o7:Int) (lU:Int):SS.CC 204 [.agg [.int .i64 a0,.str Gy,.int .i64 Gz,.int .i64 aFA,.int .i64 aFB],.ptr 0 0,.ptr 1 0,.ptr 2 0] [some [.int .i64 bf],some [.int .i64 o7],some [.int .i64 lU]]=some (.agg [.int .i64 a0,.str Gy,.int .i64 Gz,.int .i64 bf,.int .i64 (i64.wrap ((i64.wrap (o7-lU))+1))],[some [.int .i64 bf],some [.int .i64 o7],some [.int .i64 lU]]):=(show SS.CC 204 [.agg [.int .i64 a0,.str Gy,.int .i64 Gz,.int .i64 aFA,.int .i64 aFB],.ptr 0 0,.ptr 1 0,.ptr 2 0] [some [.int .i64 bf],some [.int .i64 o7],some [.int .i64 lU]]=dD (dD (some (.agg [.int .i64 a0,.str Gy,.int .i64 Gz,.int .i64 bf,.int .i64 (i64.wrap ((i64.wrap (o7-lU))+1))],[some [.int .i64 bf],some [.int .i64 o7],some [.int .i64 lU]])) (some (.agg [.int .i64 a0,.str Gy,.int .i64 Gz,.int .i64 bf,.int .i64 (i64.wrap ((i64.wrap (o7-lU))+1))],[some [.int .i64 bf],some [.int .i64 o7],some [.int .i64 lU]]))) (dD (dD (some (.agg [.int .i64 a0,.str Gy,.int .i64 Gz,.int .i64 bf,.int .i64 (i64.wrap ((i64.wrap (o7-lU))+1))],[some [.int .i64 bf],some [.int .i64 o7],some [.int .i64 lU]])) (some (.agg [.int .i64 a0,.str Gy,.int .i64 Gz,.int .i64 bf,.int .i64 (i64.wrap ((i64.wrap (o7-lU))+1))],[some [.int .i64 bf],some [.int .i64 o7],some [.int .i64 lU]]))) (some (.agg [.int .i64 a0,.str Gy,.int .i64 Gz,.int .i64 bf,.int .i64 (i64.wrap ((i64.wrap (o7-lU))+1))],[some [.int .i64 bf],some [.int .i64 o7],some [.int .i64 lU]]))) from (uI dQ rfl).trans (by kernel_rfl)).trans (by simp only[DL])
abbrev lh (p:PV):R:=some (p,[])
theorem aN {p:Prop} [Decidable p] (h:p):decide p=true:=by simp[h]
theorem aW {p:Prop} [Decidable p] (h:¬ p):decide p=false:=by simp[h]
def bs (l:bZ'):ByteArray:=⟨l.toArray⟩
@[simp] theorem mf (l : bZ') : (bs l).size = l.length := by rfl
theorem H9 (l:bZ') (i:Nat):(bs l)[i]? = l[i]? := by
 by_cases h:i<l.length
 .rw[jU h];have:i<(bs l).size:=by simpa using h
  rw[getElem?_pos (bs l) i this];rfl
 simp_all
theorem HY (l:bZ'):(bs l).toList=l:=by rw[Qp];rfl
theorem SN (l:bZ') (a b:Nat):(bs l).extract a b=bs ((l.drop a).take (b-a)):=by apply ByteArray.ext;rw[ByteArray.data_extract];grind [bs]
theorem YE (s:ByteArray):bs s.data.toList=s:=by rfl
def isLet (n:Nat):Bool:=(decide (97<=n)&&decide (n<=122))||((decide (65<=n)&&decide (n<=90))||n==95)
def iG (n:Nat):Bool:=decide (48<=n)&&decide (n<=57)
def o8 (n:Nat):Bool:=isLet n||iG n
def yI (n:Nat):Bool:=n==32||(n==9||(n==13||n==10))
theorem Jg (n k:Nat):((n:Int)==(k:Int))=(n==k):=by rw[a4C,uH,uH]; omega
theorem Kw (k n:Nat):decide ((k:Int)<=(n:Int))=decide (k<=n):=by simp
theorem c78 (n:Nat):SS.CC 266 [.int .u8 n] []=lh (.bool (isLet n)):=by
 rw[bCF,show decide ((97:Int)<=n)=decide (97<=n) from Kw 97 n,show decide ((n:Int)<=122)=decide (n<=122) from Kw n 122,show decide ((65:Int)<=n)=decide (65<=n) from Kw 65 n,show decide ((n:Int)<=90)=decide (n<=90) from Kw n 90,
  show ((n:Int)==95)=(n==95) from Jg n 95]
 grind [O5,isLet]
theorem c80 (n:Nat):SS.CC 268 [.int .u8 n] []=lh (.bool (iG n)):=by rw[bCH,show decide ((48:Int)<=n)=decide (48<=n) from Kw 48 n,show decide ((n:Int)<=57)=decide (n<=57) from Kw n 57];grind [O5,iG]
theorem c91 (n:Nat):SS.CC 299 [.int .u8 n] []=lh (.bool (o8 n)):=by rw[bDD,qQ (c78 n),zu,qQ (c80 n),zu,O5,o8];cases isLet n<;>rfl
theorem c75 (n:Nat):SS.CC 263 [.int .u8 n] []=lh (.bool (yI n)):=by rw[bCC,show ((n:Int)==32)=(n==32) from Jg n 32,show ((n:Int)==9)=(n==9) from Jg n 9,show ((n:Int)==13)=(n==13) from Jg n 13,show ((n:Int)==10)=(n==10) from Jg n 10];grind [O5,yI]
theorem bU {k:Nat} (h:k<1000000000000000):i64.wrap ((k:Int)+1)=((k+1:Nat):Int):=by rw[wrap64 (by omega) (by omega)]; omega
def gZ (p:Nat->Bool) (l:bZ'):bZ':=l.takeWhile fun b=>p b.toNat
theorem aTF (p:Nat->Bool) (l:bZ'):(gZ p l).length<=l.length:=(List.takeWhile_sublist _).length_le
theorem aTG:∀ {k:Nat} {b:UInt8},l[k]? = some b->(∀ j c,j<k->l[j]? = some c->p c.toNat=true)->p b.toNat=false->gZ p l=l.take k:=by
 induction l with
 | nil=>simp
 | cons a l ih =>
  intro k b h h1 h2;cases k with
  | zero=>grind [gZ,List.takeWhile_cons]
  | succ k =>have ha:=h1 0 a (by omega) (by simp);have:=ih (k:=k) (b:=b) (by grind) (fun j c hj hc=>h1 (j+1) c (by omega) (by grind)) h2;grind [gZ,List.takeWhile_cons]
theorem Lp (h:∀ (j:Nat) c,l[j]? = some c->p c.toNat=true):gZ p l=l:=by
 induction l with
 | nil=>rfl
 | cons a l ih =>
  have ha:=h 0 a (by simp);have:=ih fun j c hc=>h (j+1) c (by grind)
  grind [gZ,List.takeWhile_cons]
theorem c90 (l:bZ') (hl:l.length<=1000000):SS.CC 298 [.str (bs l),.func (.func 299) [] []] []=lh (.str (bs (gZ o8 l))):=by
 rw[bDC];have key:∀ (m k:Nat),k+m=l.length->(∀ j c,j<k->l[j]? = some c->o8 c.toNat=true)->a00 (bs l) (k:Int)=lh (.str (bs (gZ o8 l))):=by
  intro m;induction m with
  | zero =>grind [aLH,mf,aC,Lp]
  | succ m ih =>
   intro k hk h;obtain ⟨b,hb⟩:∃ b,l[k]? = some b:=⟨l[k],jU (by omega)⟩;rw[aLH,aN (by rw[mf]; omega),aI,Ew (b:=b) (by omega) (by rw[H9]; simpa using hb),qQ (c91 b.toNat),zu,bU (by omega)];cases hw:o8 b.toNat with
   | true =>exact ih (k+1) (by omega) fun j c hj hc=>by grind
   | false =>rw[aTG hb h hw];simp only[BB,aI];rw[aQ (by simp; omega),SN];simp
 exact key l.length 0 (by omega) (by omega)
theorem aYY (l:bZ') (hl:l.length<=1000000):SS.CC 298 [.str (bs l),.func (.func 268) [] []] []=lh (.str (bs (gZ iG l))):=by
 rw[bD7];have key:∀ (m k:Nat),k+m=l.length->(∀ j c,j<k->l[j]? = some c->iG c.toNat=true)->Zz (bs l) (k:Int)=lh (.str (bs (gZ iG l))):=by
  intro m;induction m with
  | zero =>grind [aLD,mf,aC,Lp]
  | succ m ih =>
   intro k hk h;obtain ⟨b,hb⟩:∃ b,l[k]? = some b:=⟨l[k],jU (by omega)⟩;rw[aLD,aN (by rw[mf]; omega),aI,Ew (b:=b) (by omega) (by rw[H9]; simpa using hb),qQ (c80 b.toNat),zu,bU (by omega)];cases hw:iG b.toNat with
   | true =>exact ih (k+1) (by omega) fun j c hj hc=>by grind
   | false =>rw[aTG hb h hw];simp only[BB,aI];rw[aQ (by simp; omega),SN];simp
 exact key l.length 0 (by omega) (by omega)
structure Tok where
 kind:Int
 text:bZ'
 value:Int
 line:Int
 uq:Int
 deriving DecidableEq
def Tok.zero:Tok:=⟨0,[],0,0,0⟩
def bK (t:Tok):PV := .agg [.int .i64 t.kind,.str (bs t.text),.int .i64 t.value,.int .i64 t.line,.int .i64 t.uq]
def rd (r:Tok×Int):PV := .tuple [bK r.1,.int .i64 r.2]
def Ci (l:bZ'):Tok×Int:=if 32<(gZ o8 l).length then (.zero,15) else (⟨1,gZ o8 l,0,0,0⟩,0)
theorem c79 (l:bZ') (hl:l.length<=1000000):SS.CC 267 [.str (bs l)] []=lh (rd (Ci l)):=by
 rw[bCG,qQ (c90 l hl),jT,mf,show decide ((32:Int)<((gZ o8 l).length:Int))=decide (32<(gZ o8 l).length) by grind];unfold Ci;by_cases h:32<(gZ o8 l).length
 .rw[aN h,aX h]; rfl
 .rw[aW h,aV h]; rfl
def uS:bZ'->Nat->Option Nat
 | [],n=>some n
 | b::l,n=>if 65536<10*n+(b.toNat-48) then none else uS l (10*n+(b.toNat-48))
def CG (l:bZ'):Tok×Int :=
 if (gZ iG l).length<(gZ o8 l).length then (.zero,6)
 else if 1<(gZ iG l).length/\(gZ iG l)[0]? = some 48 then (.zero,6)
 else match uS (gZ iG l) 0 with
  | none=>(.zero,2)
  | some n=>(⟨2,gZ iG l,n,0,0⟩,0)
theorem aO7 {n:Nat}:iG n=true↔48<=n/\n<=57:=by simp[iG]
theorem a'N {b:UInt8} (h:iG b.toNat=true):i64.wrap (IntKind.u8.wrap ((b.toNat:Int)-48))=((b.toNat-48:Nat):Int):=by obtain ⟨h1,h2⟩:=aO7.1 h;rw[show IntKind.u8.wrap ((b.toNat:Int)-48)=(b.toNat:Int)-48 by grind [IntKind.wrap,IntKind.bits]];rw[wrap64 (by omega) (by omega)]; omega
theorem bRN {b:UInt8} (h:b∈gZ p l):p b.toNat=true:=by
 induction l with
 | nil=>cases h
 | cons a l ih =>grind [gZ,List.takeWhile_cons]
theorem aYX (l:bZ') (hd:∀ b,b∈l->iG b.toNat=true) (hl:l.length<=1000000):∀ (m k n:Nat),k+m=l.length->n<=65536 ->
 Zw (bs l) (n:Int) (k:Int)=(match uS (l.drop k) n with | none=>lh (rd (.zero,2)) | some v=>lh (rd (⟨2,l,v,0,0⟩,0))):=by
 intro m;induction m with
 | zero =>intro k n hk hn;rw[aL6,aW (by rw[mf]; omega),aC,JI (by omega)];rfl
 | succ m ih =>
  intro k n hk hn;obtain ⟨b,hb⟩:∃ b,l[k]? = some b:=⟨l[k],jU (by omega)⟩;have hdb:=hd b (nZ hb);obtain ⟨h1,h2⟩:=aO7.1 hdb;have hdrop:l.drop k=b::l.drop (k+1):=by grind [List.drop_eq_getElem_cons]
  rw[aL6,aN (by rw[mf]; omega),aI,Ew (b:=b) (by omega) (by rw[H9]; simpa using hb),a'N hdb,wrap64 (n:=10*(n:Int)) (by omega) (by omega),wrap64 (by omega) (by omega),bU (by omega),hdrop,uS];by_cases hv:65536<10*n+(b.toNat-48)
  .rw[aN (by omega),aI,aX hv]; rfl
  grind [aC]
theorem c81 (l:bZ') (hl:l.length<=1000000):SS.CC 269 [.str (bs l)] []=lh (rd (CG l)):=by
 have hr:=aTF iG l;have key:Zv (bs (gZ iG l))=(match uS (gZ iG l) 0 with | none=>lh (rd (.zero,2)) | some v=>lh (rd (⟨2,gZ iG l,v,0,0⟩,0))):=by have:=aYX (gZ iG l) (fun b hb=>bRN hb) (by omega) (gZ iG l).length 0 0 (by omega) (by omega);rw[bCI]; exact this
 have fin:(match uS (gZ iG l) 0 with | none=>lh (rd (.zero,2)) | some v=>lh (rd (⟨2,gZ iG l,v,0,0⟩,0)))=lh (rd (match uS (gZ iG l) 0 with | none=>(.zero,2) | some n=>(⟨2,gZ iG l,n,0,0⟩,0))):=by cases uS (gZ iG l) 0<;>rfl
 rw[bCN,qQ (aYY l hl),jT,qQ (c90 l hl),jT,mf,mf];unfold CG;by_cases h1:(gZ iG l).length<(gZ o8 l).length
 .rw[aN (by omega),aI,aX h1]; rfl
 .rw[aW (by omega),aC,aV h1];by_cases h2:1<(gZ iG l).length
  .obtain ⟨b,hb⟩:∃ b,(gZ iG l)[0]? = some b:=⟨(gZ iG l)[0],jU (by omega)⟩;rw[aN (by omega),aI,Ew (b:=b) (by omega) (by rw[H9]; grind),hb];rw[show ((b.toNat:Int)==48)=(b.toNat==48) from Jg b.toNat 48];by_cases h3:b=48
   .subst h3;rw[aX ⟨h2,rfl⟩]; rfl
   .have:b.toNat≠48:=fun e=>h3 (UInt8.toNat_inj.1 (by rw[e]; rfl))
    rw[aV (fun h=>h3 (by simp_all)),show (b.toNat==48)=false by simp_all,aC,key,fin]
  grind [aC]
def jS:List (bZ') := [[45,62],[58,61],[61,61],[33,61],[60,61],[62,61],[46,46],[38,38],[124,124],[123],[125],[40],[41],[91],[93],[44],[59],[58],[61],[60],[62],[43],[45],[42],[33],[63]]
def Ce (l:bZ'):Option (bZ'):=jS.find? fun x=>x.isPrefixOf l
def Eb (l:bZ'):Tok×Int:=match Ce l with
 | some x=>(⟨3,x,0,0,0⟩,0)
 | none=>(.zero,14)
theorem aSN:∀ (x l:bZ'),(decide (x.length<=l.length)&&(l.take x.length==x))=x.isPrefixOf l
 | [],l=>by simp
 | a::x,[]=>by simp
 | a::x,b::l=>by have:=aSN x l;grind
theorem c87 (l x:bZ'):SS.CC 279 [.str (bs l),.str (bs x)] []=lh (.bool (x.isPrefixOf l)):=by
 rw[b8L,<- aSN,mf,mf,show decide ((x.length:Int)<=(l.length:Int))=decide (x.length<=l.length) from Kw _ _];by_cases h:x.length<=l.length;grind [aI,aQ,SN,HY]
 .rw[aW h]; rfl
theorem c69 (l x:bZ'):SS.CC 216 [.str (bs l),.str (bs x)] []=lh (.bool (x.isPrefixOf l)):=by rw[b1M,qQ (c87 l x),zu]
theorem c77:SS.CC 265 [] []=lh (.sl false 1 (jS.map fun x => .str (bs x))):=bCE
theorem aYW (l:bZ') (xs:List (bZ')) (hx:xs.length<=1000):∀ (m k:Nat),k+m=xs.length ->
 Ze (bs l) (xs.map fun x => .str (bs x)) (k:Int)=lh (rd (match (xs.drop k).find? (fun x=>x.isPrefixOf l) with | some x=>(⟨3,x,0,0,0⟩,0) | none=>(.zero,14))):=by
 intro m;induction m with
 | zero =>intro k hk;rw[aKS,aW (by rw[bF]; omega),aC,JI (by omega)];rfl
 | succ m ih =>
  intro k hk;have hk':k<xs.length:=by omega
  rw[aKS,aN (by rw[bF]; omega),aI,nS (e := .str (bs xs[k])) (by omega) (by simp[hk']),jT,qQ (c69 l xs[k]),zu,bU (by omega),D5 hk',List.find?_cons];cases xs[k].isPrefixOf l with
  | true=>rfl
  | false=>exact ih (k+1) (by omega)
theorem c61 (l:bZ'):SS.CC 205 [.str (bs l)] []=lh (rd (Eb l)):=by rw[bAE,qQ c77,aVU];exact aYW l jS (by decide) jS.length 0 (by omega)
def jD:Bool->bZ'->Nat
 | _,[]=>0
 | true,b::l=>if b=10 then 1+jD false l else 1+jD true l
 | false,b::l=>if yI b.toNat then 1+jD false l else if [47,47].isPrefixOf (b::l) then 1+jD true l else 0
theorem bSQ (l:bZ'):if Lib.indexByte l 10<0 then jD true l=l.length else ∃ j:Nat,Lib.indexByte l 10=j/\j<l.length/\jD true l=j+jD false (l.drop j):=by
 induction l with
 | nil=>rfl
 | cons b l ih =>
  have hge:=Lib.indexByte_ge l 10;rw[Lib.indexByte];by_cases hb:b=10
  .subst hb;grind [jD,yI]
  .have hbb:(b==10)=false:=by grind
   simp only[hbb,Qo,if_false];by_cases h:Lib.indexByte l 10<0;grind [jD]
   .rw[aV h] at ih;obtain ⟨j,h1,h2,h3⟩:=ih;have:(Lib.indexByte l 10 == -1)=false:=by simp; omega
    rw[this];simp only[Qo,if_false];rw[aV (by omega)];exact ⟨j+1,by omega,by simp; omega,by grind [jD]⟩
theorem c76 (l:bZ'):SS.CC 264 [.str (bs l),.int .u8 10] []=lh (.int .i64 (Lib.indexByte l 10)):=by
 have h89:SS.CC 252 [.str (bs l),.int .u8 10] []=lh (.int .i64 (Lib.indexByte l 10)):=by rw[JU dQ]; rfl
 rw[bCD,qQ h89,ui]
theorem c59 (l:bZ') (hl:l.length<=1000000):SS.CC 203 [.str (bs l)] []=lh (.int .i64 ((jD false l:Nat):Int)):=by
 rw[bA9];have key:∀ (m k:Nat),l.length<=k+m->k<=l.length->U3 (bs l) (k:Int)=lh (.int .i64 ((k+jD false (l.drop k):Nat):Int)):=by
  intro m;induction m with
  | zero =>intro k hk hk2;rw[aKN,aW (by rw[mf]; omega),aC,JI (by omega)];rfl
  | succ m ih =>
   intro k hk hk2;by_cases hlt:k<l.length
   .have hdrop:l.drop k=l[k]::l.drop (k+1):=D5 hlt;have he:(bs l).extract k l.length=bs (l.drop k):=by rw[SN,Qw (by simp)]
    rw[aKN,aN (by rw[mf]; omega),aI,Ew (b:=l[k]) (by omega) (by rw[H9]; simp[hlt]),qQ (c75 _),zu,mf,pG,he,show (⟨#[47,47]⟩:ByteArray)=bs [47,47] from rfl,qQ (c69 _ _),zu,qQ (c76 _),ui,bU (by omega)];cases hb:yI l[k].toNat with
    | true =>rw[aI,ih (k+1) (by omega) (by omega),hdrop,jD,aX hb];grind
    | false =>
     rw[aC,aQ (by simp; omega)];cases hp : [47,47].isPrefixOf (l.drop k) with
     | false =>rw[aC];grind [jD]
     | true =>
      rw[aI,aQ (by simp; omega)];have hs:jD false (l.drop k)=jD true (l.drop k):=by rw[hdrop] at hp ⊢;grind [jD]
      have hi:=bSQ (l.drop k);rw[hs];by_cases h0:Lib.indexByte (l.drop k) 10<0;simp_all
      .rw[aV h0] at hi;obtain ⟨j,h1,h2,h3⟩:=hi;have hj:0<j:=by grind [Lib.indexByte]
       simp at h2;rw[aW h0,aC,h1,wrap64 (by omega) (by omega),show ((k:Int)+(j:Int))=((k+j:Nat):Int) by omega,ih (k+j) (by omega) (by omega),h3,Qr];grind
   grind
 have:=key l.length 0 (by omega) (by omega);simp_all
def opsOf:Code->Array Oper | .region _ ops _=>ops | _ => #[]
def iK:Code:=qh Tryz.f202
def LU:AE:=SS.ae 202 86
def Ai:XE:=SS.xe SS.CC SS.LL LU 7
def bNU:Code:=Code.sub [false,true,true,false,false,false,false] iK
theorem bNV (l:Nat) (K:AX->ASt->R) (s:ByteArray) (L:bZZ) (c1:Int) (c2:Int) (c3:Int) (line:Int) (start:Int) (at_:Int):bH Ai bNU K ⟨[(0,.func (.yield l) [] []),(1,.cst (.str s)),(3,.ptr 4 0),(4,.ptr 5 0),(5,.ptr 6 0)],[some [.sl true 5 L],some [.int .i64 c1],some [.int .i64 c2],some [.int .i64 c3],some [.int .i64 line],some [.int .i64 start],some [.int .i64 at_]]⟩=chk (decide (0<=at_)&&decide (at_<=(s.size:Int))) (jO SS.CC 203 [.str (s.extract at_.toNat s.size)] fun r2=>vI .i64 r2 fun n1=>K .normal ⟨[(0,.func (.yield l) [] []),(1,.cst (.str s)),(3,.ptr 4 0),(4,.ptr 5 0),(5,.ptr 6 0),(6,.int .i64 n1),(14,.str s),(15,.int .i64 at_),(16,.str (s.extract at_.toNat s.size)),(17,.int .i64 n1)],[some [.sl true 5 L],some [.int .i64 c1],some [.int .i64 c2],some [.int .i64 c3],some [.int .i64 line],some [.int .i64 start],some [.int .i64 at_]]⟩):=by kernel_rfl
def aS9:Code:=qh Tryz.f202
def aS7:AE:=SS.ae 202 86
def bNX:XE:=SS.xe SS.CC SS.LL aS7 7
def bNY:Code:=Code.sub [false,true,true,false,false,false,true,false] aS9
def bNW (K:AX->ASt->R):AX->ASt->R:=ak 2 K
def bNZ:Code:=Code.sub [false,true,true,false,false,false,true,false,true,false,false] aS9
def VS (l:Nat) (K:AX->ASt->R) (x1:ByteArray) (x6:Int) (x7:Int) (aJ:bZZ) (eQ:Int) (fB:Int) (dJ:Int) (Ag:Int) (zi:Int) (FZ:Int):R:=SS.LL aS7 7 [0,1,3,4,5,6,7] 7 bNZ (bNW K) ⟨[(0,.func (.yield l) [] []),(1,.cst (.str x1)),(3,.ptr 4 0),(4,.ptr 5 0),(5,.ptr 6 0),(6,.int .i64 x6),(7,.int .i64 x7)],[some [.sl true 5 aJ],some [.int .i64 eQ],some [.int .i64 fB],some [.int .i64 dJ],some [.int .i64 Ag],some [.int .i64 zi],some [.int .i64 FZ]]⟩
theorem aS8 (l:Nat) (K:AX->ASt->R) (x1:ByteArray) (x6:Int) (x7:Int) (aJ:bZZ) (eQ:Int) (fB:Int) (dJ:Int) (Ag:Int) (zi:Int) (FZ:Int):VS l K x1 x6 x7 aJ eQ fB dJ Ag zi FZ=aA (decide (x7<(i64.wrap (FZ+x6)))) (vw x1 x7 fun c1=>aA (c1==10) (VS l K x1 x6 (i64.wrap (x7+1)) aJ eQ fB dJ (i64.wrap (Ag+1)) (i64.wrap (x7+1)) FZ) (VS l K x1 x6 (i64.wrap (x7+1)) aJ eQ fB dJ Ag zi FZ)) (K .normal ⟨[(0,.func (.yield l) [] []),(1,.cst (.str x1)),(3,.ptr 4 0),(4,.ptr 5 0),(5,.ptr 6 0),(6,.int .i64 x6),(7,.int .i64 x7),(19,.int .i64 x7),(20,.int .i64 FZ),(21,.int .i64 x6),(22,.int .i64 (i64.wrap (FZ+x6))),(23,.bool false)],[some [.sl true 5 aJ],some [.int .i64 eQ],some [.int .i64 fB],some [.int .i64 dJ],some [.int .i64 Ag],some [.int .i64 zi],some [.int .i64 FZ]]⟩):=(DI dQ (by decide) (by kernel_rfl) (by kernel_rfl)).trans (by kernel_rfl)
theorem bN' (l:Nat) (K:AX->ASt->R) (s:ByteArray) (g:Int) (L:bZZ) (c1:Int) (c2:Int) (c3:Int) (line:Int) (start:Int) (at_:Int):bH bNX bNY K ⟨[(0,.func (.yield l) [] []),(1,.cst (.str s)),(3,.ptr 4 0),(4,.ptr 5 0),(5,.ptr 6 0),(6,.int .i64 g)],[some [.sl true 5 L],some [.int .i64 c1],some [.int .i64 c2],some [.int .i64 c3],some [.int .i64 line],some [.int .i64 start],some [.int .i64 at_]]⟩=VS l K s g at_ L c1 c2 c3 line start at_:=by kernel_rfl
def bO2:Code:=qh Tryz.f202
def bO0:AE:=SS.ae 202 86
def bO1:XE:=SS.xe SS.CC SS.LL bO0 7
def bO3:Code:=Code.sub [false,true,true,false,false,false,true,true,false] bO2
theorem bO4 (l:Nat) (K:AX->ASt->R) (s:ByteArray) (g:Int) (L:bZZ) (c1:Int) (c2:Int) (c3:Int) (line:Int) (start:Int) (at_:Int):bH bO1 bO3 K ⟨[(0,.func (.yield l) [] []),(1,.cst (.str s)),(3,.ptr 4 0),(4,.ptr 5 0),(5,.ptr 6 0),(6,.int .i64 g)],[some [.sl true 5 L],some [.int .i64 c1],some [.int .i64 c2],some [.int .i64 c3],some [.int .i64 line],some [.int .i64 start],some [.int .i64 at_]]⟩=K .normal ⟨[(0,.func (.yield l) [] []),(1,.cst (.str s)),(3,.ptr 4 0),(4,.ptr 5 0),(5,.ptr 6 0),(6,.int .i64 g),(34,.int .i64 at_),(35,.int .i64 g),(36,.int .i64 (i64.wrap (at_+g)))],[some [.sl true 5 L],some [.int .i64 c1],some [.int .i64 c2],some [.int .i64 c3],some [.int .i64 line],some [.int .i64 start],some [.int .i64 (i64.wrap (at_+g))]]⟩:=by kernel_rfl
def bO7:Code:=qh Tryz.f202
def bO5:AE:=SS.ae 202 86
def bO6:XE:=SS.xe SS.CC SS.LL bO5 7
def bO8:Code:=Code.sub [false,true,true,false,false,false,true,true,true,false] bO7
theorem bO9 (l:Nat) (K:AX->ASt->R) (s:ByteArray) (L:bZZ) (c1:Int) (c2:Int) (c3:Int) (line:Int) (start:Int) (at_:Int):bH bO6 bO8 K ⟨[(0,.func (.yield l) [] []),(1,.cst (.str s)),(3,.ptr 4 0),(4,.ptr 5 0),(5,.ptr 6 0)],[some [.sl true 5 L],some [.int .i64 c1],some [.int .i64 c2],some [.int .i64 c3],some [.int .i64 line],some [.int .i64 start],some [.int .i64 at_]]⟩=K .normal ⟨[(0,.func (.yield l) [] []),(1,.cst (.str s)),(3,.ptr 4 0),(4,.ptr 5 0),(5,.ptr 6 0),(8,.func (.func 204) [] [.ptr 4 0,.ptr 6 0,.ptr 5 0]),(37,.func (.func 204) [] [.ptr 4 0,.ptr 6 0,.ptr 5 0])],[some [.sl true 5 L],some [.int .i64 c1],some [.int .i64 c2],some [.int .i64 c3],some [.int .i64 line],some [.int .i64 start],some [.int .i64 at_]]⟩:=by kernel_rfl
def bOC:Code:=qh Tryz.f202
def bOA:AE:=SS.ae 202 86
def bOB:XE:=SS.xe SS.CC SS.LL bOA 7
def bOD:Code:=Code.sub [false,true,true,false,false,false,true,true,true,true,false,false] bOC
theorem aSA (l:Nat) (K:AX->ASt->R) (s:ByteArray) (L:bZZ) (c1:Int) (c2:Int) (c3:Int) (line:Int) (start:Int) (at_:Int):bH bOB bOD K ⟨[(0,.func (.yield l) [] []),(1,.cst (.str s)),(3,.ptr 4 0),(4,.ptr 5 0),(5,.ptr 6 0),(8,.func (.func 204) [] [.ptr 4 0,.ptr 6 0,.ptr 5 0])],[some [.sl true 5 L],some [.int .i64 c1],some [.int .i64 c2],some [.int .i64 c3],some [.int .i64 line],some [.int .i64 start],some [.int .i64 at_]]⟩=K .normal ⟨[(0,.func (.yield l) [] []),(1,.cst (.str s)),(3,.ptr 4 0),(4,.ptr 5 0),(5,.ptr 6 0),(8,.func (.func 204) [] [.ptr 4 0,.ptr 6 0,.ptr 5 0]),(38,.int .i64 at_),(39,.str s),(40,.int .i64 (s.size:Int)),(41,.bool (at_==(s.size:Int)))],[some [.sl true 5 L],some [.int .i64 c1],some [.int .i64 c2],some [.int .i64 c3],some [.int .i64 line],some [.int .i64 start],some [.int .i64 at_]]⟩:=by kernel_rfl
def bOF:Code:=qh Tryz.f202
def bOE:AE:=SS.ae 202 86
def aSB:XE:=SS.xe SS.CC SS.LL bOE 7
def a2H:Code:=Code.sub [false,true,true,false,false,false,true,true,true,true,false,true,false,false] bOF
theorem bOG (l:Nat) (K:AX->ASt->R) (s:ByteArray) (L:bZZ) (c1:Int) (c2:Int) (c3:Int) (line:Int) (start:Int) (at_:Int):jm aSB false (opsOf a2H) (((opsOf a2H).toList.drop 0).take 4) (K .normal) ⟨[(0,.func (.yield l) [] []),(1,.cst (.str s)),(3,.ptr 4 0),(4,.ptr 5 0),(5,.ptr 6 0),(8,.func (.func 204) [] [.ptr 4 0,.ptr 6 0,.ptr 5 0])],[some [.sl true 5 L],some [.int .i64 c1],some [.int .i64 c2],some [.int .i64 c3],some [.int .i64 line],some [.int .i64 start],some [.int .i64 at_]]⟩=AO SS.CC 204 [.agg [.int .i64 4,.str ⟨#[]⟩,.int .i64 0,.int .i64 0,.int .i64 0],.ptr 0 0,.ptr 1 0,.ptr 2 0] [some [.int .i64 line],some [.int .i64 at_],some [.int .i64 start]] fun r9 h10=>KO r9 h10 fun n1 s2 n3 n4 n5 n6 n7 n8=>K .normal ⟨[(0,.func (.yield l) [] []),(1,.cst (.str s)),(3,.ptr 4 0),(4,.ptr 5 0),(5,.ptr 6 0),(8,.func (.func 204) [] [.ptr 4 0,.ptr 6 0,.ptr 5 0]),(42,.func (.yield l) [] []),(43,.func (.func 204) [] [.ptr 4 0,.ptr 6 0,.ptr 5 0]),(44,.agg [.int .i64 4,.str ⟨#[]⟩,.int .i64 0,.int .i64 0,.int .i64 0]),(45,.agg [.int .i64 n1,.str s2,.int .i64 n3,.int .i64 n4,.int .i64 n5])],[some [.sl true 5 L],some [.int .i64 c1],some [.int .i64 c2],some [.int .i64 c3],some [.int .i64 n6],some [.int .i64 n8],some [.int .i64 n7]]⟩:=by kernel_rfl
def bOJ:Code:=qh Tryz.f202
def bOH:AE:=SS.ae 202 86
def bOI:XE:=SS.xe SS.CC SS.LL bOH 7
def bOK:Code:=Code.sub [false,true,true,false,false,false,true,true,true,true,true,false] bOJ
theorem bOL (l:Nat) (K:AX->ASt->R) (s:ByteArray) (L:bZZ) (c1:Int) (c2:Int) (c3:Int) (line:Int) (start:Int) (at_:Int):bH bOI bOK K ⟨[(0,.func (.yield l) [] []),(1,.cst (.str s)),(3,.ptr 4 0),(4,.ptr 5 0),(5,.ptr 6 0),(8,.func (.func 204) [] [.ptr 4 0,.ptr 6 0,.ptr 5 0])],[some [.sl true 5 L],some [.int .i64 c1],some [.int .i64 c2],some [.int .i64 c3],some [.int .i64 line],some [.int .i64 start],some [.int .i64 at_]]⟩=K .normal ⟨[(0,.func (.yield l) [] []),(1,.cst (.str s)),(3,.ptr 4 0),(4,.ptr 5 0),(5,.ptr 6 0),(8,.func (.func 204) [] [.ptr 4 0,.ptr 6 0,.ptr 5 0]),(9,.func (.func 205) [] [])],[some [.sl true 5 L],some [.int .i64 c1],some [.int .i64 c2],some [.int .i64 c3],some [.int .i64 line],some [.int .i64 start],some [.int .i64 at_]]⟩:=by kernel_rfl
def bOO:Code:=qh Tryz.f202
def bOM:AE:=SS.ae 202 86
def bON:XE:=SS.xe SS.CC SS.LL bOM 7
def bOP:Code:=Code.sub [false,true,true,false,false,false,true,true,true,true,true,true,true,false] bOO
theorem bOQ (l:Nat) (K:AX->ASt->R) (s:ByteArray) (L:bZZ) (c1:Int) (c2:Int) (c3:Int) (line:Int) (start:Int) (at_:Int):bH bON bOP K ⟨[(0,.func (.yield l) [] []),(1,.cst (.str s)),(3,.ptr 4 0),(4,.ptr 5 0),(5,.ptr 6 0),(8,.func (.func 204) [] [.ptr 4 0,.ptr 6 0,.ptr 5 0]),(9,.func (.func 205) [] [])],[some [.sl true 5 L],some [.int .i64 c1],some [.int .i64 c2],some [.int .i64 c3],some [.int .i64 line],some [.int .i64 start],some [.int .i64 at_]]⟩=chk (decide (0<=at_)&&decide (at_<=(s.size:Int))) (jO SS.CC 205 [.str (s.extract at_.toNat s.size)] fun r7=>Ec r7 fun n1 s2 n3 n4 n5 n6=>K .normal ⟨[(0,.func (.yield l) [] []),(1,.cst (.str s)),(3,.ptr 4 0),(4,.ptr 5 0),(5,.ptr 6 0),(8,.func (.func 204) [] [.ptr 4 0,.ptr 6 0,.ptr 5 0]),(9,.func (.func 205) [] []),(12,.ptr 7 0),(13,.int .i64 n6),(62,.tuple [.agg [.int .i64 n1,.str s2,.int .i64 n3,.int .i64 n4,.int .i64 n5],.int .i64 n6]),(63,.func (.func 205) [] []),(64,.str s),(65,.int .i64 at_),(66,.str (s.extract at_.toNat s.size)),(67,.tuple [.agg [.int .i64 n1,.str s2,.int .i64 n3,.int .i64 n4,.int .i64 n5],.int .i64 n6]),(68,.agg [.int .i64 n1,.str s2,.int .i64 n3,.int .i64 n4,.int .i64 n5]),(69,.int .i64 n6)],[some [.sl true 5 L],some [.int .i64 c1],some [.int .i64 c2],some [.int .i64 c3],some [.int .i64 line],some [.int .i64 start],some [.int .i64 at_],some [.int .i64 n1,.str s2,.int .i64 n3,.int .i64 n4,.int .i64 n5]]⟩):=by kernel_rfl
def bOT:Code:=qh Tryz.f202
def bOR:AE:=SS.ae 202 86
def bOS:XE:=SS.xe SS.CC SS.LL bOR 7
def bOU:Code:=Code.sub [false,true,true,false,false,false,true,true,true,true,true,true,true,false] bOT
theorem bOV (l:Nat) (K:AX->ASt->R) (s:ByteArray) (L:bZZ) (c1:Int) (c2:Int) (c3:Int) (line:Int) (start:Int) (at_:Int):bH bOS bOU K ⟨[(0,.func (.yield l) [] []),(1,.cst (.str s)),(3,.ptr 4 0),(4,.ptr 5 0),(5,.ptr 6 0),(8,.func (.func 204) [] [.ptr 4 0,.ptr 6 0,.ptr 5 0]),(9,.func (.func 267) [] [])],[some [.sl true 5 L],some [.int .i64 c1],some [.int .i64 c2],some [.int .i64 c3],some [.int .i64 line],some [.int .i64 start],some [.int .i64 at_]]⟩=chk (decide (0<=at_)&&decide (at_<=(s.size:Int))) (jO SS.CC 267 [.str (s.extract at_.toNat s.size)] fun r7=>Ec r7 fun n1 s2 n3 n4 n5 n6=>K .normal ⟨[(0,.func (.yield l) [] []),(1,.cst (.str s)),(3,.ptr 4 0),(4,.ptr 5 0),(5,.ptr 6 0),(8,.func (.func 204) [] [.ptr 4 0,.ptr 6 0,.ptr 5 0]),(9,.func (.func 267) [] []),(12,.ptr 7 0),(13,.int .i64 n6),(62,.tuple [.agg [.int .i64 n1,.str s2,.int .i64 n3,.int .i64 n4,.int .i64 n5],.int .i64 n6]),(63,.func (.func 267) [] []),(64,.str s),(65,.int .i64 at_),(66,.str (s.extract at_.toNat s.size)),(67,.tuple [.agg [.int .i64 n1,.str s2,.int .i64 n3,.int .i64 n4,.int .i64 n5],.int .i64 n6]),(68,.agg [.int .i64 n1,.str s2,.int .i64 n3,.int .i64 n4,.int .i64 n5]),(69,.int .i64 n6)],[some [.sl true 5 L],some [.int .i64 c1],some [.int .i64 c2],some [.int .i64 c3],some [.int .i64 line],some [.int .i64 start],some [.int .i64 at_],some [.int .i64 n1,.str s2,.int .i64 n3,.int .i64 n4,.int .i64 n5]]⟩):=by kernel_rfl
def bOY:Code:=qh Tryz.f202
def bOW:AE:=SS.ae 202 86
def bOX:XE:=SS.xe SS.CC SS.LL bOW 7
def bOZ:Code:=Code.sub [false,true,true,false,false,false,true,true,true,true,true,true,true,false] bOY
theorem bO' (l:Nat) (K:AX->ASt->R) (s:ByteArray) (L:bZZ) (c1:Int) (c2:Int) (c3:Int) (line:Int) (start:Int) (at_:Int):bH bOX bOZ K ⟨[(0,.func (.yield l) [] []),(1,.cst (.str s)),(3,.ptr 4 0),(4,.ptr 5 0),(5,.ptr 6 0),(8,.func (.func 204) [] [.ptr 4 0,.ptr 6 0,.ptr 5 0]),(9,.func (.func 269) [] [])],[some [.sl true 5 L],some [.int .i64 c1],some [.int .i64 c2],some [.int .i64 c3],some [.int .i64 line],some [.int .i64 start],some [.int .i64 at_]]⟩=chk (decide (0<=at_)&&decide (at_<=(s.size:Int))) (jO SS.CC 269 [.str (s.extract at_.toNat s.size)] fun r7=>Ec r7 fun n1 s2 n3 n4 n5 n6=>K .normal ⟨[(0,.func (.yield l) [] []),(1,.cst (.str s)),(3,.ptr 4 0),(4,.ptr 5 0),(5,.ptr 6 0),(8,.func (.func 204) [] [.ptr 4 0,.ptr 6 0,.ptr 5 0]),(9,.func (.func 269) [] []),(12,.ptr 7 0),(13,.int .i64 n6),(62,.tuple [.agg [.int .i64 n1,.str s2,.int .i64 n3,.int .i64 n4,.int .i64 n5],.int .i64 n6]),(63,.func (.func 269) [] []),(64,.str s),(65,.int .i64 at_),(66,.str (s.extract at_.toNat s.size)),(67,.tuple [.agg [.int .i64 n1,.str s2,.int .i64 n3,.int .i64 n4,.int .i64 n5],.int .i64 n6]),(68,.agg [.int .i64 n1,.str s2,.int .i64 n3,.int .i64 n4,.int .i64 n5]),(69,.int .i64 n6)],[some [.sl true 5 L],some [.int .i64 c1],some [.int .i64 c2],some [.int .i64 c3],some [.int .i64 line],some [.int .i64 start],some [.int .i64 at_],some [.int .i64 n1,.str s2,.int .i64 n3,.int .i64 n4,.int .i64 n5]]⟩):=by kernel_rfl
def RL:bZZ := [.agg [.func (.func 266) [] [],.func (.func 267) [] []],.agg [.func (.func 268) [] [],.func (.func 269) [] []]]
theorem c62:SS.CC 206 [] []=lh (.sl false 2 RL):=bAF
def aAQ:Code:=Code.sub [false,true,true,false,false,false,true,true,true,true,true,true,false] iK
def aSD:Code:=Code.sub [false,true,true,false,false,false,true,true,true,true,true,true,false,true,false,false] iK
abbrev mg:PV := .func (.func 204) [] [.ptr 4 0,.ptr 6 0,.ptr 5 0]
abbrev lZ (L:bZZ) (c1 c2 c3 line start at_:Int):aG := [some [.sl true 5 L],some [.int .i64 c1],some [.int .i64 c2],some [.int .i64 c3],some [.int .i64 line],some [.int .i64 start],some [.int .i64 at_]]
def L8 (l:Nat) (K:AX->ASt->R) (L:bZZ) (c1 c2 c3:Int) (s:ByteArray) (line start at_:Int) (f9:Nat) (i:Int):R :=SS.LL LU 7 [0,1,3,4,5,8,9,47,48,49] 7 aSD (ak 4 K) ⟨[(0,.func (.yield l) [] []),(1,.cst (.str s)),(3,.ptr 4 0),(4,.ptr 5 0),(5,.ptr 6 0),(8,mg),(9,.func (.func f9) [] []),(47,.sl false 2 RL),(48,.int .i64 (RL.length:Int)),(49,.int .i64 i)],lZ L c1 c2 c3 line start at_⟩
theorem aX2 (l:Nat) (K:AX->ASt->R) (L:bZZ) (c1 c2 c3:Int) (s:ByteArray) (line start at_:Int) :
 bH Ai aAQ K ⟨[(0,.func (.yield l) [] []),(1,.cst (.str s)),(3,.ptr 4 0),(4,.ptr 5 0),(5,.ptr 6 0),(8,mg),(9,.func (.func 205) [] [])],lZ L c1 c2 c3 line start at_⟩=L8 l K L c1 c2 c3 s line start at_ 205 0:=by
 have:bH Ai aAQ K ⟨[(0,.func (.yield l) [] []),(1,.cst (.str s)),(3,.ptr 4 0),(4,.ptr 5 0),(5,.ptr 6 0),(8,mg),(9,.func (.func 205) [] [])],lZ L c1 c2 c3 line start at_⟩=jO SS.CC 206 [] fun r2=>vL false 2 r2 fun l1=>SS.LL LU 7 [0,1,3,4,5,8,9,47,48,49] 7 aSD (ak 4 K) ⟨[(0,.func (.yield l) [] []),(1,.cst (.str s)),(3,.ptr 4 0),(4,.ptr 5 0),(5,.ptr 6 0),(8,mg),(9,.func (.func 205) [] []),(47,.sl false 2 l1),(48,.int .i64 (l1.length:Int)),(49,.int .i64 0)],lZ L c1 c2 c3 line start at_⟩:=by kernel_rfl
 rw[this,qQ c62,aVU]; rfl
theorem aW' (l:Nat) (K:AX->ASt->R) (L:bZZ) (c1 c2 c3:Int) (s:ByteArray) (line start at_:Int) (f9:Nat):L8 l K L c1 c2 c3 s line start at_ f9 0=vw s at_ fun c=>jO SS.CC 266 [.int .u8 c] fun r=>vB r fun b=>aA b (L8 l K L c1 c2 c3 s line start at_ 267 1) (L8 l K L c1 c2 c3 s line start at_ f9 1):=(DI dQ (by decide) (by kernel_rfl) (by kernel_rfl)).trans (by kernel_rfl)
theorem aX0 (l:Nat) (K:AX->ASt->R) (L:bZZ) (c1 c2 c3:Int) (s:ByteArray) (line start at_:Int) (f9:Nat):L8 l K L c1 c2 c3 s line start at_ f9 1=vw s at_ fun c=>jO SS.CC 268 [.int .u8 c] fun r=>vB r fun b=>aA b (L8 l K L c1 c2 c3 s line start at_ 269 2) (L8 l K L c1 c2 c3 s line start at_ f9 2):=(DI dQ (by decide) (by kernel_rfl) (by kernel_rfl)).trans (by kernel_rfl)
theorem aX1 (l:Nat) (K:AX->ASt->R) (L:bZZ) (c1 c2 c3:Int) (s:ByteArray) (line start at_:Int) (f9:Nat):L8 l K L c1 c2 c3 s line start at_ f9 2=K .normal ⟨[(0,.func (.yield l) [] []),(1,.cst (.str s)),(3,.ptr 4 0),(4,.ptr 5 0),(5,.ptr 6 0),(8,mg),(9,.func (.func f9) [] []),(47,.sl false 2 RL),(48,.int .i64 (RL.length:Int)),(49,.int .i64 2),(50,.bool false)],lZ L c1 c2 c3 line start at_⟩:=(DI dQ (by decide) (by kernel_rfl) (by kernel_rfl)).trans (by kernel_rfl)
end Go.Proofs.YtilpiopkekkbiaaGreatDoor
namespace Go.Proofs.YtilpiopkekkbiaaGreatDoor
open Go.RowKit
set_option maxRecDepth 1000000
variable {Z Zt:ASt} {full:bZ'}
def wK:Code:=qh Tryz.f24
def lV:AE := { SS.ae 24 27 with vars := [2,3,4,5,6,7,13,14] }
def bNP:Code:=qh Tryz.f24
def bNO:AE := { SS.ae 24 27 with vars := [2,3,4,5,6,7,13,14] }
def aAM:XE:=SS.xe SS.CC SS.LL bNO 7
def aAN:Code:=Code.sub [true,true,false,true,false,true] bNP
theorem bNQ (l:Nat) (K:AX->ASt->R) (e:Int) (k:Int) (t:ByteArray) (v:Int) (ln:Int) (cl:Int) (L:bZZ) (c1:Int) (c2:Int) (c3:Int) (line:Int) (start:Int) (at_:Int):bH aAM aAN K ⟨[(2,.ptr 0 0),(3,.ptr 1 0),(4,.ptr 2 0),(5,.ptr 3 0),(6,.ptr 7 0),(7,.int .i64 e),(13,.agg [.int .i64 k,.str t,.int .i64 v,.int .i64 ln,.int .i64 cl]),(14,.int .i64 e)],[some [.sl true 5 L],some [.int .i64 c1],some [.int .i64 c2],some [.int .i64 c3],some [.int .i64 line],some [.int .i64 start],some [.int .i64 at_],some [.int .i64 k,.str t,.int .i64 v,.int .i64 ln,.int .i64 cl]]⟩=aA (e != 0) (K .ret ⟨[(2,.ptr 0 0),(3,.ptr 1 0),(4,.ptr 2 0),(5,.ptr 3 0),(6,.ptr 7 0),(7,.int .i64 e),(13,.agg [.int .i64 k,.str t,.int .i64 v,.int .i64 ln,.int .i64 cl]),(14,.int .i64 e),(17,.ptr 7 3),(18,.int .i64 ln),(19,.ptr 7 4),(20,.int .i64 cl),(21,.int .i64 e)],[some [.sl true 0 []],some [.int .i64 ln],some [.int .i64 cl],some [.int .i64 e],some [.int .i64 line],some [.int .i64 start],some [.int .i64 at_],some [.int .i64 k,.str t,.int .i64 v,.int .i64 ln,.int .i64 cl]]⟩) (chk (decide (L.length+1<=aO)) (K .normal ⟨[(2,.ptr 0 0),(3,.ptr 1 0),(4,.ptr 2 0),(5,.ptr 3 0),(6,.ptr 7 0),(7,.int .i64 e),(13,.agg [.int .i64 k,.str t,.int .i64 v,.int .i64 ln,.int .i64 cl]),(14,.int .i64 e),(22,.sl false 5 L),(23,.agg [.int .i64 k,.str t,.int .i64 v,.int .i64 ln,.int .i64 cl]),(24,.sl true 5 [.agg [.int .i64 k,.str t,.int .i64 v,.int .i64 ln,.int .i64 cl]]),(25,.sl false 5 (L ++ [.agg [.int .i64 k,.str t,.int .i64 v,.int .i64 ln,.int .i64 cl]]))],[some [.sl true 5 (L ++ [.agg [.int .i64 k,.str t,.int .i64 v,.int .i64 ln,.int .i64 cl]])],some [.int .i64 c1],some [.int .i64 c2],some [.int .i64 c3],some [.int .i64 line],some [.int .i64 start],some [.int .i64 at_],some [.int .i64 k,.str t,.int .i64 v,.int .i64 ln,.int .i64 cl]]⟩)):=(show bH aAM aAN K ⟨[(2,.ptr 0 0),(3,.ptr 1 0),(4,.ptr 2 0),(5,.ptr 3 0),(6,.ptr 7 0),(7,.int .i64 e),(13,.agg [.int .i64 k,.str t,.int .i64 v,.int .i64 ln,.int .i64 cl]),(14,.int .i64 e)],[some [.sl true 5 L],some [.int .i64 c1],some [.int .i64 c2],some [.int .i64 c3],some [.int .i64 line],some [.int .i64 start],some [.int .i64 at_],some [.int .i64 k,.str t,.int .i64 v,.int .i64 ln,.int .i64 cl]]⟩=aA (e != 0) (dD (dD (K .ret ⟨[(2,.ptr 0 0),(3,.ptr 1 0),(4,.ptr 2 0),(5,.ptr 3 0),(6,.ptr 7 0),(7,.int .i64 e),(13,.agg [.int .i64 k,.str t,.int .i64 v,.int .i64 ln,.int .i64 cl]),(14,.int .i64 e),(17,.ptr 7 3),(18,.int .i64 ln),(19,.ptr 7 4),(20,.int .i64 cl),(21,.int .i64 e)],[some [.sl true 0 []],some [.int .i64 ln],some [.int .i64 cl],some [.int .i64 e],some [.int .i64 line],some [.int .i64 start],some [.int .i64 at_],some [.int .i64 k,.str t,.int .i64 v,.int .i64 ln,.int .i64 cl]]⟩) (dD (K .ret ⟨[(2,.ptr 0 0),(3,.ptr 1 0),(4,.ptr 2 0),(5,.ptr 3 0),(6,.ptr 7 0),(7,.int .i64 e),(13,.agg [.int .i64 k,.str t,.int .i64 v,.int .i64 ln,.int .i64 cl]),(14,.int .i64 e),(17,.ptr 7 3),(18,.int .i64 ln),(19,.ptr 7 4),(20,.int .i64 cl),(21,.int .i64 e)],[some [.sl true 0 []],some [.int .i64 ln],some [.int .i64 cl],some [.int .i64 e],some [.int .i64 line],some [.int .i64 start],some [.int .i64 at_],some [.int .i64 k,.str t,.int .i64 v,.int .i64 ln,.int .i64 cl]]⟩) (K .ret ⟨[(2,.ptr 0 0),(3,.ptr 1 0),(4,.ptr 2 0),(5,.ptr 3 0),(6,.ptr 7 0),(7,.int .i64 e),(13,.agg [.int .i64 k,.str t,.int .i64 v,.int .i64 ln,.int .i64 cl]),(14,.int .i64 e),(17,.ptr 7 3),(18,.int .i64 ln),(19,.ptr 7 4),(20,.int .i64 cl),(21,.int .i64 e)],[some [.sl true 0 []],some [.int .i64 ln],some [.int .i64 cl],some [.int .i64 e],some [.int .i64 line],some [.int .i64 start],some [.int .i64 at_],some [.int .i64 k,.str t,.int .i64 v,.int .i64 ln,.int .i64 cl]]⟩))) (dD (dD (K .ret ⟨[(2,.ptr 0 0),(3,.ptr 1 0),(4,.ptr 2 0),(5,.ptr 3 0),(6,.ptr 7 0),(7,.int .i64 e),(13,.agg [.int .i64 k,.str t,.int .i64 v,.int .i64 ln,.int .i64 cl]),(14,.int .i64 e),(17,.ptr 7 3),(18,.int .i64 ln),(19,.ptr 7 4),(20,.int .i64 cl),(21,.int .i64 e)],[some [.sl true 0 []],some [.int .i64 ln],some [.int .i64 cl],some [.int .i64 e],some [.int .i64 line],some [.int .i64 start],some [.int .i64 at_],some [.int .i64 k,.str t,.int .i64 v,.int .i64 ln,.int .i64 cl]]⟩) (K .ret ⟨[(2,.ptr 0 0),(3,.ptr 1 0),(4,.ptr 2 0),(5,.ptr 3 0),(6,.ptr 7 0),(7,.int .i64 e),(13,.agg [.int .i64 k,.str t,.int .i64 v,.int .i64 ln,.int .i64 cl]),(14,.int .i64 e),(17,.ptr 7 3),(18,.int .i64 ln),(19,.ptr 7 4),(20,.int .i64 cl),(21,.int .i64 e)],[some [.sl true 0 []],some [.int .i64 ln],some [.int .i64 cl],some [.int .i64 e],some [.int .i64 line],some [.int .i64 start],some [.int .i64 at_],some [.int .i64 k,.str t,.int .i64 v,.int .i64 ln,.int .i64 cl]]⟩)) (dD (K .ret ⟨[(2,.ptr 0 0),(3,.ptr 1 0),(4,.ptr 2 0),(5,.ptr 3 0),(6,.ptr 7 0),(7,.int .i64 e),(13,.agg [.int .i64 k,.str t,.int .i64 v,.int .i64 ln,.int .i64 cl]),(14,.int .i64 e),(17,.ptr 7 3),(18,.int .i64 ln),(19,.ptr 7 4),(20,.int .i64 cl),(21,.int .i64 e)],[some [.sl true 0 []],some [.int .i64 ln],some [.int .i64 cl],some [.int .i64 e],some [.int .i64 line],some [.int .i64 start],some [.int .i64 at_],some [.int .i64 k,.str t,.int .i64 v,.int .i64 ln,.int .i64 cl]]⟩) (K .ret ⟨[(2,.ptr 0 0),(3,.ptr 1 0),(4,.ptr 2 0),(5,.ptr 3 0),(6,.ptr 7 0),(7,.int .i64 e),(13,.agg [.int .i64 k,.str t,.int .i64 v,.int .i64 ln,.int .i64 cl]),(14,.int .i64 e),(17,.ptr 7 3),(18,.int .i64 ln),(19,.ptr 7 4),(20,.int .i64 cl),(21,.int .i64 e)],[some [.sl true 0 []],some [.int .i64 ln],some [.int .i64 cl],some [.int .i64 e],some [.int .i64 line],some [.int .i64 start],some [.int .i64 at_],some [.int .i64 k,.str t,.int .i64 v,.int .i64 ln,.int .i64 cl]]⟩)))) (chk (decide (L.length+1<=aO)) (K .normal ⟨[(2,.ptr 0 0),(3,.ptr 1 0),(4,.ptr 2 0),(5,.ptr 3 0),(6,.ptr 7 0),(7,.int .i64 e),(13,.agg [.int .i64 k,.str t,.int .i64 v,.int .i64 ln,.int .i64 cl]),(14,.int .i64 e),(22,.sl false 5 L),(23,.agg [.int .i64 k,.str t,.int .i64 v,.int .i64 ln,.int .i64 cl]),(24,.sl true 5 [.agg [.int .i64 k,.str t,.int .i64 v,.int .i64 ln,.int .i64 cl]]),(25,.sl false 5 (L ++ [.agg [.int .i64 k,.str t,.int .i64 v,.int .i64 ln,.int .i64 cl]]))],[some [.sl true 5 (L ++ [.agg [.int .i64 k,.str t,.int .i64 v,.int .i64 ln,.int .i64 cl]])],some [.int .i64 c1],some [.int .i64 c2],some [.int .i64 c3],some [.int .i64 line],some [.int .i64 start],some [.int .i64 at_],some [.int .i64 k,.str t,.int .i64 v,.int .i64 ln,.int .i64 cl]]⟩)) from by kernel_rfl).trans (by simp only[DL])
def bNS:Code:=qh Tryz.f24
def bNR:AE := { SS.ae 24 27 with vars := [2,3,4,5,6,7,13,14] }
def aAO:XE:=SS.xe SS.CC SS.LL bNR 8
def aAP:Code:=Code.sub [true,true,false,true,false,true] bNS
theorem bNT (l:Nat) (K:AX->ASt->R) (e:Int) (k:Int) (t:ByteArray) (v:Int) (ln:Int) (cl:Int) (L:bZZ) (c1:Int) (c2:Int) (c3:Int) (line:Int) (start:Int) (at_:Int) (x1:Int) (x2:ByteArray) (x3:Int) (x4:Int) (x5:Int):bH aAO aAP K ⟨[(2,.ptr 0 0),(3,.ptr 1 0),(4,.ptr 2 0),(5,.ptr 3 0),(6,.ptr 8 0),(7,.int .i64 e),(13,.agg [.int .i64 k,.str t,.int .i64 v,.int .i64 ln,.int .i64 cl]),(14,.int .i64 e)],[some [.sl true 5 L],some [.int .i64 c1],some [.int .i64 c2],some [.int .i64 c3],some [.int .i64 line],some [.int .i64 start],some [.int .i64 at_],some [.int .i64 x1,.str x2,.int .i64 x3,.int .i64 x4,.int .i64 x5],some [.int .i64 k,.str t,.int .i64 v,.int .i64 ln,.int .i64 cl]]⟩=aA (e != 0) (K .ret ⟨[(2,.ptr 0 0),(3,.ptr 1 0),(4,.ptr 2 0),(5,.ptr 3 0),(6,.ptr 8 0),(7,.int .i64 e),(13,.agg [.int .i64 k,.str t,.int .i64 v,.int .i64 ln,.int .i64 cl]),(14,.int .i64 e),(17,.ptr 8 3),(18,.int .i64 ln),(19,.ptr 8 4),(20,.int .i64 cl),(21,.int .i64 e)],[some [.sl true 0 []],some [.int .i64 ln],some [.int .i64 cl],some [.int .i64 e],some [.int .i64 line],some [.int .i64 start],some [.int .i64 at_],some [.int .i64 x1,.str x2,.int .i64 x3,.int .i64 x4,.int .i64 x5],some [.int .i64 k,.str t,.int .i64 v,.int .i64 ln,.int .i64 cl]]⟩) (chk (decide (L.length+1<=aO)) (K .normal ⟨[(2,.ptr 0 0),(3,.ptr 1 0),(4,.ptr 2 0),(5,.ptr 3 0),(6,.ptr 8 0),(7,.int .i64 e),(13,.agg [.int .i64 k,.str t,.int .i64 v,.int .i64 ln,.int .i64 cl]),(14,.int .i64 e),(22,.sl false 5 L),(23,.agg [.int .i64 k,.str t,.int .i64 v,.int .i64 ln,.int .i64 cl]),(24,.sl true 5 [.agg [.int .i64 k,.str t,.int .i64 v,.int .i64 ln,.int .i64 cl]]),(25,.sl false 5 (L ++ [.agg [.int .i64 k,.str t,.int .i64 v,.int .i64 ln,.int .i64 cl]]))],[some [.sl true 5 (L ++ [.agg [.int .i64 k,.str t,.int .i64 v,.int .i64 ln,.int .i64 cl]])],some [.int .i64 c1],some [.int .i64 c2],some [.int .i64 c3],some [.int .i64 line],some [.int .i64 start],some [.int .i64 at_],some [.int .i64 x1,.str x2,.int .i64 x3,.int .i64 x4,.int .i64 x5],some [.int .i64 k,.str t,.int .i64 v,.int .i64 ln,.int .i64 cl]]⟩)):=(show bH aAO aAP K ⟨[(2,.ptr 0 0),(3,.ptr 1 0),(4,.ptr 2 0),(5,.ptr 3 0),(6,.ptr 8 0),(7,.int .i64 e),(13,.agg [.int .i64 k,.str t,.int .i64 v,.int .i64 ln,.int .i64 cl]),(14,.int .i64 e)],[some [.sl true 5 L],some [.int .i64 c1],some [.int .i64 c2],some [.int .i64 c3],some [.int .i64 line],some [.int .i64 start],some [.int .i64 at_],some [.int .i64 x1,.str x2,.int .i64 x3,.int .i64 x4,.int .i64 x5],some [.int .i64 k,.str t,.int .i64 v,.int .i64 ln,.int .i64 cl]]⟩=aA (e != 0) (dD (dD (K .ret ⟨[(2,.ptr 0 0),(3,.ptr 1 0),(4,.ptr 2 0),(5,.ptr 3 0),(6,.ptr 8 0),(7,.int .i64 e),(13,.agg [.int .i64 k,.str t,.int .i64 v,.int .i64 ln,.int .i64 cl]),(14,.int .i64 e),(17,.ptr 8 3),(18,.int .i64 ln),(19,.ptr 8 4),(20,.int .i64 cl),(21,.int .i64 e)],[some [.sl true 0 []],some [.int .i64 ln],some [.int .i64 cl],some [.int .i64 e],some [.int .i64 line],some [.int .i64 start],some [.int .i64 at_],some [.int .i64 x1,.str x2,.int .i64 x3,.int .i64 x4,.int .i64 x5],some [.int .i64 k,.str t,.int .i64 v,.int .i64 ln,.int .i64 cl]]⟩) (dD (K .ret ⟨[(2,.ptr 0 0),(3,.ptr 1 0),(4,.ptr 2 0),(5,.ptr 3 0),(6,.ptr 8 0),(7,.int .i64 e),(13,.agg [.int .i64 k,.str t,.int .i64 v,.int .i64 ln,.int .i64 cl]),(14,.int .i64 e),(17,.ptr 8 3),(18,.int .i64 ln),(19,.ptr 8 4),(20,.int .i64 cl),(21,.int .i64 e)],[some [.sl true 0 []],some [.int .i64 ln],some [.int .i64 cl],some [.int .i64 e],some [.int .i64 line],some [.int .i64 start],some [.int .i64 at_],some [.int .i64 x1,.str x2,.int .i64 x3,.int .i64 x4,.int .i64 x5],some [.int .i64 k,.str t,.int .i64 v,.int .i64 ln,.int .i64 cl]]⟩) (K .ret ⟨[(2,.ptr 0 0),(3,.ptr 1 0),(4,.ptr 2 0),(5,.ptr 3 0),(6,.ptr 8 0),(7,.int .i64 e),(13,.agg [.int .i64 k,.str t,.int .i64 v,.int .i64 ln,.int .i64 cl]),(14,.int .i64 e),(17,.ptr 8 3),(18,.int .i64 ln),(19,.ptr 8 4),(20,.int .i64 cl),(21,.int .i64 e)],[some [.sl true 0 []],some [.int .i64 ln],some [.int .i64 cl],some [.int .i64 e],some [.int .i64 line],some [.int .i64 start],some [.int .i64 at_],some [.int .i64 x1,.str x2,.int .i64 x3,.int .i64 x4,.int .i64 x5],some [.int .i64 k,.str t,.int .i64 v,.int .i64 ln,.int .i64 cl]]⟩))) (dD (dD (K .ret ⟨[(2,.ptr 0 0),(3,.ptr 1 0),(4,.ptr 2 0),(5,.ptr 3 0),(6,.ptr 8 0),(7,.int .i64 e),(13,.agg [.int .i64 k,.str t,.int .i64 v,.int .i64 ln,.int .i64 cl]),(14,.int .i64 e),(17,.ptr 8 3),(18,.int .i64 ln),(19,.ptr 8 4),(20,.int .i64 cl),(21,.int .i64 e)],[some [.sl true 0 []],some [.int .i64 ln],some [.int .i64 cl],some [.int .i64 e],some [.int .i64 line],some [.int .i64 start],some [.int .i64 at_],some [.int .i64 x1,.str x2,.int .i64 x3,.int .i64 x4,.int .i64 x5],some [.int .i64 k,.str t,.int .i64 v,.int .i64 ln,.int .i64 cl]]⟩) (K .ret ⟨[(2,.ptr 0 0),(3,.ptr 1 0),(4,.ptr 2 0),(5,.ptr 3 0),(6,.ptr 8 0),(7,.int .i64 e),(13,.agg [.int .i64 k,.str t,.int .i64 v,.int .i64 ln,.int .i64 cl]),(14,.int .i64 e),(17,.ptr 8 3),(18,.int .i64 ln),(19,.ptr 8 4),(20,.int .i64 cl),(21,.int .i64 e)],[some [.sl true 0 []],some [.int .i64 ln],some [.int .i64 cl],some [.int .i64 e],some [.int .i64 line],some [.int .i64 start],some [.int .i64 at_],some [.int .i64 x1,.str x2,.int .i64 x3,.int .i64 x4,.int .i64 x5],some [.int .i64 k,.str t,.int .i64 v,.int .i64 ln,.int .i64 cl]]⟩)) (dD (K .ret ⟨[(2,.ptr 0 0),(3,.ptr 1 0),(4,.ptr 2 0),(5,.ptr 3 0),(6,.ptr 8 0),(7,.int .i64 e),(13,.agg [.int .i64 k,.str t,.int .i64 v,.int .i64 ln,.int .i64 cl]),(14,.int .i64 e),(17,.ptr 8 3),(18,.int .i64 ln),(19,.ptr 8 4),(20,.int .i64 cl),(21,.int .i64 e)],[some [.sl true 0 []],some [.int .i64 ln],some [.int .i64 cl],some [.int .i64 e],some [.int .i64 line],some [.int .i64 start],some [.int .i64 at_],some [.int .i64 x1,.str x2,.int .i64 x3,.int .i64 x4,.int .i64 x5],some [.int .i64 k,.str t,.int .i64 v,.int .i64 ln,.int .i64 cl]]⟩) (K .ret ⟨[(2,.ptr 0 0),(3,.ptr 1 0),(4,.ptr 2 0),(5,.ptr 3 0),(6,.ptr 8 0),(7,.int .i64 e),(13,.agg [.int .i64 k,.str t,.int .i64 v,.int .i64 ln,.int .i64 cl]),(14,.int .i64 e),(17,.ptr 8 3),(18,.int .i64 ln),(19,.ptr 8 4),(20,.int .i64 cl),(21,.int .i64 e)],[some [.sl true 0 []],some [.int .i64 ln],some [.int .i64 cl],some [.int .i64 e],some [.int .i64 line],some [.int .i64 start],some [.int .i64 at_],some [.int .i64 x1,.str x2,.int .i64 x3,.int .i64 x4,.int .i64 x5],some [.int .i64 k,.str t,.int .i64 v,.int .i64 ln,.int .i64 cl]]⟩)))) (chk (decide (L.length+1<=aO)) (K .normal ⟨[(2,.ptr 0 0),(3,.ptr 1 0),(4,.ptr 2 0),(5,.ptr 3 0),(6,.ptr 8 0),(7,.int .i64 e),(13,.agg [.int .i64 k,.str t,.int .i64 v,.int .i64 ln,.int .i64 cl]),(14,.int .i64 e),(22,.sl false 5 L),(23,.agg [.int .i64 k,.str t,.int .i64 v,.int .i64 ln,.int .i64 cl]),(24,.sl true 5 [.agg [.int .i64 k,.str t,.int .i64 v,.int .i64 ln,.int .i64 cl]]),(25,.sl false 5 (L ++ [.agg [.int .i64 k,.str t,.int .i64 v,.int .i64 ln,.int .i64 cl]]))],[some [.sl true 5 (L ++ [.agg [.int .i64 k,.str t,.int .i64 v,.int .i64 ln,.int .i64 cl]])],some [.int .i64 c1],some [.int .i64 c2],some [.int .i64 c3],some [.int .i64 line],some [.int .i64 start],some [.int .i64 at_],some [.int .i64 x1,.str x2,.int .i64 x3,.int .i64 x4,.int .i64 x5],some [.int .i64 k,.str t,.int .i64 v,.int .i64 ln,.int .i64 cl]]⟩)) from by kernel_rfl).trans (by simp only[DL])
def EW:Code:=Code.sub [true,true,false,true,false,false] wK
def Ap:Code:=Code.sub [true,true,false,true,false,true] wK
theorem aTS:og EW=true:=by kernel_rfl
theorem aTT:og Ap=true:=by kernel_rfl
theorem Bv:Tryz.prog.follows .mixedOrders=true:=by kernel_rfl
theorem bS5 (K:AX->ASt->R) (L:bZZ) (c1 c2 c3 line start at_:Int) (k:Int) (t:ByteArray) (v ln cl e:Int):bH (SS.xe SS.CC SS.LL lV 7) EW K ⟨[(2,.ptr 0 0),(3,.ptr 1 0),(4,.ptr 2 0),(5,.ptr 3 0),(13,.agg [.int .i64 k,.str t,.int .i64 v,.int .i64 ln,.int .i64 cl]),(14,.int .i64 e)],[some [.sl true 5 L],some [.int .i64 c1],some [.int .i64 c2],some [.int .i64 c3],some [.int .i64 line],some [.int .i64 start],some [.int .i64 at_]]⟩=K .normal ⟨[(2,.ptr 0 0),(3,.ptr 1 0),(4,.ptr 2 0),(5,.ptr 3 0),(6,.ptr 7 0),(7,.int .i64 e),(13,.agg [.int .i64 k,.str t,.int .i64 v,.int .i64 ln,.int .i64 cl]),(14,.int .i64 e)],[some [.sl true 5 L],some [.int .i64 c1],some [.int .i64 c2],some [.int .i64 c3],some [.int .i64 line],some [.int .i64 start],some [.int .i64 at_],some [.int .i64 k,.str t,.int .i64 v,.int .i64 ln,.int .i64 cl]]⟩:=by kernel_rfl
def aCL (L:bZZ) (c1 c2 c3 line start at_:Int) (k:Int) (t:ByteArray) (v ln cl e:Int):ASt:=⟨[(2,.ptr 0 0),(3,.ptr 1 0),(4,.ptr 2 0),(5,.ptr 3 0),(6,.ptr 7 0),(7,.int .i64 e),(13,.agg [.int .i64 k,.str t,.int .i64 v,.int .i64 ln,.int .i64 cl]),(14,.int .i64 e),(17,.ptr 7 3),(18,.int .i64 ln),(19,.ptr 7 4),(20,.int .i64 cl),(21,.int .i64 e)],[some [.sl true 0 []],some [.int .i64 ln],some [.int .i64 cl],some [.int .i64 e],some [.int .i64 line],some [.int .i64 start],some [.int .i64 at_],some [.int .i64 k,.str t,.int .i64 v,.int .i64 ln,.int .i64 cl]]⟩
def aCN (L:bZZ) (c1 c2 c3 line start at_:Int) (k:Int) (t:ByteArray) (v ln cl e:Int):ASt:=⟨[(2,.ptr 0 0),(3,.ptr 1 0),(4,.ptr 2 0),(5,.ptr 3 0),(6,.ptr 7 0),(7,.int .i64 e),(13,.agg [.int .i64 k,.str t,.int .i64 v,.int .i64 ln,.int .i64 cl]),(14,.int .i64 e),(22,.sl false 5 L),(23,.agg [.int .i64 k,.str t,.int .i64 v,.int .i64 ln,.int .i64 cl]),(24,.sl true 5 [.agg [.int .i64 k,.str t,.int .i64 v,.int .i64 ln,.int .i64 cl]]),(25,.sl false 5 (L ++ [.agg [.int .i64 k,.str t,.int .i64 v,.int .i64 ln,.int .i64 cl]]))],[some [.sl true 5 (L ++ [.agg [.int .i64 k,.str t,.int .i64 v,.int .i64 ln,.int .i64 cl]])],some [.int .i64 c1],some [.int .i64 c2],some [.int .i64 c3],some [.int .i64 line],some [.int .i64 start],some [.int .i64 at_],some [.int .i64 k,.str t,.int .i64 v,.int .i64 ln,.int .i64 cl]]⟩
theorem aTQ (K:AX->ASt->R) (L:bZZ) (c1 c2 c3 line start at_:Int) (k:Int) (t:ByteArray) (v ln cl e:Int):bH (SS.xe SS.CC SS.LL lV 7) Ap K ⟨[(2,.ptr 0 0),(3,.ptr 1 0),(4,.ptr 2 0),(5,.ptr 3 0),(6,.ptr 7 0),(7,.int .i64 e),(13,.agg [.int .i64 k,.str t,.int .i64 v,.int .i64 ln,.int .i64 cl]),(14,.int .i64 e)],[some [.sl true 5 L],some [.int .i64 c1],some [.int .i64 c2],some [.int .i64 c3],some [.int .i64 line],some [.int .i64 start],some [.int .i64 at_],some [.int .i64 k,.str t,.int .i64 v,.int .i64 ln,.int .i64 cl]]⟩=aA (e != 0) (K .ret (aCL L c1 c2 c3 line start at_ k t v ln cl e)) (chk (decide (L.length+1<=aO)) (K .normal (aCN L c1 c2 c3 line start at_ k t v ln cl e))) :=(show bH (SS.xe SS.CC SS.LL lV 7) Ap K ⟨[(2,.ptr 0 0),(3,.ptr 1 0),(4,.ptr 2 0),(5,.ptr 3 0),(6,.ptr 7 0),(7,.int .i64 e),(13,.agg [.int .i64 k,.str t,.int .i64 v,.int .i64 ln,.int .i64 cl]),(14,.int .i64 e)],[some [.sl true 5 L],some [.int .i64 c1],some [.int .i64 c2],some [.int .i64 c3],some [.int .i64 line],some [.int .i64 start],some [.int .i64 at_],some [.int .i64 k,.str t,.int .i64 v,.int .i64 ln,.int .i64 cl]]⟩=bH aAM aAN K ⟨[(2,.ptr 0 0),(3,.ptr 1 0),(4,.ptr 2 0),(5,.ptr 3 0),(6,.ptr 7 0),(7,.int .i64 e),(13,.agg [.int .i64 k,.str t,.int .i64 v,.int .i64 ln,.int .i64 cl]),(14,.int .i64 e)],[some [.sl true 5 L],some [.int .i64 c1],some [.int .i64 c2],some [.int .i64 c3],some [.int .i64 line],some [.int .i64 start],some [.int .i64 at_],some [.int .i64 k,.str t,.int .i64 v,.int .i64 ln,.int .i64 cl]]⟩ from by kernel_rfl).trans (bNQ 0 K e k t v ln cl L c1 c2 c3 line start at_)
theorem bS7 (L:bZZ) (c1 c2 c3 line start at_:Int) (k:Int) (t:ByteArray) (v ln cl e:Int) (hL:L.length+1<=aO):dS lV 7 EW (DY (dS lV 7 Ap fun ax Z'=>if e=0 then ax = .normal/\Z'=aCN L c1 c2 c3 line start at_ k t v ln cl e else ax = .ret/\Z'=aCL L c1 c2 c3 line start at_ k t v ln cl e) fun _ _=>False) ⟨[(2,.ptr 0 0),(3,.ptr 1 0),(4,.ptr 2 0),(5,.ptr 3 0),(13,.agg [.int .i64 k,.str t,.int .i64 v,.int .i64 ln,.int .i64 cl]),(14,.int .i64 e)],[some [.sl true 5 L],some [.int .i64 c1],some [.int .i64 c2],some [.int .i64 c3],some [.int .i64 line],some [.int .i64 start],some [.int .i64 at_]]⟩:=by
 have hC:oN (SS.xe SS.CC SS.LL lV 7).E.P (SS.xe SS.CC SS.LL lV 7).C:=NL Bv dQ Eh;have hl:IL (SS.xe SS.CC SS.LL lV 7):=Xb Bv dQ Eh rfl;refine yC EW (fun ax Z' h => ?_) (Ii (X:=(SS.xe SS.CC SS.LL lV 7)) dQ.V dQ.W hC hl fun K=>bS5 K L c1 c2 c3 line start at_ k t v ln cl e);obtain ⟨rfl,rfl⟩:=h;show dS lV 7 Ap _ _;by_cases he:e=0
 .simp only[aX he];refine Ii (X:=(SS.xe SS.CC SS.LL lV 7)) dQ.V dQ.W hC hl fun K => ?_
  rw[aTQ,show (e != 0)=false by simp[he],aC,aQ (by grind)]
 .simp only[aV he];refine Ii (X:=(SS.xe SS.CC SS.LL lV 7)) dQ.V dQ.W hC hl fun K => ?_
  rw[aTQ,show (e != 0)=true by simp[he],aI]
theorem bS6 (K:AX->ASt->R) (L:bZZ) (c1 c2 c3 line start at_:Int) (x1:Int) (x2:ByteArray) (x3 x4 x5:Int) (k:Int) (t:ByteArray) (v ln cl e:Int):bH (SS.xe SS.CC SS.LL lV 8) EW K ⟨[(2,.ptr 0 0),(3,.ptr 1 0),(4,.ptr 2 0),(5,.ptr 3 0),(13,.agg [.int .i64 k,.str t,.int .i64 v,.int .i64 ln,.int .i64 cl]),(14,.int .i64 e)],[some [.sl true 5 L],some [.int .i64 c1],some [.int .i64 c2],some [.int .i64 c3],some [.int .i64 line],some [.int .i64 start],some [.int .i64 at_],some [.int .i64 x1,.str x2,.int .i64 x3,.int .i64 x4,.int .i64 x5]]⟩=K .normal ⟨[(2,.ptr 0 0),(3,.ptr 1 0),(4,.ptr 2 0),(5,.ptr 3 0),(6,.ptr 8 0),(7,.int .i64 e),(13,.agg [.int .i64 k,.str t,.int .i64 v,.int .i64 ln,.int .i64 cl]),(14,.int .i64 e)],[some [.sl true 5 L],some [.int .i64 c1],some [.int .i64 c2],some [.int .i64 c3],some [.int .i64 line],some [.int .i64 start],some [.int .i64 at_],some [.int .i64 x1,.str x2,.int .i64 x3,.int .i64 x4,.int .i64 x5],some [.int .i64 k,.str t,.int .i64 v,.int .i64 ln,.int .i64 cl]]⟩:=by kernel_rfl
def aCM (L:bZZ) (c1 c2 c3 line start at_:Int) (x1:Int) (x2:ByteArray) (x3 x4 x5:Int) (k:Int) (t:ByteArray) (v ln cl e:Int):ASt:=⟨[(2,.ptr 0 0),(3,.ptr 1 0),(4,.ptr 2 0),(5,.ptr 3 0),(6,.ptr 8 0),(7,.int .i64 e),(13,.agg [.int .i64 k,.str t,.int .i64 v,.int .i64 ln,.int .i64 cl]),(14,.int .i64 e),(17,.ptr 8 3),(18,.int .i64 ln),(19,.ptr 8 4),(20,.int .i64 cl),(21,.int .i64 e)],[some [.sl true 0 []],some [.int .i64 ln],some [.int .i64 cl],some [.int .i64 e],some [.int .i64 line],some [.int .i64 start],some [.int .i64 at_],some [.int .i64 x1,.str x2,.int .i64 x3,.int .i64 x4,.int .i64 x5],some [.int .i64 k,.str t,.int .i64 v,.int .i64 ln,.int .i64 cl]]⟩
def aCO (L:bZZ) (c1 c2 c3 line start at_:Int) (x1:Int) (x2:ByteArray) (x3 x4 x5:Int) (k:Int) (t:ByteArray) (v ln cl e:Int):ASt:=⟨[(2,.ptr 0 0),(3,.ptr 1 0),(4,.ptr 2 0),(5,.ptr 3 0),(6,.ptr 8 0),(7,.int .i64 e),(13,.agg [.int .i64 k,.str t,.int .i64 v,.int .i64 ln,.int .i64 cl]),(14,.int .i64 e),(22,.sl false 5 L),(23,.agg [.int .i64 k,.str t,.int .i64 v,.int .i64 ln,.int .i64 cl]),(24,.sl true 5 [.agg [.int .i64 k,.str t,.int .i64 v,.int .i64 ln,.int .i64 cl]]),(25,.sl false 5 (L ++ [.agg [.int .i64 k,.str t,.int .i64 v,.int .i64 ln,.int .i64 cl]]))],[some [.sl true 5 (L ++ [.agg [.int .i64 k,.str t,.int .i64 v,.int .i64 ln,.int .i64 cl]])],some [.int .i64 c1],some [.int .i64 c2],some [.int .i64 c3],some [.int .i64 line],some [.int .i64 start],some [.int .i64 at_],some [.int .i64 x1,.str x2,.int .i64 x3,.int .i64 x4,.int .i64 x5],some [.int .i64 k,.str t,.int .i64 v,.int .i64 ln,.int .i64 cl]]⟩
theorem aTR (K:AX->ASt->R) (L:bZZ) (c1 c2 c3 line start at_:Int) (x1:Int) (x2:ByteArray) (x3 x4 x5:Int) (k:Int) (t:ByteArray) (v ln cl e:Int):bH (SS.xe SS.CC SS.LL lV 8) Ap K ⟨[(2,.ptr 0 0),(3,.ptr 1 0),(4,.ptr 2 0),(5,.ptr 3 0),(6,.ptr 8 0),(7,.int .i64 e),(13,.agg [.int .i64 k,.str t,.int .i64 v,.int .i64 ln,.int .i64 cl]),(14,.int .i64 e)],[some [.sl true 5 L],some [.int .i64 c1],some [.int .i64 c2],some [.int .i64 c3],some [.int .i64 line],some [.int .i64 start],some [.int .i64 at_],some [.int .i64 x1,.str x2,.int .i64 x3,.int .i64 x4,.int .i64 x5],some [.int .i64 k,.str t,.int .i64 v,.int .i64 ln,.int .i64 cl]]⟩=aA (e != 0) (K .ret (aCM L c1 c2 c3 line start at_ x1 x2 x3 x4 x5 k t v ln cl e)) (chk (decide (L.length+1<=aO)) (K .normal (aCO L c1 c2 c3 line start at_ x1 x2 x3 x4 x5 k t v ln cl e))) :=(show bH (SS.xe SS.CC SS.LL lV 8) Ap K ⟨[(2,.ptr 0 0),(3,.ptr 1 0),(4,.ptr 2 0),(5,.ptr 3 0),(6,.ptr 8 0),(7,.int .i64 e),(13,.agg [.int .i64 k,.str t,.int .i64 v,.int .i64 ln,.int .i64 cl]),(14,.int .i64 e)],[some [.sl true 5 L],some [.int .i64 c1],some [.int .i64 c2],some [.int .i64 c3],some [.int .i64 line],some [.int .i64 start],some [.int .i64 at_],some [.int .i64 x1,.str x2,.int .i64 x3,.int .i64 x4,.int .i64 x5],some [.int .i64 k,.str t,.int .i64 v,.int .i64 ln,.int .i64 cl]]⟩=bH aAO aAP K ⟨[(2,.ptr 0 0),(3,.ptr 1 0),(4,.ptr 2 0),(5,.ptr 3 0),(6,.ptr 8 0),(7,.int .i64 e),(13,.agg [.int .i64 k,.str t,.int .i64 v,.int .i64 ln,.int .i64 cl]),(14,.int .i64 e)],[some [.sl true 5 L],some [.int .i64 c1],some [.int .i64 c2],some [.int .i64 c3],some [.int .i64 line],some [.int .i64 start],some [.int .i64 at_],some [.int .i64 x1,.str x2,.int .i64 x3,.int .i64 x4,.int .i64 x5],some [.int .i64 k,.str t,.int .i64 v,.int .i64 ln,.int .i64 cl]]⟩ from by kernel_rfl).trans (bNT 0 K e k t v ln cl L c1 c2 c3 line start at_ x1 x2 x3 x4 x5)
theorem bS8 (L:bZZ) (c1 c2 c3 line start at_:Int) (x1:Int) (x2:ByteArray) (x3 x4 x5:Int) (k:Int) (t:ByteArray) (v ln cl e:Int) (hL:L.length+1<=aO):dS lV 8 EW (DY (dS lV 8 Ap fun ax Z'=>if e=0 then ax = .normal/\Z'=aCO L c1 c2 c3 line start at_ x1 x2 x3 x4 x5 k t v ln cl e else ax = .ret/\Z'=aCM L c1 c2 c3 line start at_ x1 x2 x3 x4 x5 k t v ln cl e) fun _ _=>False) ⟨[(2,.ptr 0 0),(3,.ptr 1 0),(4,.ptr 2 0),(5,.ptr 3 0),(13,.agg [.int .i64 k,.str t,.int .i64 v,.int .i64 ln,.int .i64 cl]),(14,.int .i64 e)],[some [.sl true 5 L],some [.int .i64 c1],some [.int .i64 c2],some [.int .i64 c3],some [.int .i64 line],some [.int .i64 start],some [.int .i64 at_],some [.int .i64 x1,.str x2,.int .i64 x3,.int .i64 x4,.int .i64 x5]]⟩:=by
 have hC:oN (SS.xe SS.CC SS.LL lV 8).E.P (SS.xe SS.CC SS.LL lV 8).C:=NL Bv dQ Eh;have hl:IL (SS.xe SS.CC SS.LL lV 8):=Xb Bv dQ Eh rfl;refine yC EW (fun ax Z' h => ?_) (Ii (X:=(SS.xe SS.CC SS.LL lV 8)) dQ.V dQ.W hC hl fun K=>bS6 K L c1 c2 c3 line start at_ x1 x2 x3 x4 x5 k t v ln cl e);obtain ⟨rfl,rfl⟩:=h;show dS lV 8 Ap _ _;by_cases he:e=0
 .simp only[aX he];refine Ii (X:=(SS.xe SS.CC SS.LL lV 8)) dQ.V dQ.W hC hl fun K => ?_
  rw[aTR,show (e != 0)=false by simp[he],aC,aQ (by grind)]
 .simp only[aV he];refine Ii (X:=(SS.xe SS.CC SS.LL lV 8)) dQ.V dQ.W hC hl fun K => ?_
  rw[aTR,show (e != 0)=true by simp[he],aI]
def bP1:Code:=qh Tryz.f202
def bP0:AE:=SS.ae 202 86
def aSC:XE:=SS.xe SS.CC SS.LL bP0 8
def a2I:Code:=Code.sub [false,true,true,false,false,false,true,true,true,true,true,true,true,true,false,false] bP1
theorem bP2 (l:Nat) (K:AX->ASt->R) (s:ByteArray) (e:Int) (L:bZZ) (c1:Int) (c2:Int) (c3:Int) (line:Int) (start:Int) (at_:Int) (k:Int) (t:ByteArray) (v:Int) (a:Int) (b:Int):jm aSC false (opsOf a2I) (((opsOf a2I).toList.drop 0).take 5) (K .normal) ⟨[(0,.func (.yield l) [] []),(1,.cst (.str s)),(3,.ptr 4 0),(4,.ptr 5 0),(5,.ptr 6 0),(8,.func (.func 204) [] [.ptr 4 0,.ptr 6 0,.ptr 5 0]),(12,.ptr 7 0),(13,.int .i64 e)],[some [.sl true 5 L],some [.int .i64 c1],some [.int .i64 c2],some [.int .i64 c3],some [.int .i64 line],some [.int .i64 start],some [.int .i64 at_],some [.int .i64 k,.str t,.int .i64 v,.int .i64 a,.int .i64 b]]⟩=AO SS.CC 204 [.agg [.int .i64 k,.str t,.int .i64 v,.int .i64 a,.int .i64 b],.ptr 0 0,.ptr 1 0,.ptr 2 0] [some [.int .i64 line],some [.int .i64 at_],some [.int .i64 start]] fun r9 h10=>KO r9 h10 fun n1 s2 n3 n4 n5 n6 n7 n8=>K .normal ⟨[(0,.func (.yield l) [] []),(1,.cst (.str s)),(3,.ptr 4 0),(4,.ptr 5 0),(5,.ptr 6 0),(8,.func (.func 204) [] [.ptr 4 0,.ptr 6 0,.ptr 5 0]),(12,.ptr 7 0),(13,.int .i64 e),(70,.func (.yield l) [] []),(71,.func (.func 204) [] [.ptr 4 0,.ptr 6 0,.ptr 5 0]),(72,.agg [.int .i64 k,.str t,.int .i64 v,.int .i64 a,.int .i64 b]),(73,.agg [.int .i64 n1,.str s2,.int .i64 n3,.int .i64 n4,.int .i64 n5]),(74,.int .i64 e)],[some [.sl true 5 L],some [.int .i64 c1],some [.int .i64 c2],some [.int .i64 c3],some [.int .i64 n6],some [.int .i64 n8],some [.int .i64 n7],some [.int .i64 k,.str t,.int .i64 v,.int .i64 a,.int .i64 b]]⟩:=by kernel_rfl
def bP5:Code:=qh Tryz.f202
def bP3:AE:=SS.ae 202 86
def bP4:XE:=SS.xe SS.CC SS.LL bP3 8
def bP6:Code:=Code.sub [false,true,true,false,false,false,true,true,true,true,true,true,true,true,true,false] bP5
theorem bP7 (l:Nat) (K:AX->ASt->R) (s:ByteArray) (L:bZZ) (c1:Int) (c2:Int) (c3:Int) (line:Int) (start:Int) (at_:Int) (k:Int) (t:ByteArray) (v:Int) (a:Int) (b:Int):bH bP4 bP6 K ⟨[(0,.func (.yield l) [] []),(1,.cst (.str s)),(3,.ptr 4 0),(4,.ptr 5 0),(5,.ptr 6 0),(12,.ptr 7 0)],[some [.sl true 5 L],some [.int .i64 c1],some [.int .i64 c2],some [.int .i64 c3],some [.int .i64 line],some [.int .i64 start],some [.int .i64 at_],some [.int .i64 k,.str t,.int .i64 v,.int .i64 a,.int .i64 b]]⟩=K .normal ⟨[(0,.func (.yield l) [] []),(1,.cst (.str s)),(3,.ptr 4 0),(4,.ptr 5 0),(5,.ptr 6 0),(12,.ptr 7 0),(81,.int .i64 at_),(82,.ptr 7 1),(83,.str t),(84,.int .i64 (t.size:Int)),(85,.int .i64 (i64.wrap (at_+(t.size:Int))))],[some [.sl true 5 L],some [.int .i64 c1],some [.int .i64 c2],some [.int .i64 c3],some [.int .i64 line],some [.int .i64 start],some [.int .i64 (i64.wrap (at_+(t.size:Int)))],some [.int .i64 k,.str t,.int .i64 v,.int .i64 a,.int .i64 b]]⟩:=by kernel_rfl
def k:Code:=Code.sub [] iK
def k0:Code:=Code.sub [false] iK
def k00:Code:=Code.sub [false,false] iK
def k01:Code:=Code.sub [false,true] iK
def aOK:Code:=Code.sub [false,true,false] iK
theorem bJT:aOK = .label 0:=by kernel_rfl
def a8R:Code:=Code.sub [false,true,true] iK
def aOL:Code:=Code.sub [false,true,true,false] iK
def KZ:Code:=Code.sub [false,true,true,false,false] iK
def a8S:Code:=Code.sub [false,true,true,false,false,false] iK
def bJU:Code:=Code.sub [false,true,true,false,false,false,false] iK
def a0Y:Code:=Code.sub [false,true,true,false,false,false,true] iK
def bJV:Code:=Code.sub [false,true,true,false,false,false,true,false] iK
def a0Z:Code:=Code.sub [false,true,true,false,false,false,true,true] iK
def bJW:Code:=Code.sub [false,true,true,false,false,false,true,true,false] iK
def a1A:Code:=Code.sub [false,true,true,false,false,false,true,true,true] iK
def bJX:Code:=Code.sub [false,true,true,false,false,false,true,true,true,false] iK
def PN:Code:=Code.sub [false,true,true,false,false,false,true,true,true,true] iK
def aOM:Code:=Code.sub [false,true,true,false,false,false,true,true,true,true,false] iK
def bJY:Code:=Code.sub [false,true,true,false,false,false,true,true,true,true,false,false] iK
def a1B:Code:=Code.sub [false,true,true,false,false,false,true,true,true,true,false,true] iK
def aON:Code:=Code.sub [false,true,true,false,false,false,true,true,true,true,false,true,false] iK
def Ko:Code:=Code.sub [false,true,true,false,false,false,true,true,true,true,false,true,false,false] iK
theorem bK3:Ko = .region 10 (opsOf Ko) false:=by kernel_rfl
def a8U:Code:=Code.sub [false,true,true,false,false,false,true,true,true,true,false,true,false,true] iK
theorem bK4:a8U = .ret:=by kernel_rfl
theorem bK5:aON = .seq Ko a8U:=by kernel_rfl
def aOO:Code:=Code.sub [false,true,true,false,false,false,true,true,true,true,false,true,true] iK
theorem bK6:aOO = .skip:=by kernel_rfl
theorem aOP:a1B = .cond (.tmp 41) aON aOO:=by kernel_rfl
theorem aOQ:aOM = .seq bJY a1B:=by kernel_rfl
def a1D:Code:=Code.sub [false,true,true,false,false,false,true,true,true,true,true] iK
def bK7:Code:=Code.sub [false,true,true,false,false,false,true,true,true,true,true,false] iK
def a8V:Code:=Code.sub [false,true,true,false,false,false,true,true,true,true,true,true] iK
def bK8:Code:=Code.sub [false,true,true,false,false,false,true,true,true,true,true,true,false] iK
def a8W:Code:=Code.sub [false,true,true,false,false,false,true,true,true,true,true,true,true] iK
def aOR:Code:=Code.sub [false,true,true,false,false,false,true,true,true,true,true,true,true,false] iK
def a8X:Code:=Code.sub [false,true,true,false,false,false,true,true,true,true,true,true,true,true] iK
def aOS:Code:=Code.sub [false,true,true,false,false,false,true,true,true,true,true,true,true,true,false] iK
def xO:Code:=Code.sub [false,true,true,false,false,false,true,true,true,true,true,true,true,true,false,false] iK
theorem bKE:xO = .region 19 (opsOf xO) false:=by kernel_rfl
def a1F:Code:=Code.sub [false,true,true,false,false,false,true,true,true,true,true,true,true,true,false,true] iK
def aOT:Code:=Code.sub [false,true,true,false,false,false,true,true,true,true,true,true,true,true,false,true,false] iK
theorem bKF:aOT = .ret:=by kernel_rfl
def aOU:Code:=Code.sub [false,true,true,false,false,false,true,true,true,true,true,true,true,true,false,true,true] iK
theorem bKG:aOU = .skip:=by kernel_rfl
theorem aOV:a1F = .cond (.tmp 80) aOT aOU:=by kernel_rfl
theorem bKH:aOS = .seq xO a1F:=by kernel_rfl
def a8Z:Code:=Code.sub [false,true,true,false,false,false,true,true,true,true,true,true,true,true,true] iK
def bKI:Code:=Code.sub [false,true,true,false,false,false,true,true,true,true,true,true,true,true,true,false] iK
def a90:Code:=Code.sub [false,true,true,false,false,false,true,true,true,true,true,true,true,true,true,true] iK
theorem bKJ:a90 = .exit 1:=by kernel_rfl
theorem bKK:a8Z = .seq bKI a90:=by kernel_rfl
theorem bKL:a8X = .seq aOS a8Z:=by kernel_rfl
theorem bKM:a8W = .seq aOR a8X:=by kernel_rfl
theorem bKN:a8V = .seq bK8 a8W:=by kernel_rfl
theorem bKO:a1D = .seq bK7 a8V:=by kernel_rfl
theorem aOW:PN = .seq aOM a1D:=by kernel_rfl
theorem bKP:a1A = .seq bJX PN:=by kernel_rfl
theorem bKQ:a0Z = .seq bJW a1A:=by kernel_rfl
theorem bKR:a0Y = .seq bJV a0Z:=by kernel_rfl
theorem bKS:a8S = .seq bJU a0Y:=by kernel_rfl
theorem a94:KZ = .block 1 a8S:=by kernel_rfl
theorem bKT:aOL = .loop KZ:=by kernel_rfl
theorem bKU:a8R = .block 0 aOL:=by kernel_rfl
theorem bKV:k01 = .seq aOK a8R:=by kernel_rfl
theorem bKW:k0 = .seq k00 k01:=by kernel_rfl
theorem bKX:k = .scope k0:=by kernel_rfl
def a1C:Oper:=(opsOf Ko)[4]!
def a8T:Call:=match a1C.op with | .call c=>c | _=>default
theorem bJZ:a1C.op = .call a8T:=by kernel_rfl
theorem bJ':a1C.guard=none:=by kernel_rfl
theorem bK0:a8T.callee = .value (.tmp 42):=by kernel_rfl
theorem bK1:a8T.args = #[(.tmp 45),(.const (.int .i64 0))]:=by kernel_rfl
theorem bK2:(opsOf Ko).toList=((opsOf Ko).toList.drop 0).take 4 ++ a1C::((opsOf Ko).toList.drop 5).take 5:=by kernel_rfl
def a1E:Oper:=(opsOf xO)[5]!
def a8Y:Call:=match a1E.op with | .call c=>c | _=>default
theorem bK9:a1E.op = .call a8Y:=by kernel_rfl
theorem bKA:a1E.guard=none:=by kernel_rfl
theorem bKB:a8Y.callee = .value (.tmp 70):=by kernel_rfl
theorem bKC:a8Y.args = #[(.tmp 73),(.tmp 74)]:=by kernel_rfl
theorem bKD:(opsOf xO).toList=((opsOf xO).toList.drop 0).take 5 ++ a1E::((opsOf xO).toList.drop 6).take 5:=by kernel_rfl
def vC:bZ'->Nat->Nat×Nat->Nat×Nat
 | [],_,p=>p
 | b::l,i,p=>vC l (i+1) (if b=10 then (p.1+1,i+1) else p)
def bg (l:bZ'):Tok×Int:=match l with
 | []=>Eb []
 | b::l=>if iG b.toNat then CG (b::l) else if isLet b.toNat then Ci (b::l) else Eb (b::l)
inductive Gx where
 | ok (ts:List Tok)
 | err (line uq e:Int)
def Tok.at (t:Tok) (line uq:Int):Tok := { t with line:=line,uq:=uq }
def wP:Nat->bZ'->Nat->Nat->Nat->List Tok->Gx
 | 0,_,_,_,_,_ => .err 0 0 0
 | f+1,rest,i,line,start,acc =>
  let g:=jD false rest
  let p:=vC (rest.take g) i (line,start)
  match rest.drop g with
  | [] => .ok (acc ++ [(⟨4,[],0,(p.1:Nat),((i+g-p.2+1:Nat):Int)⟩:Tok)])
  | b::r =>
   if (bg (b::r)).2=0 then wP f ((b::r).drop (bg (b::r)).1.text.length) (i+g+(bg (b::r)).1.text.length) p.1 p.2 (acc ++ [(bg (b::r)).1.at (p.1:Nat) ((i+g-p.2+1:Nat):Int)])
   else .err (p.1:Nat) ((i+g-p.2+1:Nat):Int) (bg (b::r)).2
theorem QS:∀ (c:Bool) (l:bZ'),jD c l<=l.length
 | _,[]=>by cases ‹Bool› <;> simp[jD]
 | true,b::l=>by have h1:=QS false l;have h2:=QS true l;rw[jD]; split<;>simp<;>omega
 | false,b::l=>by have h1:=QS false l;have h2:=QS true l;rw[jD]; grind
theorem aA5:∀ (l:bZ') (i:Nat) (p:Nat×Nat),p.2<=i->(vC l i p).2<=i+l.length/\p.1<=(vC l i p).1/\(vC l i p).1<=p.1+l.length
 | [],i,p,h=>by simp[vC,h]
 | b::l,i,p,h=>by
  rw[vC];split
  .have:=aA5 l (i+1) (p.1+1,i+1) (by simp);simp only[bM] at *; omega
  .have:=aA5 l (i+1) p (by omega);simp only[bM]; omega
theorem bRO {p:Nat->Bool} {b:UInt8} {l:bZ'} (h:p b.toNat=true):0<(gZ p (b::l)).length:=by grind [gZ,List.takeWhile_cons]
theorem aV8 {l x:bZ'} (h:Ce l=some x):x∈jS/\x.isPrefixOf l=true:=by grind [Ce]
theorem aCY:∀ x∈jS,0<x.length/\x.length<=2:=by decide
theorem Vb {b:UInt8} {r:bZ'} (h:(bg (b::r)).2=0):0<(bg (b::r)).1.text.length/\(bg (b::r)).1.text.length<=(b::r).length:=by rw[show bg (b::r)=if iG b.toNat then CG (b::r) else if isLet b.toNat then Ci (b::r) else Eb (b::r) from rfl] at h ⊢;grind [bRO,aTF,CG,o8,Ci,Eb,Ce,aCY]
def jH (l:Nat) (rc:Loop) (out:Nat->Nat):YC:=⟨LU,lV,l,7,rc,out,[(2,.ptr 0 0),(3,.ptr 1 0),(4,.ptr 2 0),(5,.ptr 3 0)]⟩
structure Np (rc:Loop):Prop where
 par:rc.params = #[13,14]
 Xz:rc.assign=EW
 YB:rc.body=Ap
 tm:rc.tmps.size=27
theorem a4Z {l:Nat} {rc:Loop} {out:Nat->Nat} (ho:1<=out l):(jH l rc out).OK:=⟨Bv,rfl,ho⟩
section
variable {l:Nat} {rc:Loop} {out:Nat->Nat}
theorem pc (ho:1<=out l) {c:Code} {Q:AX->ASt->AX->Prop} {j ax:AX} (h:∀ K,bH Ai c K Z=K ax Zt) (hq:Q ax Zt j):Tr (jH l rc out) c Q j Z :=Tr.aAA (a4Z ho) (Ii (X:=Ai) dQ.V dQ.W (NL Bv dQ Eh) (Xb Bv dQ Eh rfl) h) (by simp_all)
theorem a2F {ops:Array Oper} {os:List Oper} (h:∀ K:ASt->R,jm Ai false ops os K Z=K Zt):lQ LU ops os (fun Z'=>Z'=Zt) Z:=by
 have h1:jm Ai false ops os (fun Z'=>Q4 .normal Zt .normal Z') Z=some (.nilp,[]):=by rw[h]; simp[Q4]
 refine DN (fun Z' he => ?_) _ (TE (X:=Ai) dQ.V dQ.W (NL Bv dQ Eh) os h1);grind [Q4]
end
abbrev sl5 (l:Nat) (s:ByteArray) (t:fP):fP:=(0,.func (.yield l) [] [])::(1,.cst (.str s))::(3,.ptr 4 0)::(4,.ptr 5 0)::(5,.ptr 6 0)::t
theorem take_drop_succ {α:Type} {l:List α} {i m:Nat} (h:i<l.length):(l.drop i).take (m+1)=l[i]::(l.drop (i+1)).take m:=by rw[D5 h,List.take_succ_cons]
theorem bLG (l:Nat) (K:AX->ASt->R) (full:bZ') (L:bZZ) (c1 c2 c3:Int) (at_ g:Nat) (hg:at_+g<=full.length) (hf:full.length<=1000000):∀ (m i line start:Nat),i+m=at_+g->line<=i+1 ->
 VS l K (bs full) (g:Int) (i:Int) L c1 c2 c3 (line:Int) (start:Int) (at_:Int) =
  K .normal ⟨sl5 l (bs full) [(6,.int .i64 (g:Int)),(7,.int .i64 ((at_+g:Nat):Int)),(19,.int .i64 ((at_+g:Nat):Int)),(20,.int .i64 (at_:Int)),(21,.int .i64 (g:Int)),(22,.int .i64 ((at_+g:Nat):Int)),(23,.bool false)],
   lZ L c1 c2 c3 ((vC ((full.drop i).take m) i (line,start)).1:Nat) ((vC ((full.drop i).take m) i (line,start)).2:Nat) (at_:Int)⟩:=by
 have hw:i64.wrap ((at_:Int)+(g:Int))=((at_+g:Nat):Int):=by rw[wrap64 (by omega) (by omega)]; omega
 intro m;induction m with
 | zero =>
  intro i line start hi hl;rw[aS8,hw,aW (by omega),aC,List.take_zero];have:i=at_+g:=by omega
  subst this;rfl
 | succ m ih =>
  intro i line start hi hl;have hlt:i<full.length:=by omega
  rw[aS8,hw,aN (by omega),aI,Ew (b:=full[i]) (by omega) (by rw[H9]; simp[hlt]),show ((full[i].toNat:Int)==10)=(full[i].toNat==10) from Jg _ 10,bU (by omega),bU (by omega),take_drop_succ hlt,vC];by_cases hb:full[i]=10
  .rw[hb,show ((10:UInt8).toNat==10)=true from rfl,aI,aX rfl];grind
  .have:(full[i].toNat==10)=false:=by rw[qc]; intro e; exact hb (UInt8.toNat_inj.1 (by rw[e]; rfl))
   rw[this,aC,aV hb];grind
def QJ (b:UInt8):Nat:=if iG b.toNat then 269 else if isLet b.toNat then 267 else 205
theorem bRL (l:Nat) (K:AX->ASt->R) (full:bZ') (L:bZZ) (c1 c2 c3 line start:Int) (at_:Nat) (h:at_<full.length) :
 bH Ai aAQ K ⟨sl5 l (bs full) [(8,mg),(9,.func (.func 205) [] [])],lZ L c1 c2 c3 line start (at_:Int)⟩=K .normal ⟨sl5 l (bs full) [(8,mg),(9,.func (.func (QJ full[at_])) [] []),(47,.sl false 2 RL),(48,.int .i64 (RL.length:Int)),(49,.int .i64 2),(50,.bool false)],lZ L c1 c2 c3 line start (at_:Int)⟩:=by
 have hb:((bs full)[(at_:Int).toNat]? : Option UInt8)=some full[at_]:=by rw[pG,H9]; simp[h]
 rw[aX2,aW',Ew (by omega) hb,qQ (c78 _),zu];grind [QJ,isLet,aC,aX0,Ew,qQ,c80,zu,aX1,aI]
theorem YF (full:bZ') (i:Nat):(bs full).extract i (bs full).size=bs (full.drop i):=by rw[mf,SN,Qw (by simp)]
section
variable {l:Nat} {rc:Loop} {out:Nat->Nat}
theorem aAX (ho:1<=out l) {L:bZZ} {c1 c2 c3:Int} {i g line start:Nat} {Q:AX->ASt->AX->Prop} (hf:full.length<=1000000) (hi:i<=full.length) (hl:line<=i+1) (hg:jD false (full.drop i)=g) 
 (h:Tr (jH l rc out) PN Q .normal ⟨sl5 l (bs full) [(8,mg)],lZ L c1 c2 c3 ((vC ((full.drop i).take g) i (line,start)).1:Nat) ((vC ((full.drop i).take g) i (line,start)).2:Nat) ((i+g:Nat):Int)⟩) :
 Tr (jH l rc out) a8S Q .normal ⟨sl5 l (bs full) [],lZ L c1 c2 c3 (line:Int) (start:Int) (i:Int)⟩:=by
 have hgl:=QS false (full.drop i);rw[hg,xw] at hgl;generalize hp:vC ((full.drop i).take g) i (line,start)=p at h;rw[bKS];refine Tr.seq (pc (Zt:=⟨sl5 l (bs full) [(6,.int .i64 (g:Int)),(14,.str (bs full)),(15,.int .i64 (i:Int)),(16,.str (bs (full.drop i))),(17,.int .i64 (g:Int))],lZ L c1 c2 c3 line start i⟩) (ax := .normal) ho (fun K => ?_) ?_)
 .refine (bNV l K (bs full) L c1 c2 c3 line start i).trans ?_;rw[aQ (by rw[mf]; simp; omega),pG,YF,qQ (c59 (full.drop i) (by simp; omega)),ui,hg]
 show Tr (jH l rc out) a0Y Q .normal _;refine Tr.gc (l := [0,1,3,4,5,6]) (m:=7) (fK _) rfl ?_;show Tr (jH l rc out) a0Y Q .normal ⟨sl5 l (bs full) [(6,.int .i64 (g:Int))],lZ L c1 c2 c3 line start i⟩;rw[bKR];refine Tr.seq (pc (Zt:=⟨sl5 l (bs full) [(6,.int .i64 (g:Int)),(7,.int .i64 ((i+g:Nat):Int)),(19,.int .i64 ((i+g:Nat):Int)),(20,.int .i64 (i:Int)),(21,.int .i64 (g:Int)),(22,.int .i64 ((i+g:Nat):Int)),(23,.bool false)],lZ L c1 c2 c3 (p.1:Nat) (p.2:Nat) i⟩) (ax := .normal) ho (fun K => ?_) ?_)
 .refine (bN' l K (bs full) g L c1 c2 c3 line start i).trans ?_;rw[bLG l K full L c1 c2 c3 i g (by omega) hf g i line start rfl hl,hp]
 show Tr (jH l rc out) a0Z Q .normal _;refine Tr.gc (l := [0,1,3,4,5,6]) (m:=7) (fK _) rfl ?_;show Tr (jH l rc out) a0Z Q .normal ⟨sl5 l (bs full) [(6,.int .i64 (g:Int))],lZ L c1 c2 c3 (p.1:Nat) (p.2:Nat) i⟩;rw[bKQ];refine Tr.seq (pc (ax := .normal) ho (fun K=>bO4 l K (bs full) g L c1 c2 c3 (p.1:Nat) (p.2:Nat) i) ?_);show Tr (jH l rc out) a1A Q .normal _;refine Tr.gc (l := [0,1,3,4,5]) (m:=7) (fK _) rfl ?_;rw[show i64.wrap ((i:Int)+(g:Int))=((i+g:Nat):Int) by rw[wrap64 (by omega) (by omega)]; omega];show Tr (jH l rc out) a1A Q .normal ⟨sl5 l (bs full) [],lZ L c1 c2 c3 (p.1:Nat) (p.2:Nat) ((i+g:Nat):Int)⟩;rw[bKP];refine Tr.seq (pc (ax := .normal) ho (fun K=>bO9 l K (bs full) L c1 c2 c3 (p.1:Nat) (p.2:Nat) ((i+g:Nat):Int)) ?_);show Tr (jH l rc out) PN Q .normal _;exact Tr.gc (l := [0,1,3,4,5,8]) (m:=7) (fK _) rfl h
theorem aGV {i start:Nat} (h1:start<=i) (h2:i<=1000000):i64.wrap (i64.wrap ((i:Int)-(start:Int))+1)=((i-start+1:Nat):Int):=by rw[wrap64 (n:=(i:Int)-start) (by omega) (by omega),wrap64 (by omega) (by omega)]; omega
theorem a'U (ho:1<=out l) (hrc:Np rc) {L:bZZ} {c1 c2 c3:Int} {i line start:Nat} {Q:AX->ASt->AX->Prop} (hf:full.length<=1000000) (hi:i=full.length) (hs:start<=i) (hL:L.length+1<=aO) 
 (h:∀ Z,Z.h.take 4 = [some [.sl true 5 (L ++ [bK ⟨4,[],0,(line:Int),((i-start+1:Nat):Int)⟩])],some [.int .i64 c1],some [.int .i64 c2],some [.int .i64 c3]]->Q .ret Z .normal) :
 Tr (jH l rc out) PN Q .normal ⟨sl5 l (bs full) [(8,mg)],lZ L c1 c2 c3 (line:Int) (start:Int) (i:Int)⟩:=by
 rw[aOW];refine Tr.seq ?_;rw[aOQ];refine Tr.seq (pc (ax := .normal) ho (fun K=>aSA l K (bs full) L c1 c2 c3 line start i) ?_);show Tr (jH l rc out) a1B _ .normal _;rw[show ((i:Int)==((bs full).size:Int))=true by rw[mf,hi]; simp,aOP];refine Tr.cond (b:=true) rfl (fun _ => ?_) (fun h=>by cases h);rw[bK5];refine Tr.seq ?_;rw[bK3];refine Tr.gc (l := [0,1,3,4,5,8]) (m:=7) (fK _) rfl ?_;refine Tr.yield (a4Z ho) bK2 bJZ bJ' bK0 bK1 hrc.par (by decide) (show 14<27 by decide) ?_ ?_ hrc.tm (by show og rc.assign=true; rw[hrc.Xz]; exact aTS) (by show og rc.body=true; rw[hrc.YB]; exact aTT) ?_;grind [jH]
 .simp[jM,jH]
 .refine DN (fun Z1 hZ => ?_) _ (a2F (Zt:=⟨sl5 l (bs full) [(8,mg),(42,.func (.yield l) [] []),(43,mg),(44,.agg [.int .i64 4,.str ⟨#[]⟩,.int .i64 0,.int .i64 0,.int .i64 0]),(45,.agg [.int .i64 4,.str ⟨#[]⟩,.int .i64 0,.int .i64 (line:Int),.int .i64 ((i-start+1:Nat):Int)])],lZ L c1 c2 c3 line start i⟩) fun K => ?_)
  .subst hZ;have hr:=bS7 L c1 c2 c3 line start i 4 ⟨#[]⟩ 0 line ((i-start+1:Nat):Int) 0 hL;refine ⟨.agg [.int .i64 4,.str ⟨#[]⟩,.int .i64 0,.int .i64 (line:Int),.int .i64 ((i-start+1:Nat):Int)],.int .i64 0,fun ax Z'=>if (0:Int)=0 then ax = .normal/\Z'=aCN L c1 c2 c3 line start i 4 ⟨#[]⟩ 0 line ((i-start+1:Nat):Int) 0 else ax = .ret/\Z'=aCL L c1 c2 c3 line start i 4 ⟨#[]⟩ 0 line ((i-start+1:Nat):Int) 0,rfl,rfl,rfl,fK _,?_,?_⟩
   .show dS lV 7 rc.assign (DY (dS lV 7 rc.body _) fun _ _=>False) _;rw[hrc.Xz,hrc.YB];exact hr
   .intro ax Z' hq;rw[aX rfl] at hq;obtain ⟨rfl,rfl⟩:=hq;refine ⟨rfl,?_⟩;show Tr (jH l rc out) a8U _ .normal _;rw[bK4];exact Tr.ret (h _ rfl)
  .refine Eq.trans (b:=jm aSB false (opsOf a2H) (((opsOf a2H).toList.drop 0).take 4) K ⟨sl5 l (bs full) [(8,mg)],lZ L c1 c2 c3 line start i⟩) rfl ?_;refine (bOG l (fun _=>K) (bs full) L c1 c2 c3 line start i).trans ?_;unfold AO;rw[aKQ,aGV hs (by omega)];rfl
end
abbrev h6 (t:Tok):bZZ := [.int .i64 t.kind,.str (bs t.text),.int .i64 t.value,.int .i64 t.line,.int .i64 t.uq]
theorem bQP (l:Nat) (K:AX->ASt->R) (full:bZ') (L:bZZ) (c1 c2 c3 line start:Int) (i:Nat) (h:i<full.length) (hf:full.length<=1000000) :
 bH Ai aOR K ⟨sl5 l (bs full) [(8,mg),(9,.func (.func (QJ full[i])) [] [])],lZ L c1 c2 c3 line start (i:Int)⟩ =
  K .normal ⟨sl5 l (bs full) [(8,mg),(9,.func (.func (QJ full[i])) [] []),(12,.ptr 7 0),(13,.int .i64 (bg (full.drop i)).2),(62,rd (bg (full.drop i))),(63,.func (.func (QJ full[i])) [] []),(64,.str (bs full)),(65,.int .i64 (i:Int)),(66,.str (bs (full.drop i))),(67,rd (bg (full.drop i))),(68,bK (bg (full.drop i)).1),(69,.int .i64 (bg (full.drop i)).2)],
   lZ L c1 c2 c3 line start (i:Int) ++ [some (h6 (bg (full.drop i)).1)]⟩:=by
 have e:full.drop i=full[i]::full.drop (i+1):=D5 h;have hc:(decide (0<=(i:Int))&&decide ((i:Int)<=((bs full).size:Int)))=true:=by rw[mf]; simp; omega
 have hl:(full.drop i).length<=1000000:=by simp; omega
 unfold QJ;cases hd:iG full[i].toNat with
 | true =>
  have hr:bg (full.drop i)=CG (full.drop i):=by rw[e]; simp[bg,hd]
  refine (bO' l K (bs full) L c1 c2 c3 line start i).trans ?_;rw[aQ hc,pG,YF,qQ (c81 _ hl),hr];rfl
 | false =>
  cases hw:isLet full[i].toNat with
  | true =>
   have hr:bg (full.drop i)=Ci (full.drop i):=by rw[e]; simp[bg,hd,hw]
   refine (bOV l K (bs full) L c1 c2 c3 line start i).trans ?_;rw[aQ hc,pG,YF,qQ (c79 _ hl),hr];rfl
  | false =>
   have hr:bg (full.drop i)=Eb (full.drop i):=by rw[e]; simp[bg,hd,hw]
   refine (bOQ l K (bs full) L c1 c2 c3 line start i).trans ?_;rw[aQ hc,pG,YF,qQ (c61 _),hr];rfl
theorem bPX (l:Nat) (K:ASt->R) (s:ByteArray) (tk WE:PV) (h:aG):jm Ai false (opsOf xO) (((opsOf xO).toList.drop 6).take 5) K ⟨sl5 l s [(8,mg),(12,.ptr 7 0),(13,.int .i64 0),(70,.func (.yield l) [] []),(71,mg),(72,tk),(73,WE),(74,.int .i64 0),(75,.bool true)],h⟩=K ⟨sl5 l s [(8,mg),(12,.ptr 7 0),(13,.int .i64 0),(70,.func (.yield l) [] []),(71,mg),(72,tk),(73,WE),(74,.int .i64 0),(75,.bool true),(76,.bool false),(77,.bool false),(78,.int .i64 0),(79,.bool false),(80,.bool false)],h⟩:=by kernel_rfl
theorem bPW (l:Nat) (K:ASt->R) (s:ByteArray) (e:Int) (tk WE:PV) (h:aG):jm Ai false (opsOf xO) (((opsOf xO).toList.drop 6).take 5) K ⟨sl5 l s [(8,mg),(12,.ptr 7 0),(13,.int .i64 e),(70,.func (.yield l) [] []),(71,mg),(72,tk),(73,WE),(74,.int .i64 e),(75,.bool false)],h⟩=K ⟨sl5 l s [(8,mg),(12,.ptr 7 0),(13,.int .i64 e),(70,.func (.yield l) [] []),(71,mg),(72,tk),(73,WE),(74,.int .i64 e),(75,.bool false),(76,.bool true),(77,.bool true),(78,.tuple []),(79,.tuple []),(80,.bool true)],h⟩:=by kernel_rfl
section
variable {l:Nat} {rc:Loop} {out:Nat->Nat}
theorem aVH (ho:1<=out l) (hrc:Np rc) {L:bZZ} {c1 c2 c3:Int} {i line start:Nat} {Q:AX->ASt->AX->Prop} (hf:full.length<=1000000) (hi:i<full.length) (hs:start<=i) (hL:L.length+1<=aO) 
 (h0:(bg (full.drop i)).2=0->∀ Z,Dt [0,1,3,4,5] 7 Z=true->Z.gc [0,1,3,4,5] 7=⟨sl5 l (bs full) [],lZ (L ++ [bK ((bg (full.drop i)).1.at (line:Int) ((i-start+1:Nat):Int))]) c1 c2 c3 line start (i64.wrap ((i:Int)+((bg (full.drop i)).1.text.length:Int)))⟩->Q (.exit 1) Z .normal)
 (h1:(bg (full.drop i)).2≠0->∀ Z,Z.h.take 4 = [some [.sl true 0 []],some [.int .i64 (line:Int)],some [.int .i64 ((i-start+1:Nat):Int)],some [.int .i64 (bg (full.drop i)).2]]->Q .ret Z .ret) :
 Tr (jH l rc out) PN Q .normal ⟨sl5 l (bs full) [(8,mg)],lZ L c1 c2 c3 (line:Int) (start:Int) (i:Int)⟩:=by
 rw[aOW];refine Tr.seq ?_;rw[aOQ];refine Tr.seq (pc (ax := .normal) ho (fun K=>aSA l K (bs full) L c1 c2 c3 line start i) ?_);show Tr (jH l rc out) a1B _ .normal _;rw[show ((i:Int)==((bs full).size:Int))=false by rw[mf,qc]; omega,aOP];refine Tr.cond (b:=false) rfl (fun h=>by cases h) (fun _ => ?_);rw[bK6];refine Tr.skip ?_;show Tr (jH l rc out) a1D Q .normal _;refine Tr.gc (l := [0,1,3,4,5,8]) (m:=7) (fK _) rfl ?_;show Tr (jH l rc out) a1D Q .normal ⟨sl5 l (bs full) [(8,mg)],lZ L c1 c2 c3 (line:Int) (start:Int) (i:Int)⟩;rw[bKO];refine Tr.seq (pc (ax := .normal) ho (fun K=>bOL l K (bs full) L c1 c2 c3 line start i) ?_);show Tr (jH l rc out) a8V Q .normal _;rw[bKN];refine Tr.seq (pc (ax := .normal) ho (fun K=>bRL l K full L c1 c2 c3 line start i hi) ?_);show Tr (jH l rc out) a8W Q .normal _;refine Tr.gc (l := [0,1,3,4,5,8,9]) (m:=7) (fK _) rfl ?_;rw[bKM];refine Tr.seq (pc (ax := .normal) ho (fun K=>bQP l K full L c1 c2 c3 line start i hi hf) ?_);generalize bg (full.drop i)=te at *;obtain ⟨⟨tk,tt,tv,tl,tc⟩,e⟩:=te;show Tr (jH l rc out) a8X Q .normal _;refine Tr.gc (l := [0,1,3,4,5,8,12,13]) (m:=8) (show 7<=8 by decide) rfl ?_;rw[bKL];refine Tr.seq ?_;rw[bKH];refine Tr.seq ?_;rw[bKE];refine Tr.yield (a4Z ho) bKD bK9 bKA bKB bKC hrc.par (by decide) (show 14<27 by decide) ?_ ?_ hrc.tm (by show og rc.assign=true; rw[hrc.Xz]; exact aTS) (by show og rc.body=true; rw[hrc.YB]; exact aTT) ?_;grind [jH]
 .simp[jM,jH]
 .refine DN (fun Z1 hZ => ?_) _ (a2F (Zt:=⟨sl5 l (bs full) [(8,mg),(12,.ptr 7 0),(13,.int .i64 e),(70,.func (.yield l) [] []),(71,mg),(72,bK ⟨tk,tt,tv,tl,tc⟩),(73,bK ⟨tk,tt,tv,(line:Int),((i-start+1:Nat):Int)⟩),(74,.int .i64 e)],lZ L c1 c2 c3 line start i ++ [some (h6 ⟨tk,tt,tv,tl,tc⟩)]⟩) fun K => ?_)
  .subst hZ;have hr:=bS8 L c1 c2 c3 line start i tk (bs tt) tv tl tc tk (bs tt) tv line ((i-start+1:Nat):Int) e hL;refine ⟨bK ⟨tk,tt,tv,(line:Int),((i-start+1:Nat):Int)⟩,.int .i64 e,fun ax Z'=>if e=0 then ax = .normal/\Z'=aCO L c1 c2 c3 line start i tk (bs tt) tv tl tc tk (bs tt) tv line ((i-start+1:Nat):Int) e else ax = .ret/\Z'=aCM L c1 c2 c3 line start i tk (bs tt) tv tl tc tk (bs tt) tv line ((i-start+1:Nat):Int) e,rfl,rfl,rfl,show 7<=8 by decide,?_,?_⟩
   .show dS lV 8 rc.assign (DY (dS lV 8 rc.body _) fun _ _=>False) _;rw[hrc.Xz,hrc.YB];exact hr
   .intro ax Z' hq;by_cases he:e=0
    .rw[aX he] at hq;obtain ⟨rfl,rfl⟩:=hq;subst he;refine ⟨rfl,?_⟩;show lQ LU (opsOf xO) (((opsOf xO).toList.drop 6).take 5) _ _;refine DN (fun Z3 hZ3 => ?_) _ (a2F fun K=>bPX l K (bs full) _ _ _);subst hZ3;show Tr (jH l rc out) a1F _ .normal _;rw[aOV];refine Tr.cond (b:=false) rfl (fun h=>by cases h) (fun _ => ?_);rw[bKG];refine Tr.skip ?_;show Tr (jH l rc out) a8Z Q .normal _;refine Tr.gc (l := [0,1,3,4,5,12]) (m:=8) (show 7<=8 by decide) rfl ?_;rw[bKK];refine Tr.seq (pc (ax := .normal) ho (fun K=>bP7 l K (bs full) (L ++ [bK ⟨tk,tt,tv,(line:Int),((i-start+1:Nat):Int)⟩]) c1 c2 c3 line start i tk (bs tt) tv tl tc) ?_);show Tr (jH l rc out) a90 Q .normal _;rw[bKJ];refine Tr.exit (h0 rfl _ rfl ?_);rw[mf];rfl
    .rw[aV he] at hq;obtain ⟨rfl,rfl⟩:=hq;refine ⟨rfl,?_⟩;show lQ LU (opsOf xO) (((opsOf xO).toList.drop 6).take 5) _ _;refine DN (fun Z3 hZ3 => ?_) _ (a2F fun K=>bPW l K (bs full) e _ _ _);subst hZ3;show Tr (jH l rc out) a1F _ .ret _;rw[aOV];refine Tr.cond (b:=true) rfl (fun _ => ?_) (fun h=>by cases h);rw[bKF];exact Tr.ret (h1 he _ rfl)
  .refine Eq.trans (b:=jm aSC false (opsOf a2I) (((opsOf a2I).toList.drop 0).take 5) K ⟨sl5 l (bs full) [(8,mg),(12,.ptr 7 0),(13,.int .i64 e)],lZ L c1 c2 c3 line start i ++ [some (h6 ⟨tk,tt,tv,tl,tc⟩)]⟩) rfl ?_;refine (bP2 l (fun _=>K) (bs full) e L c1 c2 c3 line start i tk (bs tt) tv tl tc).trans ?_;unfold AO;rw[aKQ,aGV hs (by omega)];rfl
end
def s:Code:=Code.sub [] wK
def s0:Code:=Code.sub [false] wK
def s1:Code:=Code.sub [true] wK
def s10:Code:=Code.sub [true,false] wK
def s11:Code:=Code.sub [true,true] wK
def aTK:Code:=Code.sub [true,true,false] wK
def aCF:Code:=Code.sub [true,true,false,false] wK
def aCG:Code:=Code.sub [true,true,false,true] wK
def aTL:Code:=Code.sub [true,true,false,true,false] wK
theorem bRU:aTL = .rangeFunc (.tmp 12) #[13,14] EW Ap:=by kernel_rfl
theorem bRV:aCG = .block 0 aTL:=by kernel_rfl
theorem bRW:aTK = .seq aCF aCG:=by kernel_rfl
def aCH:Code:=Code.sub [true,true,true] wK
def aTM:Code:=Code.sub [true,true,true,false] wK
def aCI:Code:=Code.sub [true,true,true,true] wK
theorem bRY:aCI = .ret:=by kernel_rfl
theorem bRZ:aCH = .seq aTM aCI:=by kernel_rfl
theorem bR':s11 = .seq aTK aCH:=by kernel_rfl
theorem bS0:s1 = .seq s10 s11:=by kernel_rfl
theorem bS4:s = .seq s0 s1:=by kernel_rfl
def s_E:AE:=SS.ae 24 27
def Lr:XE:=SS.xe SS.CC SS.LL s_E 0
abbrev Iy (s:ByteArray) (t:fP):fP:=(0,.str s)::(2,.ptr 0 0)::(3,.ptr 1 0)::(4,.ptr 2 0)::(5,.ptr 3 0)::t
abbrev sF (o:Bool) (z:Nat) (L:bZZ) (a b c:Int):aG := [some [.sl o z L],some [.int .i64 a],some [.int .i64 b],some [.int .i64 c]]
theorem c31 (s:ByteArray):SS.CC 119 [.str s] []=some (.func (.func 202) [] [.cst (.str s)],[]):=(uI dQ rfl).trans (by kernel_rfl)
theorem bRS (K:AX->ASt->R) (s:ByteArray):bH Lr s0 K ⟨[(0,.str s)],[]⟩=K .normal ⟨Iy s [],sF true 0 [] 0 0 0⟩:=by kernel_rfl
theorem aTJ (K:AX->ASt->R) (s:ByteArray):bH Lr s10 K ⟨Iy s [],sF true 0 [] 0 0 0⟩=aA (decide ((65536:Int)<(s.size:Int))) (K .ret ⟨Iy s [],sF true 0 [] 1 1 15⟩) (K .normal ⟨Iy s [(8,.str s),(9,.int .i64 (s.size:Int)),(10,.bool false)],sF true 5 [] 0 0 0⟩):=by kernel_rfl
theorem bRT (K:AX->ASt->R) (s:ByteArray):bH Lr aCF K ⟨Iy s [],sF true 5 [] 0 0 0⟩=K .normal ⟨Iy s [(11,.str s),(12,.func (.func 202) [] [.cst (.str s)])],sF true 5 [] 0 0 0⟩:=by
 have:bH Lr aCF K ⟨Iy s [],sF true 5 [] 0 0 0⟩=jO SS.CC 119 [.str s] fun r=>SS.W 31 [] r [] fun r' _=>(match PV.flat r' with | true=>K .normal ⟨Iy s [(11,.str s),(12,r')],sF true 5 [] 0 0 0⟩ | false=>none):=by kernel_rfl
 refine this.trans ((qQ (c31 s)).trans ?_);kernel_rfl
theorem bRX (K:AX->ASt->R) (L:bZZ):bH Lr aTM K ⟨[(2,.ptr 0 0),(3,.ptr 1 0),(4,.ptr 2 0),(5,.ptr 3 0)],sF true 5 L 0 0 0⟩=K .normal ⟨[(2,.ptr 0 0),(3,.ptr 1 0),(4,.ptr 2 0),(5,.ptr 3 0),(26,.sl false 5 L)],sF false 5 L 0 0 0⟩:=by kernel_rfl
def Nl (c1 c2 c3:Int) (r:Gx):AX->ASt->AX->Prop:=fun ax Z j=>ax = .ret/\match r with
 | .ok ts=>j = .normal/\Z.h.take 4=sF true 5 (ts.map bK) c1 c2 c3
 | .err a b e=>j = .ret/\Z.h.take 4=sF true 0 [] a b e
section
variable {l:Nat} {rc:Loop} {out:Nat->Nat}
theorem walk (ho:1<=out l) (hrc:Np rc) (full:bZ') (c1 c2 c3:Int) (hf:full.length<=1000000) (r0:Gx):∀ (f i line start:Nat) (acc:List Tok),(full.drop i).length<f->i<=full.length->line<=i+1->start<=i->acc.length<=i->wP f (full.drop i) i line start acc=r0 ->
 ∃ k,Ru (jH l rc out) KZ (Nl c1 c2 c3 r0) k .normal ⟨sl5 l (bs full) [],lZ (acc.map bK) c1 c2 c3 line start i⟩:=by
 intro f;induction f with
 | zero=>omega
 | succ f ih =>
  intro i line start acc hlen hi hl hs ha hr;obtain ⟨g,hg⟩:∃ g,jD false (full.drop i)=g:=⟨_,rfl⟩;have hgl:=QS false (full.drop i);rw[hg,xw] at hgl;obtain ⟨p,hp⟩:∃ p,vC ((full.drop i).take g) i (line,start)=p:=⟨_,rfl⟩;have hnl:=aA5 ((full.drop i).take g) i (line,start) hs;have htl:((full.drop i).take g).length=g:=by simp; omega
  rw[hp,htl] at hnl;simp only at hnl;rw[wP] at hr;simp only[hg,hp,Qr] at hr;by_cases he:i+g=full.length
  .rw[JI (by omega)] at hr;simp only at hr;refine ⟨1,?_⟩;show Tr (jH l rc out) KZ _ .normal _;rw[a94];refine Tr.block (aAX ho hf hi hl hg ?_);rw[hp];refine a'U ho hrc hf he (by omega) (by simp[aO]; omega) fun Z hZ => ?_
   show Nl c1 c2 c3 r0 .ret Z .normal;subst hr;refine ⟨rfl,rfl,?_⟩;rw[hZ]; simp
  .have hlt:i+g<full.length:=by omega
   have hd:full.drop (i+g)=full[i+g]::full.drop (i+g+1):=D5 hlt;rw[hd] at hr;simp only at hr;rw[<- hd] at hr;by_cases h0:(bg (full.drop (i+g))).2=0
   .rw[aX h0,Qr] at hr;have hrl:=Vb (b:=full[i+g]) (r:=full.drop (i+g+1)) (by rw[<- hd]; exact h0);rw[<- hd,xw] at hrl;simp only[xw] at hlen;obtain ⟨k,hk⟩:=ih (i+g+(bg (full.drop (i+g))).1.text.length) p.1 p.2 _ (by simp; omega) (by omega) (by omega) (by omega) (by simp; omega) hr;refine ⟨k+1,?_⟩;show Tr (jH l rc out) KZ _ .normal _;rw[a94];refine Tr.block (aAX ho hf hi hl hg ?_);rw[hp];refine aVH ho hrc hf hlt (by omega) (by simp[aO]; omega) (fun _ Z hgc hZ => ?_) (fun h=>absurd h0 h);show Ru (jH l rc out) KZ (Nl c1 c2 c3 r0) k .normal Z;have hZ':Z.gc [0,1,3,4,5] 7=⟨sl5 l (bs full) [],lZ ((acc ++ [(bg (full.drop (i+g))).1.at (p.1:Nat) ((i+g-p.2+1:Nat):Int)]).map bK) c1 c2 c3 (p.1:Nat) (p.2:Nat) ((i+g+(bg (full.drop (i+g))).1.text.length:Nat):Int)⟩:=by rw[hZ,show i64.wrap (((i+g:Nat):Int)+((bg (full.drop (i+g))).1.text.length:Int))=((i+g+(bg (full.drop (i+g))).1.text.length:Nat):Int) by rw[wrap64 (by omega) (by omega)]; omega];simp
    cases k with
    | zero=>exact hk.elim
    | succ k =>exact Tr.gc (l := [0,1,3,4,5]) (m:=7) (fK _) hgc (by rw[hZ']; exact hk)
   .rw[aV h0] at hr;refine ⟨1,?_⟩;show Tr (jH l rc out) KZ _ .normal _;rw[a94];refine Tr.block (aAX ho hf hi hl hg ?_);rw[hp];refine aVH ho hrc hf hlt (by omega) (by simp[aO]; omega) (fun h=>absurd h h0) (fun _ Z hZ => ?_);show Nl c1 c2 c3 r0 .ret Z .ret;subst hr;exact ⟨rfl,rfl,hZ⟩
theorem iter (ho:1<=out l) (hrc:Np rc) (full:bZ') (hf:full.length<=1000000) :
 Tr (jH l rc out) iK (Nl 0 0 0 (wP (full.length+1) full 0 1 0 [])) .normal ⟨[(0,.func (.yield l) [] []),(1,.cst (.str (bs full)))],sF true 5 [] 0 0 0⟩:=by
 have e:iK=k:=by kernel_rfl
 rw[e,bKX];refine Tr.scope ?_;rw[bKW];refine Tr.seq (pc (ax := .normal) (Zt:=⟨sl5 l (bs full) [],lZ [] 0 0 0 1 0 0⟩) ho (fun K=>by kernel_rfl) ?_);show Tr (jH l rc out) k01 _ .normal _;rw[bKV];refine Tr.seq ?_;rw[bJT];refine Tr.label ?_;show Tr (jH l rc out) a8R _ .normal _;rw[bKU];refine Tr.block ?_;rw[bKT];obtain ⟨k,hk⟩:=walk ho hrc full 0 0 0 hf (wP (full.length+1) full 0 1 0 []) (full.length+1) 0 1 0 [] (by simp) (by omega) (by omega) (by omega) (by simp) rfl;refine Tr.mono (Tr.loop hk) fun ax Z j hq => ?_
 obtain ⟨rfl,hq⟩:=hq;exact ⟨rfl,hq⟩
end
def EY:Gx->PV
 | .ok ts => .tuple [.sl false 5 (ts.map bK),.int .i64 0,.int .i64 0,.int .i64 0]
 | .err a b e => .tuple [.sl false 5 [],.int .i64 a,.int .i64 b,.int .i64 e]
def tu (l:bZ'):Gx:=if 65536<l.length then .err 1 1 15 else wP (l.length+1) l 0 1 0 []
theorem aw {c:Code} {ax:AX} (h:∀ K,bH Lr c K Z=K ax Zt) {n:Nat} {out:Nat->Nat} {M:Mem} {B:aP} {a:Act} {w:World} (hI:Inv 27 M B out Z a.tmps w):
 c.wpIn Fence.wide n Tryz.prog (fun e a' w'=>e=ax.toExit/\a'.defers=a.defers/\∃ M' B',cu 27 out 0 M B Z a.tmps w M' B' Zt a'.tmps w') a w:=by
 have h1:=Ii (X:=Lr) dQ.V dQ.W (NL Bv dQ Eh) (Xb Bv dQ Eh rfl) h;refine wpIn_wide.2 (vZ (xH (E:=s_E) (m0:=0) (out:=out) Bv c hI h1) fun e a' w' hl => ?_);obtain ⟨ax',Z',M',B',rfl,⟨rfl,rfl⟩,hd,hG⟩:=hl;exact ⟨rfl,hd,M',B',hG⟩
theorem a5X {Z0:ASt} {t0:Array Value} {out:Nat->Nat} {M:Mem} {B:aP} {w:World} (hheap:qf M B w []) (hfp:∀ b,fp B Z0 t0 w b=aT w [] B b) {M':Mem} {B':aP} {s:fP} {h:aG} {a':Act} {w':World} {o:Bool} {z:Nat} {L:bZZ} {a b c:Int}
 (hG:cu 27 out 0 M B Z0 t0 w M' B' ⟨s,h⟩ a'.tmps w') (h2:bZ 2 s=some (.ptr 0 0)) (h3:bZ 3 s=some (.ptr 1 0)) (h4:bZ 4 s=some (.ptr 2 0)) (h5:bZ 5 s=some (.ptr 3 0)) (hh:h.take 4=sF o z L a b c) {r:PV} (hr:xJ (SS.iL 24).ro (.tuple [.sl false z L,.int .i64 a,.int .i64 b,.int .i64 c])=r) :
 ∃ v,(results Tryz.f24 a'.tmps).run Tryz.prog w' = .ok v w'/\∃ M' B',Post [] B out M w r [] v M' B' w':=by
 have hh0:h[0]? = some (some [.sl o z L]):=by have:=congrArg (fun l=>l[0]?) hh; grind
 have hh1:h[1]? = some (some [.int .i64 a]):=by have:=congrArg (fun l=>l[1]?) hh; grind
 have hh2:h[2]? = some (some [.int .i64 b]):=by have:=congrArg (fun l=>l[2]?) hh; grind
 have hh3:h[3]? = some (some [.int .i64 c]):=by have:=congrArg (fun l=>l[3]?) hh; grind
 have hres:Tryz.f24.results.toList = [.cell 2 80,.cell 3 3,.cell 4 3,.cell 5 47]:=by kernel_rfl
 have hret:Lh Tryz.prog Tryz.f24.results.toList ([]:aG).length (.tuple [.sl false z L,.int .i64 a,.int .i64 b,.int .i64 c]) [] ⟨s,h⟩:=by
  refine ⟨fK _,rfl,rfl,rfl,?_⟩;rw[hres];have t24:ti Tryz.prog 80=some ⟨1,24,false,[.sl true 0 []]⟩:=by kernel_rfl
  have t3:ti Tryz.prog 3=some ⟨1,8,false,[.int .i64 0]⟩:=by kernel_rfl
  have t25:ti Tryz.prog 47=some ⟨1,8,false,[.int .i64 0]⟩:=by kernel_rfl
  simp_all
 obtain ⟨v,h6,h7⟩:=bPY hheap hfp hG hret (SS.iL 24).ro;rw[hr] at h7;grind
abbrev R12 (out:Nat->Nat) (M:Mem) (B:aP) (w:World) (r:PV):Ending->World->Prop:=fun e w'=>∃ v M' B',e = .returned v/\Post [] B out M w r [] v M' B' w'
def sI (l:Nat) (s:ByteArray):fP := [(0,.func (.yield l) [] []),(1,.cst (.str s))]
theorem bJI {l:Nat} {rc:Loop} {out:Nat->Nat} (ho:1<=out l) (hrc:Np rc) (full:bZ') (hf:full.length<=1000000) {n:Nat} {M:Mem} {B:aP} {vals:Array Value} {w:World}
 (hI:Inv 86 M B out ⟨sI l (bs full),sF true 5 [] 0 0 0⟩ (vals ++ Array.replicate (86-vals.size) undef) w) (hr:w.heap[l]? = some (.loop (zl rc .normal))) (hO:Rl (jH l rc out).sO 27 7 rc.tmps M B) {R:Ending->World->Prop}
 (hR:∀ Z' j M' B' t' w',Nl 0 0 0 (wP (full.length+1) full 0 1 0 []) .ret Z' j->rG l 86 out 7 M B ⟨sI l (bs full),sF true 5 [] 0 0 0⟩ (vals ++ Array.replicate (86-vals.size) undef) w M' B' Z' t' w'->w'.heap[l]? = some (.loop (zl rc j))->R (.returned (.tuple #[])) w') :
 CallsIn Fence.wide n Tryz.prog 202 vals w R:=by
 have bIR:Tryz.prog.funcs[202]? = some Tryz.f202:=by kernel_rfl
 have bIN:Tryz.f202.body=some iK:=by kernel_rfl
 have hn:Tryz.f202.ntmps=86:=by kernel_rfl
 have hres:Tryz.f202.results = #[]:=by kernel_rfl
 refine callsIn_of_wp bIR bIN trivial ?_;rw[hn];refine ul (iter ho hrc full hf n M B { tmps:=vals ++ Array.replicate (86-vals.size) undef,defers := [] } w hI hr hO) fun e a' w' hl => ?_
 obtain ⟨ax,Z',j,M',B',rfl,hq,hd,hG,hr'⟩:=hl;obtain ⟨rfl,hq'⟩:=hq;exact ⟨hd,_,results_none hres _ _ _,hR Z' j M' B' _ w' ⟨rfl,hq'⟩ hG hr'⟩
theorem a_7 (full:bZ'):Ev Tryz.prog 24 [.str (bs full)] [] (EY (tu full)) []:=by
 refine ⟨by kernel_rfl,fun out M B w vals hmem hheap hcnt hnew hv => ?_⟩;have bIQ:Tryz.prog.funcs[24]? = some Tryz.f24:=by kernel_rfl
 have bIM:Tryz.f24.body=some wK:=by kernel_rfl
 have hn:Tryz.f24.ntmps=27:=by kernel_rfl
 have hI0:=aUR (n:=27) (args := [.str (bs full)]) (show 1<=27 by decide) hmem hheap hcnt hnew hv;have hfp:=fun b=>aUI (B:=B) (args := [.str (bs full)]) (h := []) (vals ++ Array.replicate (27-vals.size) undef) w b
 refine callsIn_wide.1 (callsIn_of_wp_marks (n:=0) (R:=R12 out M B w (EY (tu full))) bIQ bIM trivial ?_);rw[hn];have e:wK=s:=by kernel_rfl
 rw[e,bS4];refine NJ (ul (aw (fun K=>bRS K (bs full)) (a := { tmps:=vals ++ Array.replicate (27-vals.size) undef,defers := [] }) hI0) ?_);rintro e1 a1 w1 ⟨rfl,hd1,M1,B1,hG1⟩;show s1.wpIn Fence.wide 0 Tryz.prog _ a1 w1;rw[bS0];by_cases hbig:65536<full.length
 .have hT:tu full = .err 1 1 15:=aX hbig;refine NJ (ul (aw (ax := .ret) (fun K=>by rw[aTJ,aN (by rw[mf]; omega),aI]) hG1.inv) ?_);rintro e2 a2 w2 ⟨rfl,hd2,M2,B2,hG2⟩;show LeavesInM Fence.wide 0 Tryz.prog Tryz.f24 a2.tmps _ a2.defers .returning w2;rw[hd2,hd1];obtain ⟨v,h6,M',B',h7⟩:=a5X hheap hfp (hG1.trans hG2) rfl rfl rfl rfl (show _=sF true 0 [] 1 1 15 from rfl) (r:=EY (tu full)) (by rw[hT]; rfl);exact ⟨v,h6,v,M',B',rfl,h7⟩
 .have hT:tu full=wP (full.length+1) full 0 1 0 []:=aV hbig;rw[hT];refine NJ (ul (aw (ax := .normal) (fun K=>by rw[aTJ,aW (by rw[mf]; omega),aC]) hG1.inv) ?_);rintro e2 a2 w2 ⟨rfl,hd2,M2,B2,hG2⟩;show s11.wpIn Fence.wide 0 Tryz.prog _ a2 w2;have hg3:=FH (m0:=0) (l := [0,2,3,4,5]) (m:=4) hG2.inv (by decide) rfl;have bIK:=(hG1.trans hG2).trans hg3;rw[bR'];refine NJ ?_;rw[bRW];refine NJ (ul (aw (fun K=>bRT K (bs full)) hg3.inv) ?_);rintro e4 a4 w4 ⟨rfl,hd4,M4,B4,hG4⟩;show aCG.wpIn Fence.wide 0 Tryz.prog _ a4 w4;have hGa:=bIK.trans hG4;rw[bRV];refine wpIn_block ?_;rw[bRU];have FI:=hG4.inv;obtain ⟨bX3,bX1,h12,hr1,hr2⟩:=zn.1 (FI.slots 12 (.func (.func 202) [] [.cst (.str (bs full))]) rfl).2.1;rw[dW] at hr1;obtain ⟨bx,us,hus,hbx,aNN⟩:=cO.1 hr2;rw[dW] at aNN;subst aNN;have hev:a4.tmps.getD 12 undef = .func (.func 202) #[] #[bx]:=by rw[h12]; congr 1<;>(grind)
  refine wpIn_rangeFunc fun fn hfn => ?_
  obtain ⟨rc,a8J⟩:∃ rc:Loop,rc = { state := .ready,pending:=none,fn,tmps:=a4.tmps,params := #[13,14],assign:=EW,body:=Ap,defers:=w4.heap.size }:=⟨_,rfl⟩;have hrc:Np rc:=by subst a8J; exact ⟨rfl,rfl,rfl,FI.size⟩
  have bI':zl rc .normal=rc:=by subst a8J; rfl
  obtain ⟨hIe,hfe⟩:=aH5 FI rc;refine ⟨w4.heap.size+1,[{ target := .collected w4.heap.size,args := #[] }],zI w4 rc,{ target := .fn (.func 202) #[bx],args := #[.func (.yield (w4.heap.size+1)) #[] #[]] },zI w4 rc,202,
   #[.func (.yield (w4.heap.size+1)) #[] #[],bx],zI w4 rc,?_,?_,?_,?_,fun h=>absurd h (by decide),?_⟩
  .subst a8J; exact run_enterLoop_outer _ _ _ _ _
  .simp[resolve,go_sem,hev]
  .intro f' hf'; trivial
  .simp[invoke,go_sem]
  .have ho1:1<=CO out w4.heap.size (w4.heap.size+1):=by simp[CO]
   have hoD:1<=CO out w4.heap.size w4.heap.size:=by simp[CO]
   have hIi:=aO5 (n':=86) (sr:=sI (w4.heap.size+1) (bs full)) (tr := #[.func (.yield (w4.heap.size+1)) #[] #[],bx] ++ Array.replicate (86-(#[.func (.yield (w4.heap.size+1)) #[] #[],bx]:Array Value).size) undef) hIe (by simp) (by simp[jM,sI]) (fun kp hk=>by
    simp only[sI,kG,yw,yz] at hk;rcases hk with rfl | rfl
    .exact ⟨show 0<86 by decide,by rw[aXR]; exact zn.2 ⟨#[],#[],rfl,dW.2 rfl,dW.2 rfl⟩,rfl⟩
    .exact ⟨show 1<86 by decide,by rw[aXS]; exact hbx,rfl⟩)
   refine bJI (rc:=rc) (by omega) hrc full (by omega) hIi (by rw[bI']; exact a'W rc) ?_ fun Z' j M' B' t' w' hq hG hr' => ?_
   .intro kp hk;have ht:rc.tmps=a4.tmps:=by simp_all
    rw[ht];simp only[jH,kG,yw,yz] at hk;rcases hk with rfl | rfl | rfl | rfl
    .exact ⟨by decide,(FI.slots 2 (.ptr 0 0) rfl).2.1,rfl,rfl⟩
    .exact ⟨by decide,(FI.slots 3 (.ptr 1 0) rfl).2.1,rfl,rfl⟩
    .exact ⟨by decide,(FI.slots 4 (.ptr 2 0) rfl).2.1,rfl,rfl⟩
    .exact ⟨by decide,(FI.slots 5 (.ptr 3 0) rfl).2.1,rfl,rfl⟩
   .have a8F:AL 4 (Z'.h.take 4)=true:=by obtain ⟨_,hq⟩:=hq;split at hq<;>(rw[hq.2]; rfl)
    have hback:=aW1 (m0:=4) hIe ho1 (Zr:=⟨sI (w4.heap.size+1) (bs full),sF true 5 [] 0 0 0⟩) rfl (fun kp hk=>by simp only[sI,kG,yw,yz] at hk;rcases hk with rfl | rfl<;>rfl) rfl (hG.weak (by decide)) a8F;have hend:=run_endLoop (P:=Tryz.prog) hr' (by grind [zl]);have hput:=aAZ (m0:=4) hback.inv ho1 hr' { zl rc j with state := .exhausted };have hall:=hback.trans hput;have hDs:w'.heap[w4.heap.size]? = some (.deferred (some [])):=by have:=(hback.blk w4.heap.size (by rw[YW]; omega) (by omega) (TM hIe hoD)).1;rw[this]; exact a'V rc
    have hD:(w'.putObj (w4.heap.size+1) (.loop { zl rc j with state := .exhausted })).heap[w4.heap.size]? = some (.deferred (some [])):=(World.putObj_heap_other (by omega)).trans hDs;refine ⟨_,_,hend,?_⟩;obtain ⟨_,hq⟩:=hq;cases hsc:wP (full.length+1) full 0 1 0 [] with
    | ok ts =>
     rw[hsc] at hq;obtain ⟨rfl,hq⟩:=hq;show aCH.wpIn Fence.wide 0 Tryz.prog _ _ _;rw[hq] at hall;have hg5:=FH (m0:=0) (l := [2,3,4,5]) (m:=4) hall.inv (by decide) rfl;rw[bRZ];refine NJ (ul (aw (a := { tmps:=a4.tmps,defers := { target := .collected w4.heap.size,args := #[] }::a4.defers }) (fun K=>bRX K (ts.map bK)) hg5.inv) ?_);rintro e6 a6 w6 ⟨rfl,hd6,M6,B6,hG6⟩;show aCI.wpIn Fence.wide 0 Tryz.prog _ a6 w6;rw[bRY];refine wpIn_ret ?_;show LeavesInM Fence.wide 0 Tryz.prog Tryz.f24 a6.tmps _ a6.defers .returning w6;rw[hd6,hd4,hd2,hd1];have a8D:=hg5.trans hG6;have hD6:w6.heap[w4.heap.size]? = some (.deferred (some [])):=by have hlt:w4.heap.size<(w'.putObj (w4.heap.size+1) (.loop { zl rc .normal with state := .exhausted })).heap.size:=(yj.1 hD).1;rw[(a8D.fr.blk w4.heap.size hlt (TM hall.inv hoD)).1]; exact hD
     refine ⟨by simp,.inl ⟨w4.heap.size,_,rfl,run_takeDeferred hD6,?_⟩⟩;have hsh:=aSR (m0:=0) a8D.inv hoD hD6 (.deferred none);have htot:=((hall.weak (show 0<=4 by decide)).trans a8D.gl);have hfin:=hGa.trans (aPY FI htot hsh);obtain ⟨v,h6,M',B',h7⟩:=a5X hheap hfp hfin rfl rfl rfl rfl (show _=sF false 5 (ts.map bK) 0 0 0 from rfl) (r:=EY (.ok ts)) rfl;exact ⟨v,h6,v,M',B',rfl,h7⟩
    | err a b e =>rw[hsc] at hq;obtain ⟨rfl,hq⟩:=hq;refine wpIn_ret ?_;show LeavesInM Fence.wide 0 Tryz.prog Tryz.f24 a4.tmps _ ({ target := .collected w4.heap.size,args := #[] }::a4.defers) .returning _;rw[hd4,hd2,hd1];refine ⟨by simp,.inl ⟨w4.heap.size,_,rfl,run_takeDeferred hD,?_⟩⟩;rw[hq] at hall;have hsh:=aSR (m0:=0) hall.inv hoD hD (.deferred none);have hfin:=hGa.trans (aPY FI (hall.weak (show 0<=4 by decide)) hsh);obtain ⟨v,h6,M',B',h7⟩:=a5X hheap hfp hfin rfl rfl rfl rfl (show _=sF true 0 [] a b e from rfl) (r:=EY (.err a b e)) rfl;exact ⟨v,h6,v,M',B',rfl,h7⟩
end Go.Proofs.YtilpiopkekkbiaaGreatDoor
namespace Go.Proofs
open Go.Shelf
shelf_lay Lays.n105 Nm 105 at Tryz as Tryz.lays105
shelf_lay Lays.n144 Nm 144 at Tryz as Tryz.lays144
end Go.Proofs
namespace Go.Proofs.YtilpiopkekkbiaaGreatDoor
open Go.RowKit Go.Shelf
variable {M:Mem} {B:aP} {p:PV} {vals:Array Value} {w:World}
theorem Yf {P:Program} {g:FuncId} {args:bZZ} {r:PV} {v:Value} (hc:callable P g=true) (hr:∀ M B,Rep M B r v) (ho:r.own=false)
 (h:∀ (M:Mem) (w:World) (vals:Array Value),zf M w->ay M [] args vals.toList->Calls P g vals w fun e w'=>e = .returned v/\Below w.heap.size w w'):Ev P g args [] r []:=by
 refine ⟨hc,fun out M B w vals hmem hheap hcnt hnew hv => ?_⟩;have hB:B = []:=lJ (by have:=hheap.1; simp_all);subst hB;refine (h M w vals hmem hv).mono ?_;rintro e w' ⟨rfl,hb⟩;have hz:∀ w b,aT w [] [] b=0:=fun w b=>by simp[aT]
 refine ⟨v,M,[],rfl,fun b o u e => ?_,dH.refl _ _,⟨hb.os,hb.tape,hb.output,hb.size,fun b hlt _=>⟨hb.block b hlt,fun _=>rfl⟩⟩,⟨rfl,fun i cs hi=>by simp at hi⟩,hr M [],fJ ho,fun b hb' => ?_,fun b => ?_,fun b hb' => ?_⟩
 .obtain ⟨h1,h2⟩:=hmem b o u e;have:=yx _ _ h1;exact ⟨(NG (hb.block b this)).trans h1,h2⟩
 grind [dP]
 grind [dP]
 .have:=hnew b (ng hb.size hb'); rw[hz] at this; rw[hz,dP ho]; omega
def strsOf:bZZ->Option (List ByteArray)
 | []=>some []
 | .str s::l=>(strsOf l).map (s :: ·)
 | _=>none
theorem aV2:∀ {es:bZZ} {xs:List ByteArray},strsOf es=some xs->es=xs.map .str
 | [],xs,h=>by grind [strsOf]
 | p::es,xs,h=>by
  unfold strsOf at h;split at h
  .rename_i e; cases e
  .rename_i s l e;injection e with e1 e2; subst e1; subst e2
   cases hl:strsOf es with
   | none=>simp[hl] at h
   | some ys=>simp[hl] at h; subst h; rw[aV2 hl]; rfl
  .cases h
def FN (xs:List ByteArray) (sep:ByteArray):bZ':=Lib.join (xs.map (·.data.toList)) sep.data.toList
theorem a3Z {q:PV} (hv:ay M B [p,q] vals.toList):∃ u v,vals = #[u,v]/\Rep M B p u/\Rep M B q v:=by obtain ⟨u1,us,e1,r1,hv⟩:=cO.1 hv;obtain ⟨u2,us,rfl,r2,hv⟩:=cO.1 hv;rw[dW] at hv; grind
theorem a_F (o:Bool) (xs:List ByteArray) (sep:ByteArray) (h1:(FN xs sep).length<=140737488355328) (h2:xs.length<=140737488355328):Ev Tryz.prog 25 [.sl o 1 (xs.map .str),.str sep] [] (.str ⟨(FN xs sep).toArray⟩) []:=by
 refine Yf (v := .string ⟨(FN xs sep).toArray⟩) (by kernel_rfl) (fun _ _=>iq.2 rfl) rfl fun M w vals hmem hv => ?_
 obtain ⟨u,v,rfl,hu,hv⟩:=a3Z hv;rw[iq.1 hv];obtain ⟨A,cap,rfl,hle,_,_,hA⟩:=jR.1 hu;rw[bF] at hle ⊢;by_cases hx:xs = []
 .subst hx;refine (bJQ A cap sep w).mono ?_;rintro e w' ⟨rfl,rfl⟩;exact ⟨rfl,Below.refl _ _⟩
 .obtain ⟨b,off,rfl,hloc⟩:=hA (by grind);have hcells:∀ (j:Nat) x,xs[j]? = some x->w.cell? ⟨b,off+j,none⟩=some (.string x):=fun j x hj=>by have hl:=EF hloc (show (xs.map PV.str)[j]? = some (.str x) by rw[lL,hj]; rfl);obtain ⟨u,hu1,hu2⟩:=(Bi rfl).1 hl;rw[Nat.mul_one] at hu1;rw[iq.1 hu2] at hu1;exact (hmem _ _ _ hu1).1
  have hbk:b<w.heap.size:=by
   match xs,hx with
   | x::r,_=>exact yx _ _ (hcells 0 x rfl)
  exact bJR b off cap xs sep w hcells hbk h2 hle h1
theorem bPZ {h:aG} {out:Nat->Nat} {r:PV} {v:Value} (hmem:zf M w) (hheap:qf M B w h) (hcnt:∀ b,aT w h B b+out b<=1) (hnew:∀ b,w.heap.size<=b->aT w h B b+out b=0) 
 (hr:Rep M B r v) (ho:r.own=false):Post h B out M w r h v M B w :=
 ⟨hmem,dH.refl _ _,Fr.refl _ _ _,hheap,hr,fJ ho,fun b _=>by rw[dP ho]; omega,fun b=>by rw[dP ho]; exact hcnt b,fun b hb=>by rw[dP ho]; simp_all⟩
theorem aRT {o:Option (bZZ)} (hheap:qf M B w [o]):∃ c,B = [c]:=by
 have:=hheap.1;match B,this with
 | [c],_=>simp
theorem aVV (hv:ay M B [p] vals.toList):∃ u,vals = #[u]/\Rep M B p u:=by obtain ⟨u1,us,e1,r1,hv⟩:=cO.1 hv;rw[dW] at hv; grind
theorem a_D (l:bZ'):Ev Tryz.prog 207 [.ptr 0 0] [some [.dA 188 0,.dC l]] (.tuple []) [some [.dA 188 0,.dC l]]:=by
 refine ⟨by kernel_rfl,fun out M B w vals hmem hheap hcnt hnew hv => ?_⟩;obtain ⟨c,rfl⟩:=aRT hheap;obtain ⟨u,rfl,hu⟩:=aVV hv;obtain ⟨c',⟨hc',_⟩,rfl⟩:=wO.1 hu;simp at hc'; subst hc';obtain ⟨c',hc',vs,ty,o1,⟨o2,o2'⟩,o3,o4,o5⟩:=hheap.2 0 _ rfl;simp at hc'; subst hc';obtain ⟨v0,hv0,hr0,_,_⟩:=o4 0 _ rfl;obtain ⟨c2,hc2,hp⟩:=Fv.1 hr0;simp at hc2; subst hc2;obtain ⟨hc3,hp⟩:=hp.2 (by decide);have hs2:vs.size=2:=by rw[o2,hc3]
 have ht2:ty=188+1:=by rw[o2',hc3]
 subst ht2;obtain ⟨ty,hty,o1⟩:=EU o1 (by decide);have ht2:ty=188:=by omega
 have hcell:w.cell? ⟨c.1,0,none⟩=some v0:=by simp[World.cell?,o1,hv0]
 rcases hp with rfl | rfl
 .refine (aZL c.1 w hcell (by grind [World.shape?]) (by simp[World.frozen?,o1])).mono ?_;rintro e w' ⟨rfl,rfl⟩;have hI:Inv 0 M [c] out ⟨mO 0 [],[some [.dA 188 0,.dC l]]⟩ (#[] ++ Array.replicate (0-0) undef) w:=aUR (vals := #[]) (args := []) (by simp) hmem hheap hcnt hnew (dW.2 rfl);have hfp:=fun (t:Array Value) (w:World) b=>aUI (B := [c]) (args := []) (h := [some [.dA 188 0,.dC l]]) t w b
  obtain ⟨g1,g2,g3,_,_⟩:=hI.setCell (i:=0) (j:=0) (p := .dA 188 0) (v := .pointer (some ⟨c.1,0,none⟩)) rfl rfl (by rw[hc3]; decide) (by simp) (Fv.2 ⟨c,rfl,(fun h=>absurd h (by decide)),fun _=>⟨hc3,.inr rfl⟩⟩) (fJ rfl) rfl (fun b=>by rw[hfp,dP rfl]; exact hcnt b) (fun b _=>dP rfl _ _);have k1:Inv 0 M [c] out ⟨mO 0 [],[some [.dA 188 0,.dC l]]⟩ (#[] ++ Array.replicate (0-0) undef) (w.setCell ⟨c.1,0,none⟩ (.pointer (some ⟨c.1,0,none⟩))):=g1;have k2:∀ b,fp [c] ⟨mO 0 [],[some [.dA 188 0,.dC l]]⟩ (#[] ++ Array.replicate (0-0) undef) (w.setCell ⟨c.1,0,none⟩ (.pointer (some ⟨c.1,0,none⟩))) b<=fp [c] ⟨mO 0 [],[some [.dA 188 0,.dC l]]⟩ (#[] ++ Array.replicate (0-0) undef) w b+bT (.dA 188 0) (.pointer (some ⟨c.1,0,none⟩)) b:=g2;refine ⟨_,M,[c],rfl,⟨k1.mem,dH.refl _ _,g3.mono fun b hb h0=>by rw[hfp]; exact h0,k1.heap,tq.2 ⟨_,rfl,dW.2 rfl⟩,fJ rfl,fun b hb => ?_,fun b => ?_,fun b hb => ?_⟩⟩
  .have h:=k2 b;rw[hfp,hfp,dP rfl] at h;rw[dP rfl]; exact h
  .have h:=k1.cnt b;rw[hfp] at h;rw[dP rfl]; exact h
  .have h:=k1.new b hb;rw[hfp] at h;rw[dP rfl]; exact h
 .refine (aZN c.1 w hcell).mono ?_;rintro e w' ⟨rfl,rfl⟩;exact ⟨_,M,[c],rfl,bPZ hmem hheap hcnt hnew (tq.2 ⟨_,rfl,dW.2 rfl⟩) rfl⟩
theorem bTC {c:Nat×Nat×TypeId} {out:Nat->Nat} {w2:World} {l:bZ'} {v:Value} {vs:Array Value} (hmem:zf M w) (hheap:qf M [c] w [some [.dA 188 0,.dC l]]) (hcnt:∀ b,aT w [some [.dA 188 0,.dC l]] [c] b+out b<=1) (hnew:∀ b,w.heap.size<=b->aT w [some [.dA 188 0,.dC l]] [c] b+out b=0) 
 {ty:TypeId} (hrow:w.heap[c.1]? = some (.cells vs ty (0,0))) (hv:vs[1]? = some v) (h1:∀ x,x<w.heap.size->bT (.dC l) v x=0->w2.heap[x]? = w.heap[x]?) (h2:∀ b o u,w.cell? ⟨b,o,none⟩=some u->w2.cell? ⟨b,o,none⟩=some u)
 (hos:w2.os=w.os) (htape:w2.tape=w.tape) (hout:w2.output=w.output) (hsize:w.heap.size<=w2.heap.size) :
 Post [some [.dA 188 0,.dC l]] [c] out M w (.str ⟨l.toArray⟩) [some [.dA 188 0,.sl false 1 (nO l)]] (.string ⟨l.toArray⟩) M [c] w2:=by
 obtain ⟨c',hc',vs',ty',o1,o2,o3,o4,o5⟩:=hheap.2 0 _ rfl;simp at hc'; subst hc';rw[CW hrow] at o1;injection o1 with o1; injection o1 with e1 e2; subst e1; subst e2
 have hcl:gy w c.1=vs.toList:=by simp[gy,CW hrow]
 have hvl:vs.toList[1]? = some v:=by grind
 have hown:∀ b,(if c.1=b then 1 else 0)+bT (.dC l) v b<=aT w [some [.dA 188 0,.dC l]] [c] b:=fun b=>by have g1:=kX (w:=w) (h := [some [.dA 188 0,.dC l]]) (B := [c]) (i:=0) b rfl rfl;have g2:=xU (cs := [.dA 188 0,.dC l]) (vs:=vs.toList) (j:=1) b rfl hvl;rw[hcl] at g1; omega
 have hc0:bT (.dC l) v c.1=0:=by have:=hown c.1; have:=hcnt c.1;rw[aX rfl] at *; omega
 have hlt:c.1<w.heap.size:=(yj.1 hrow).1;have hrow2:w2.heap[c.1]? = some (.cells vs ty (0,0)):=(h1 c.1 hlt hc0).trans hrow;have hown2:∀ b,aT w2 [some [.dA 188 0,.sl false 1 (nO l)]] [c] b<=if c.1=b then 1 else 0:=fun b=>by
  simp only[aT];have:∀ vl,dn [.dA 188 0,.sl false 1 (nO l)] vl b=0:=fun vl=>by
   match vl with
   | []=>rfl
   | [x]=>rfl
   | x::y::r=>rfl
  rw[this]; omega
 refine ⟨fun b o u e => ?_,dH.refl _ _,⟨hos,htape,hout,hsize,fun b hb h0=>⟨h1 b hb (by have:=hown b; omega),fun _=>rfl⟩⟩,⟨rfl,fun i cs hi => ?_⟩,iq.2 rfl,fJ rfl,fun b hb => ?_,fun b => ?_,fun b hb => ?_⟩
 .obtain ⟨g1,g2⟩:=hmem b o u e;simp_all
 .match i,hi with
  | 0,hi =>
   simp at hi; subst hi;refine ⟨c,rfl,vs,ty+1,CW hrow2,o2,by omega,fun j p hj => ?_,o5⟩;match j,hj with
   | 0,hj =>simp at hj; subst hj;obtain ⟨u,a1,a2,a3,a4⟩:=o4 0 _ rfl;exact ⟨u,a1,a2,fJ rfl,a4⟩
   | 1,hj =>simp at hj; subst hj;obtain ⟨u,a1,a2,a3,a4⟩:=o4 1 _ rfl;exact ⟨u,a1,Vg.2 a2,fJ rfl,a4⟩
   | j+2,hj=>simp at hj
  | i+1,hi=>simp at hi
 .rw[dP rfl]; have:=hown2 b; have:=hown b; omega
 .rw[dP rfl]; have:=hown2 b; have:=hown b; have:=hcnt b; omega
 .rw[dP rfl]; have:=hown2 b; have:=hown b; have:=hnew b (ng hsize hb); omega
section
variable {P:Program} {ρ:Ren}
set_option maxHeartbeats 2000000 in
set_option maxRecDepth 100000 in
theorem aCW (L:Lays.n169 P ρ) (X:Builder.Extra P ρ) (T:TypeId) (b n cap:Nat) (A q:Option Addr) (p:Value) (r:ByteArray) (w w2:World) (hbk:w.heap[b]? = some (.cells #[p,.slice A n cap] T (0,0)))
 (hSD:(Builtin.unsafeSliceData_ #[(ρ.t 37)] (ρ.t 127) #[.slice A n cap]).run P w.drew = .ok (.pointer q) w.drew)
 (hUS:(Builtin.unsafeString_ #[(ρ.t 127),(ρ.t 3)] (ρ.t 9) #[.pointer q,.int .i64 n]).run P w.drew = .ok (.string r) w2) :
 Calls P (ρ.f 169) #[.pointer (some ⟨b,0,none⟩)] w fun e w'=>e = .returned (.string r)/\w'=w2:=by
 have c1:w.drew.cell? ⟨b,1,none⟩=some (.slice A n cap):=by have:w.drew.heap[b]? = some (.cells #[p,.slice A n cap] T (0,0)):=hbk;rw[Lib.cell_of_heap this]; rfl
 have mixed:=L.mixed;have t72:=L.t72; have a72:=L.a72; have z72:=L.z72; have v72:=L.v72; have u72:=fG L.t72;have t70:=L.t70; have a70:=L.a70; have z70:=L.z70; have v70:=L.v70; have u70:=fG L.t70;have t37:=L.t37; have a37:=L.a37; have z37:=L.z37; have v37:=L.v37; have u37:=fG L.t37;have t127:=L.t127; have a127:=L.a127; have z127:=L.z127; have v127:=L.v127; have u127:=fG L.t127;have t3:=L.t3; have a3:=L.a3; have z3:=L.z3; have v3:=L.v3; have u3:=fG L.t3;have t9:=L.t9; have a9:=L.a9; have z9:=L.z9; have v9:=L.v9; have u9:=fG L.t9;have t5:=X.t5; have a5:=X.a5; have z5:=X.z5; have v5:=X.v5; have u5:=fG X.t5;go_enter L.f169,Body.n169_ntmps ρ
 go_wp2
 go_region_o
 all_goals (go_wp2; go_ret; exact ⟨rfl,rfl⟩)
set_option maxHeartbeats 2000000 in
set_option maxRecDepth 100000 in
theorem bTD (L:Lays.n169 P ρ) (X:Builder.Extra P ρ) (T:TypeId) (b g:Nat) (cur:Array Value) (p:Value) (w:World) (hbk:w.heap[b]? = some (.cells #[p,.slice (some ⟨g,0,none⟩) 0 0] T (0,0))) (hg:w.heap[g]? = some (.cells cur (ρ.t 5) (0,0))) :
 Calls P (ρ.f 169) #[.pointer (some ⟨b,0,none⟩)] w fun e w'=>e = .returned (.string ⟨#[]⟩)/\∃ u:World,u.heap=w.heap/\u.os=w.os/\u.tape=w.tape/\u.output=w.output/\w'=u.alloc (.view ⟨g,0,none⟩ (ρ.t 5)):=by
 have hUS:=Any.unsafeString_none L X;have hlt:b<w.heap.size:=(yj.1 hbk).1;have c1:w.drew.cell? ⟨b,1,none⟩=some (.slice (some ⟨g,0,none⟩) 0 0):=by have:w.drew.heap[b]? = some (.cells #[p,.slice (some ⟨g,0,none⟩) 0 0] T (0,0)):=hbk;rw[Lib.cell_of_heap this]; rfl
 have hSD:(Builtin.unsafeSliceData_ #[(ρ.t 37)] (ρ.t 127) #[.slice (some ⟨g,0,none⟩) 0 0]).run P w.drew = .ok (.pointer (some ⟨w.drew.heap.size,0,none⟩)) (w.drew.alloc (.view ⟨g,0,none⟩ (ρ.t 5))) :=Lib.run_unsafeSliceData_zero w.drew _ _ (ρ.t 5) L.t127 ⟨g,0,none⟩ 0 ((ρ.t 5),cur.size) (by have hg':w.drew.heap[g]? = some (.cells cur (ρ.t 5) (0,0)):=hg; simp[World.shape?,hg']);have c2:(w.drew.alloc (.view ⟨g,0,none⟩ (ρ.t 5))).cell? ⟨b,1,none⟩=some (.slice (some ⟨g,0,none⟩) 0 0):=by have:(w.drew.alloc (.view ⟨g,0,none⟩ (ρ.t 5))).heap[b]? = _:=(Lib.alloc_old w.drew _ b hlt).trans hbk;rw[Lib.cell_of_heap this]; rfl
 have c3:(w.alloc (.view ⟨g,0,none⟩ (ρ.t 5))).drew.cell? ⟨b,1,none⟩=some (.slice (some ⟨g,0,none⟩) 0 0):=c2;have c0:w.cell? ⟨b,1,none⟩=some (.slice (some ⟨g,0,none⟩) 0 0):=c1;have mixed:=L.mixed;have t72:=L.t72; have a72:=L.a72; have z72:=L.z72; have v72:=L.v72; have u72:=fG L.t72;have t70:=L.t70; have a70:=L.a70; have z70:=L.z70; have v70:=L.v70; have u70:=fG L.t70;have t37:=L.t37; have a37:=L.a37; have z37:=L.z37; have v37:=L.v37; have u37:=fG L.t37;have t127:=L.t127; have a127:=L.a127; have z127:=L.z127; have v127:=L.v127; have u127:=fG L.t127;have t3:=L.t3; have a3:=L.a3; have z3:=L.z3; have v3:=L.v3; have u3:=fG L.t3;have t9:=L.t9; have a9:=L.a9; have z9:=L.z9; have v9:=L.v9; have u9:=fG L.t9;have t5:=X.t5; have a5:=X.a5; have z5:=X.z5; have v5:=X.v5; have u5:=fG X.t5;go_enter L.f169,Body.n169_ntmps ρ
 go_wp2
 go_region_o
 all_goals (go_wp2; go_ret; exact ⟨rfl,w.drew,rfl,rfl,rfl,rfl,rfl⟩)
end
theorem aI8 {b g n:Nat} (hb:b≠g):(w.drew.freeze ⟨g,0,none⟩ n).heap[b]? = w.heap[b]? := by
 unfold World.freeze;split
 .rfl
 .show (w.heap.modify g _)[b]? = _;rw[Array.getElem?_modify,aV (Ne.symm hb)]
theorem b0B {g n:Nat} {cs:Array Value} {ty:TypeId} (h:w.heap[g]? = some (.cells cs ty (0,0))) (hn:n≠0):(w.drew.freeze ⟨g,0,none⟩ n).heap[g]? = some (.cells cs ty (0,0+n)):=by unfold World.freeze;rw[aV hn];show (w.heap.modify g _)[g]? = _;rw[Array.getElem?_modify,aX rfl,h];rfl
theorem a_B (l:bZ'):Ev Tryz.prog 122 [.ptr 0 0] [some [.dA 188 0,.dC l]] (.str ⟨l.toArray⟩) [some [.dA 188 0,.sl false 1 (nO l)]]:=by
 refine ⟨by kernel_rfl,fun out M B w vals hmem hheap hcnt hnew hv => ?_⟩;obtain ⟨c,rfl⟩:=aRT hheap;obtain ⟨u,rfl,hu⟩:=aVV hv;obtain ⟨c',⟨hc',_⟩,rfl⟩:=wO.1 hu;simp at hc'; subst hc';obtain ⟨c',hc',vs,ty,o1,⟨o2,o2'⟩,o3,o4,o5⟩:=hheap.2 0 _ rfl;simp at hc'; subst hc';obtain ⟨v0,hv0,hr0,_,_⟩:=o4 0 _ rfl;obtain ⟨c2,hc2,hp⟩:=Fv.1 hr0;simp at hc2; subst hc2;obtain ⟨hc3,_⟩:=hp.2 (by decide);obtain ⟨v1,hv1,hr1,ht1,_⟩:=o4 1 _ rfl;have hs2:vs.size=2:=by rw[o2,hc3]
 have ht2:ty=188+1:=by rw[o2',hc3]
 subst ht2;obtain ⟨ty,hty,o1⟩:=EU o1 (by decide);have ht2:ty=188:=by omega
 subst ht2;have hvs:vs = #[v0,v1]:=by grind
 have hrow:w.heap[c.1]? = some (.cells #[v0,v1] 188 (0,0)):=by rw[<- hvs]; exact o1
 obtain ⟨A,cap,rfl,hle,hA⟩:=a2X.1 hr1;obtain ⟨t1,t2⟩:=ht1.t l A _ cap rfl rfl;have hkeep:∀ b o u,w.cell? ⟨b,o,none⟩=some u->w.drew.cell? ⟨b,o,none⟩=some u:=fun _ _ _ h=>h
 have hpost:=fun (w2:World) h1 h2 a1 a2 a3 a4=>bTC (w2:=w2) hmem hheap hcnt hnew o1 hv1 h1 h2 a1 a2 a3 a4
 cases A with
 | none =>have hc0:=t1 rfl;subst hc0;have hl:l = []:=lJ (by omega);subst hl;refine (aCW Tryz.lays169 Ji 188 c.1 0 0 none none v0 ⟨#[]⟩ w w.drew hrow rfl (Any.unsafeString_none Tryz.lays169 Ji _ _)).mono ?_;rintro e w' ⟨rfl,rfl⟩;exact ⟨_,M,[c],rfl,hpost w.drew (fun _ _ _=>rfl) hkeep rfl rfl rfl (fK _)⟩
 | some a =>
  obtain ⟨cs,g1,g2,g3,g4,g5,g6⟩:=t2 a rfl;obtain ⟨g,off,sp⟩:=a;simp only at g1 g4 g5 g6;subst g5; subst g6;by_cases hl:l = []
  .subst hl;by_cases hc0:cap=0
   .subst hc0;refine (bTD Tryz.lays169 Ji 188 c.1 g cs v0 w hrow g1).mono ?_;rintro e w' ⟨rfl,x,x1,x2,x3,x4,rfl⟩;have hold:∀ b,b<w.heap.size->(x.alloc (.view ⟨g,0,none⟩ (Tryz.lays169_ren.t 5))).heap[b]? = w.heap[b]? := fun b hb=>by rw[<- x1]; grind [Below.heap_alloc]
    refine ⟨_,M,[c],rfl,hpost _ (fun b hb _=>hold b hb) (fun b o u h => ?_) x2 x3 x4 (by rw[World.size_alloc,x1]; omega)⟩;exact (NG (hold b (yx _ _ h))).trans h
   .refine (aCW Tryz.lays169 Ji 188 c.1 0 cap (some ⟨g,0,none⟩) (some ⟨g,0,none⟩) v0 ⟨#[]⟩ w w.drew hrow (Lib.run_unsafeSliceData_row _ _ _ _ _ _ hc0) (Any.unsafeString_none Tryz.lays169 Ji _ _)).mono ?_;rintro e w' ⟨rfl,rfl⟩;exact ⟨_,M,[c],rfl,hpost w.drew (fun _ _ _=>rfl) hkeep rfl rfl rfl (fK _)⟩
  .have hlen:l.length≠0:=fun h=>hl (lJ h)
   obtain ⟨b',off',e1,hcells⟩:=hA hl;cases e1;refine (aCW Tryz.lays169 Ji 188 c.1 l.length cap (some ⟨g,0,none⟩) (some ⟨g,0,none⟩) v0 ⟨l.toArray⟩ w (w.drew.freeze ⟨g,0,none⟩ l.length) hrow (Lib.run_unsafeSliceData_row _ _ _ _ _ _ (by omega)) ?_).mono ?_
   .refine Lib.run_unsafeString_row w.drew _ _ _ (Tryz.lays169_ren.t 5) (Lays.n169.t127 Tryz.lays169) (Builder.Extra.cellsByte Ji) g cs.size (by have hg':w.drew.heap[g]? = some (.cells cs Jj (0,0)):=g1; simp[World.shape?,hg']; rfl) l hl (by omega) (by grind [maxLen]) ?_;intro j x hx;have h:=(hmem g (0+j) _ (hcells j x hx)).1;rw[qK] at h;grind [Addr.add]
   .rintro e w' ⟨rfl,rfl⟩;refine ⟨_,M,[c],rfl,hpost _ (fun b hb h0 => ?_) (fun b o u h => ?_) ?_ ?_ ?_ ?_⟩;grind [bT,PV.own,aI8]
    .by_cases hbg:b=g
     .subst hbg;unfold World.cell? at h ⊢;simp only[b0B g1 hlen];grind
     grind [World.cell?_of_block,aI8]
    .unfold World.freeze; rw[aV hlen]; rfl
    .unfold World.freeze; rw[aV hlen]; rfl
    .unfold World.freeze; rw[aV hlen]; rfl
    .unfold World.freeze; rw[aV hlen];simp
def Rf:Int:=4611686018427387904
def CS:Cal:=fun g args h=>match g,args,h with
 | 24,[.str s],h=>some (EY (tu s.data.toList),h)
 | 123,[.int .i64 n],h=>(match decide (0<=n)&&decide (n<Rf) with | true=>some (.str ⟨(Lib.decDigits n.toNat).toArray⟩,h) | false=>none)
 | 252,[.str s,.int .u8 c],h=>some (.int .i64 (Lib.indexByte s.data.toList c.toNat.toUInt8),h)
 | 130,[.str s,.int .i64 n],h=>(match decide (0<=n)&&(Nat.ble n.toNat 9223372036854775807&&Nat.ble (s.size*n.toNat) 140737488355328) with
  | true=>some (.str ⟨(Lib.repeatL s.data.toList n.toNat).toArray⟩,h)
  | false=>none)
 | 19,[.str s,.str x],h=>(match Nat.ble s.size 1073741824 with
  | true=>some (.bool (Lib.contains s.data.toList x.data.toList),h)
  | false=>none)
 | 25,[.sl _ 1 es,.str sep],h=>(match strsOf es with
  | some xs=>(match Nat.ble (FN xs sep).length 140737488355328&&Nat.ble xs.length 140737488355328 with
   | true=>some (.str ⟨(FN xs sep).toArray⟩,h)
   | false=>none)
  | none=>none)
 | 122,[.ptr 0 0],[some [.dA 188 0,.dC l]]=>some (.str ⟨l.toArray⟩,[some [.dA 188 0,.sl false 1 (nO l)]])
 | 207,[.ptr 0 0],[some [.dA 188 0,.dC l]]=>some (.tuple [],[some [.dA 188 0,.dC l]])
 | _,_,_=>none
theorem bP' (hm:zf M w):Gu Tryz.prog Tryz.laysM171_ren w:=fun i hi=>by
 refine (hm _ i _ (M.g _ _ _ ?_)).1;show BH M.m (Tryz.laysM171_ren.g 17) i=_;have e:(aCZ M.m).lookup (Tryz.laysM171_ren.g 17)=some (Lib.pow10Tab.map (Value.int .u64)):=by kernel_rfl
 unfold BH;rw[e,NF,lL];grind [Lib.pow10Tab]
theorem a_E (n:Int) (h0:0<=n) (h1:n<Rf) (h:aG):Ev Tryz.prog 123 [.int .i64 n] h (.str ⟨(Lib.decDigits n.toNat).toArray⟩) h:=by
 unfold Rf at h1;have ev:∀ {M:Mem} {B:aP} {vals:Array Value},ay M B [.int .i64 n] vals.toList->vals = #[.int .i64 n]:=fun hv=>by obtain ⟨u1,us,e1,r1,hv⟩:=cO.1 hv;rw[dW] at hv; grind [dw]
 by_cases hs:n<100
 .refine a6B (v := .string ⟨(Lib.decDigits n.toNat).toArray⟩) (by kernel_rfl) (fun _ _=>iq.2 rfl) rfl (fun M B w vals hv => ?_) h;rw[ev hv];have:=bJM n.toNat (by omega) w;rwa [aDY h0] at this
 .refine (Yf (v := .string ⟨(Lib.decDigits n.toNat).toArray⟩) (by kernel_rfl) (fun _ _=>iq.2 rfl) rfl fun M w vals hm hv => ?_).frame' rfl rfl h;rw[ev hv];have:=bJL Tryz.laysM171 n.toNat (by omega) (by omega) w (bP' hm);rwa [aDY h0] at this
theorem bVJ {q:PV} (hv:ay M B [p,q] vals.toList):∃ u v,vals = #[u,v]/\Rep M B p u/\Rep M B q v:=a3Z hv
theorem aYP:Builder.Extra Tryz.prog Tryz.lays105_ren where
 sizeBuilder:=by kernel_rfl
 liesBuilder:=by kernel_rfl
 t5:=Tryz.underlying5
 a5:=Tryz.isAgg5
 z5:=Tryz.sizeOf5
 v5:=Tryz.zeroValue5
 infoByte:=by kernel_rfl
 cellsByte:=by kernel_rfl
 sizeByte:=by kernel_rfl
 neB5:=by decide
theorem bQ' (s:ByteArray) (c:Nat) (w:World) (hc:c<=9223372036854775807) (hlen:s.size*c<=140737488355328) :
 Calls Tryz.prog 130 #[.string s,.int .i64 c] w fun e w'=>e = .returned (.string ⟨(Lib.repeatL s.data.toList c).toArray⟩)/\Below w.heap.size w w' :=
 Any.strings_Repeat Tryz.lays105 aYP s c w hc hlen
theorem a_I (s:ByteArray) (n:Int) (h0:0<=n) (h1:n.toNat<=9223372036854775807) (h2:s.size*n.toNat<=140737488355328):Ev Tryz.prog 130 [.str s,.int .i64 n] [] (.str ⟨(Lib.repeatL s.data.toList n.toNat).toArray⟩) []:=by
 refine Yf (v := .string ⟨(Lib.repeatL s.data.toList n.toNat).toArray⟩) (by kernel_rfl) (fun _ _=>iq.2 rfl) rfl fun M w vals hmem hv => ?_
 obtain ⟨u,v,rfl,hu,hv⟩:=a3Z hv;rw[iq.1 hu,dw.1 hv];have:=bQ' s n.toNat w h1 h2;rwa [aDY h0] at this
theorem bM7 (hm:zf M w):w.cell? ⟨Tryz.lays144_ren.g 1,0,none⟩=some (.int .i64 M.m):=by refine (hm _ 0 _ (M.g _ _ _ ?_)).1;show BH M.m (Tryz.lays144_ren.g 1) 0=_;rfl
theorem a_C (s x:ByteArray) (h1:s.size<4294967281) (h:aG):Ev Tryz.prog 19 [.str s,.str x] h (.bool (Lib.contains s.data.toList x.data.toList)) h:=by refine (Yf (v := .bool (Lib.contains s.data.toList x.data.toList)) (by kernel_rfl) (fun _ _=>kE.2 rfl) rfl fun M w vals hmem hv => ?_).frame' rfl rfl h;obtain ⟨u,v,rfl,hu,hv⟩:=a3Z hv;rw[iq.1 hu,iq.1 hv];refine (Any.strings_Contains Tryz.lays144 s x M.m w h1 (bM7 hmem)).mono ?_;grind [Below.refl]
theorem b06 (r:Gx):(EY r).flat=true:=by
 cases r with
 | ok ts=>rfl
 | err a b e=>rfl
theorem aWA:oN Tryz.prog CS:=by
 intro g args h r h' hv;unfold CS at hv;split at hv
 .rename_i h s;cases hv;have:=a_7 s.data.toList;have e:bs s.data.toList=s:=by rfl
  rw[e] at this;exact this.frame' (b06 _) rfl _
 grind [a_E]
 .rename_i h s c;cases hv;refine a6B (v := .int .i64 (Lib.indexByte s.data.toList c.toNat.toUInt8)) (by kernel_rfl) (fun _ _=>dw.2 rfl) rfl (fun M B w vals hv => ?_) _;obtain ⟨u,v,rfl,hu,hv⟩:=bVJ hv;rw[iq.1 hu,dw.1 hv];exact Any.stringslite_IndexByte Tryz.lays217 s c w
 .rename_i h s n;split at hv
  .rename_i hc;cases hv;simp only[bI,ny] at hc;exact (a_I s n hc.1 (Qx hc.2.1) (Qx hc.2.2)).frame' rfl rfl _
  .cases hv
 .rename_i h s x;split at hv
  .rename_i hc;cases hv;exact a_C s x (by have:=Qx hc; omega) _
  .cases hv
 .rename_i h o es sep;split at hv
  .rename_i xs hx;split at hv
   .rename_i hc;cases hv;simp only[bI] at hc;rw[aV2 hx];exact (a_F o xs sep (Qx hc.1) (Qx hc.2)).frame' rfl (by rfl) _
   .cases hv
  .cases hv
 grind [a_B]
 grind [a_D]
 .cases hv
end Go.Proofs.YtilpiopkekkbiaaGreatDoor
namespace Go.Proofs.YtilpiopkekkbiaaGreatDoor
end Go.Proofs.YtilpiopkekkbiaaGreatDoor
namespace Go.Proofs.YtilpiopkekkbiaaGreatDoor.W
open Go.RowKit
set_option maxRecDepth 1000000
section
abbrev bZV (n:Int):PV:=.int .i64 n
abbrev bZW (l:bZZ):PV:=.sl false 1 l
abbrev bZX:PV:=.ptr 0 0
abbrev bZY:=ByteArray
abbrev S0:List Sh := [.S,.L false 5,.L false 9,.L false 3,.L false 3,.L false 2,.L false 3]
abbrev A0 (u:Sh.V S0):PV := .agg [.str u.1,.sl false 5 u.2.1,.sl false 9 u.2.2.1,.sl false 3 u.2.2.2.1,.sl false 3 u.2.2.2.2.1,.sl false 2 u.2.2.2.2.2.1,.sl false 3 u.2.2.2.2.2.2.1]
abbrev S1:List Sh := [.I .i64,.I .i64,.I .i64,.L false 4]
abbrev A1 (u:Sh.V S1):PV := .agg [.int .i64 u.1,.int .i64 u.2.1,.int .i64 u.2.2.1,.sl false 4 u.2.2.2.1]
abbrev O1 (u:Sh.V S1):Option (bZZ):=some [.int .i64 u.1,.int .i64 u.2.1,.int .i64 u.2.2.1,.sl false 4 u.2.2.2.1]
abbrev S2:List Sh := [.I .u8,.I .u8,.I .u8,.I .u8,.I .u8,.L false 7,.L false 3,.L false 4,.L false 3]
abbrev A2 (u:Sh.V S2):PV := .agg [.int .u8 u.1,.int .u8 u.2.1,.int .u8 u.2.2.1,.int .u8 u.2.2.2.1,.int .u8 u.2.2.2.2.1,.sl false 7 u.2.2.2.2.2.1,.sl false 3 u.2.2.2.2.2.2.1,.sl false 4 u.2.2.2.2.2.2.2.1,.sl false 3 u.2.2.2.2.2.2.2.2.1]
abbrev S4:List Sh := [.S,.B,.B,.B,.I .i64]
abbrev A4 (u:Sh.V S4):PV := .agg [.str u.1,.bool u.2.1,.bool u.2.2.1,.bool u.2.2.2.1,.int .i64 u.2.2.2.2.1]
abbrev O4 (u:Sh.V S4):Option (bZZ):=some [.str u.1,.bool u.2.1,.bool u.2.2.1,.bool u.2.2.2.1,.int .i64 u.2.2.2.2.1]
abbrev S5:List Sh := [.S,.L false 1,.L false 1,.L false 1,.I .i64,.I .i64,.L false 1,.L false 4,.L false 8]
abbrev A5 (u:Sh.V S5):PV := .agg [.str u.1,.sl false 1 u.2.1,.sl false 1 u.2.2.1,.sl false 1 u.2.2.2.1,.int .i64 u.2.2.2.2.1,.int .i64 u.2.2.2.2.2.1,.sl false 1 u.2.2.2.2.2.2.1,.sl false 4 u.2.2.2.2.2.2.2.1,.sl false 8 u.2.2.2.2.2.2.2.2.1]
abbrev S6:List Sh := [.L false 1,.I .i64,.I .i64,.L false 1,.L false 4,.L false 8]
abbrev A6 (u:Sh.V S6):PV := .agg [.sl false 1 u.1,.int .i64 u.2.1,.int .i64 u.2.2.1,.sl false 1 u.2.2.2.1,.sl false 4 u.2.2.2.2.1,.sl false 8 u.2.2.2.2.2.1]
abbrev O6 (u:Sh.V S6):Option (bZZ):=some [.sl false 1 u.1,.int .i64 u.2.1,.int .i64 u.2.2.1,.sl false 1 u.2.2.2.1,.sl false 4 u.2.2.2.2.1,.sl false 8 u.2.2.2.2.2.1]
abbrev S7:List Sh := [.S,.I .i64,.I .i64,.I .i64]
abbrev A7 (u:Sh.V S7):PV := .agg [.str u.1,.int .i64 u.2.1,.int .i64 u.2.2.1,.int .i64 u.2.2.2.1]
abbrev O7 (u:Sh.V S7):Option (bZZ):=some [.str u.1,.int .i64 u.2.1,.int .i64 u.2.2.1,.int .i64 u.2.2.2.1]
abbrev S8:List Sh := [.S,.S,.L false 1]
abbrev A8 (u:Sh.V S8):PV := .agg [.str u.1,.str u.2.1,.sl false 1 u.2.2.1]
abbrev O8 (u:Sh.V S8):Option (bZZ):=some [.str u.1,.str u.2.1,.sl false 1 u.2.2.1]
abbrev S9:List Sh := [.I .i64,.I .i64,.I .i64,.I .i64,.I .i64,.I .i64,.L false 4,.L false 5]
abbrev A9 (u:Sh.V S9):PV := .agg [.int .i64 u.1,.int .i64 u.2.1,.int .i64 u.2.2.1,.int .i64 u.2.2.2.1,.int .i64 u.2.2.2.2.1,.int .i64 u.2.2.2.2.2.1,.sl false 4 u.2.2.2.2.2.2.1,.sl false 5 u.2.2.2.2.2.2.2.1]
abbrev O9 (u:Sh.V S9):Option (bZZ):=some [.int .i64 u.1,.int .i64 u.2.1,.int .i64 u.2.2.1,.int .i64 u.2.2.2.1,.int .i64 u.2.2.2.2.1,.int .i64 u.2.2.2.2.2.1,.sl false 4 u.2.2.2.2.2.2.1,.sl false 5 u.2.2.2.2.2.2.2.1]
abbrev jZ:List Sh := [.S,.L false 2]
abbrev ve (u:Sh.V jZ):PV := .agg [.str u.1,.sl false 2 u.2.1]
abbrev y7 (u:Sh.V jZ):Option (bZZ):=some [.str u.1,.sl false 2 u.2.1]
abbrev qO:List Sh := [.I .i64,.I .i64,.I .i64,.I .i64,.L false 4]
abbrev BF (u:Sh.V qO):PV := .agg [.int .i64 u.1,.int .i64 u.2.1,.int .i64 u.2.2.1,.int .i64 u.2.2.2.1,.sl false 4 u.2.2.2.2.1]
abbrev O11 (u:Sh.V qO):Option (bZZ):=some [.int .i64 u.1,.int .i64 u.2.1,.int .i64 u.2.2.1,.int .i64 u.2.2.2.1,.sl false 4 u.2.2.2.2.1]
abbrev AB:List Sh := [.S,.S]
abbrev NK (u:Sh.V AB):PV := .agg [.str u.1,.str u.2.1]
abbrev iy:List Sh := [.S,.L false 2,.I .i64]
abbrev rD (u:Sh.V iy):PV := .agg [.str u.1,.sl false 2 u.2.1,.int .i64 u.2.2.1]
abbrev wu (u:Sh.V iy):Option (bZZ):=some [.str u.1,.sl false 2 u.2.1,.int .i64 u.2.2.1]
abbrev BN:List Sh := [.S,.I .i64]
abbrev XL (u:Sh.V BN):PV := .agg [.str u.1,.int .i64 u.2.1]
abbrev gu:List Sh := [.L true 5]
abbrev aF (u:Sh.V gu):Option (bZZ):=some [.sl true 5 u.1]
abbrev aH:List Sh := [.L false 5,.I .i64,.I .i64,.I .i64]
abbrev aB (u:Sh.V aH):Option (bZZ):=some [.sl false 5 u.1,.int .i64 u.2.1,.int .i64 u.2.2.1,.int .i64 u.2.2.2.1]
abbrev Nq:List Sh := [.pt 1 0,.I .i64,.L false 1]
abbrev Nr:List Sh := [.I .i64]
abbrev kQ (u:Sh.V Nr):Option (bZZ):=some [.int .i64 u.1]
abbrev wz:List Sh := [.I .u8,.I .u8,.I .u8]
abbrev Xd (u:Sh.V wz):Option (bZZ):=some [.int .u8 u.1,.int .u8 u.2.1,.int .u8 u.2.2.1]
abbrev Gv:List Sh := [.I .u8,.I .u8,.I .u8,.I .u8]
abbrev O21 (u:Sh.V Gv):Option (bZZ):=some [.int .u8 u.1,.int .u8 u.2.1,.int .u8 u.2.2.1,.int .u8 u.2.2.2.1]
abbrev sU:List Sh := [.S,.L true 2]
abbrev vg (u:Sh.V sU):Option (bZZ):=some [.str u.1,.sl true 2 u.2.1]
abbrev iP:List Sh := [.S,.L true 5,.L true 9,.L true 3,.L true 3,.L true 2,.L true 3]
abbrev bJ (u:Sh.V iP):Option (bZZ):=some [.str u.1,.sl true 5 u.2.1,.sl true 9 u.2.2.1,.sl true 3 u.2.2.2.1,.sl true 3 u.2.2.2.2.1,.sl true 2 u.2.2.2.2.2.1,.sl true 3 u.2.2.2.2.2.2.1]
abbrev S24:List Sh := [.S,.L false 5,.L true 9,.L true 3,.L true 3,.L true 2,.L true 3]
abbrev DK (u:Sh.V S24):Option (bZZ):=some [.str u.1,.sl false 5 u.2.1,.sl true 9 u.2.2.1,.sl true 3 u.2.2.2.1,.sl true 3 u.2.2.2.2.1,.sl true 2 u.2.2.2.2.2.1,.sl true 3 u.2.2.2.2.2.2.1]
abbrev mZ:List Sh := [.S,.S,.L true 1]
abbrev nK (u:Sh.V mZ):Option (bZZ):=some [.str u.1,.str u.2.1,.sl true 1 u.2.2.1]
abbrev rJ:List Sh := [.I .u8,.I .u8,.I .u8,.I .u8,.L false 2,.L false 3,.L false 1]
abbrev AA (u:Sh.V rJ):PV := .agg [.int .u8 u.1,.int .u8 u.2.1,.int .u8 u.2.2.1,.int .u8 u.2.2.2.1,.sl false 2 u.2.2.2.2.1,.sl false 3 u.2.2.2.2.2.1,.sl false 1 u.2.2.2.2.2.2.1]
abbrev Rn:List Sh := [.I .i8,.I .i8,.I .i8]
abbrev Ro:List Sh := [.I .u8,.I .u8,.I .u8,.I .u8,.I .u8]
abbrev XM (u:Sh.V Ro):PV := .agg [.int .u8 u.1,.int .u8 u.2.1,.int .u8 u.2.2.1,.int .u8 u.2.2.2.1,.int .u8 u.2.2.2.2.1]
abbrev eH:List Sh := [.pt 1 0,.I .i64,.L true 1]
abbrev au (u:Sh.V eH):Option (bZZ):=some [.ptr 1 0,.int .i64 u.1,.sl true 1 u.2.1]
abbrev lm:List Sh := [.I .i64,.S,.I .i64,.I .i64,.I .i64]
abbrev oK (u:Sh.V lm):PV := .agg [.int .i64 u.1,.str u.2.1,.int .i64 u.2.2.1,.int .i64 u.2.2.2.1,.int .i64 u.2.2.2.2.1]
abbrev O30 (u:Sh.V lm):Option (bZZ):=some [.int .i64 u.1,.str u.2.1,.int .i64 u.2.2.1,.int .i64 u.2.2.2.1,.int .i64 u.2.2.2.2.1]
abbrev bn:List Sh := [.pt 2 0,.I .i64,.L true 1]
abbrev aY (u:Sh.V bn):Option (bZZ):=some [.ptr 2 0,.int .i64 u.1,.sl true 1 u.2.1]
abbrev Xh:List Sh := [.fn 82]
abbrev S33:List Sh := [.M]
abbrev O33 (u:Sh.V S33):Option (bZZ):=some [.mp u.1]
abbrev S34:List Sh := [.L false 3,.L false 3]
abbrev A34 (u:Sh.V S34):PV := .agg [.sl false 3 u.1,.sl false 3 u.2.1]
abbrev S35:List Sh := [.B,.B,.B]
abbrev A35 (u:Sh.V S35):PV := .agg [.bool u.1,.bool u.2.1,.bool u.2.2.1]
abbrev ku:List Sh := [.pt 0 0]
abbrev uo:List Sh := [.bd 188 0,.Y]
abbrev pK (u:Sh.V uo):Option (bZZ):=some [.dA 188 0,.dC u.1]
abbrev BO:List Sh := [.B]
abbrev nM (u:Sh.V BO):Option (bZZ):=some [.bool u.1]
abbrev Ns:List Sh := [.bd 188 1,.Y]
abbrev BM (u:Sh.V Ns):Option (bZZ):=some [.dA 188 1,.dC u.1]
abbrev Rq:List Sh := [.bd 188 0,.L false 1]
abbrev S41:List Sh := [.pt 2 0,.S,.L true 5,.L true 9,.L true 3,.L true 3,.L true 2,.L true 3,.L false 1,.I .i64]
abbrev vk:List Sh := [.L true 1]
abbrev iw (u:Sh.V vk):Option (bZZ):=some [.sl true 1 u.1]
abbrev lq:List Sh := [.pt 1 0]
abbrev gW:List Sh := [.S,.L true 1,.L true 1,.L true 1,.I .i64,.I .i64,.L true 1,.L true 4,.L true 8]
abbrev fM (u:Sh.V gW):Option (bZZ):=some [.str u.1,.sl true 1 u.2.1,.sl true 1 u.2.2.1,.sl true 1 u.2.2.2.1,.int .i64 u.2.2.2.2.1,.int .i64 u.2.2.2.2.2.1,.sl true 1 u.2.2.2.2.2.2.1,.sl true 4 u.2.2.2.2.2.2.2.1,.sl true 8 u.2.2.2.2.2.2.2.2.1]
abbrev S46:List Sh := [.S,.L false 1,.L false 1,.L true 1,.I .i64,.I .i64,.L true 1,.L true 4,.L true 8]
abbrev Rj (u:Sh.V S46):Option (bZZ):=some [.str u.1,.sl false 1 u.2.1,.sl false 1 u.2.2.1,.sl true 1 u.2.2.2.1,.int .i64 u.2.2.2.2.1,.int .i64 u.2.2.2.2.2.1,.sl true 1 u.2.2.2.2.2.2.1,.sl true 4 u.2.2.2.2.2.2.2.1,.sl true 8 u.2.2.2.2.2.2.2.2.1]
abbrev S47:List Sh := [.L true 1,.I .i64,.I .i64,.L true 1,.L false 4,.L true 8]
abbrev Rk (u:Sh.V S47):Option (bZZ):=some [.sl true 1 u.1,.int .i64 u.2.1,.int .i64 u.2.2.1,.sl true 1 u.2.2.2.1,.sl false 4 u.2.2.2.2.1,.sl true 8 u.2.2.2.2.2.1]
abbrev rM:List Sh := [.I .i64,.I .i64,.I .i64,.I .i64,.I .i64,.I .i64,.L false 4,.L true 5]
abbrev sS (u:Sh.V rM):Option (bZZ):=some [.int .i64 u.1,.int .i64 u.2.1,.int .i64 u.2.2.1,.int .i64 u.2.2.2.1,.int .i64 u.2.2.2.2.1,.int .i64 u.2.2.2.2.2.1,.sl false 4 u.2.2.2.2.2.2.1,.sl true 5 u.2.2.2.2.2.2.2.1]
abbrev AC:List Sh := [.pt 4 0,.I .i64,.L true 1]
abbrev kR (u:Sh.V AC):Option (bZZ):=some [.ptr 4 0,.int .i64 u.1,.sl true 1 u.2.1]
abbrev lu:List Sh := [.pt 2 0]
abbrev ja:List Sh := [.pt 3 0]
abbrev S52:List Sh := [.I .i64,.I .i64,.I .i64,.L true 4]
abbrev Xe (u:Sh.V S52):Option (bZZ):=some [.int .i64 u.1,.int .i64 u.2.1,.int .i64 u.2.2.1,.sl true 4 u.2.2.2.1]
abbrev S53:List Sh := [.pt 2 0,.S,.L true 5,.L true 9,.L true 3,.L true 3,.L true 2,.L true 3,.L true 1,.I .i64]
abbrev Nu:List Sh := [.I .i8,.I .i8]
abbrev zD:List Sh := [.L false 1,.I .i64,.I .i64]
abbrev ig (u:Sh.V zD):Option (bZZ):=some [.sl false 1 u.1,.int .i64 u.2.1,.int .i64 u.2.2.1]
abbrev Xi:List Sh := [.fn 179]
abbrev Nv:List Sh := [.pt 2 0,.I .i64,.L false 1]
abbrev Xj:List Sh := [.I .i64,.I .i64,.B]
abbrev qL (u:Sh.V Xj):PV := .agg [.int .i64 u.1,.int .i64 u.2.1,.bool u.2.2.1]
abbrev Gw:List Sh := [.pt 0 0,.S,.L true 5,.L true 9,.L true 3,.L true 3,.L true 2,.L true 3,.L true 1,.I .i64]
abbrev S62:List Sh := [.pt 0 0,.S,.L true 5,.L true 9,.L false 3,.L true 3,.L true 2,.L true 3,.L true 1,.I .i64]
abbrev S63:List Sh := [.pt 0 0,.S,.L true 5,.L true 9,.L true 3,.L false 3,.L true 2,.L true 3,.L true 1,.I .i64]
abbrev S64:List Sh := [.S,.L true 2,.I .i64]
abbrev O64 (u:Sh.V S64):Option (bZZ):=some [.str u.1,.sl true 2 u.2.1,.int .i64 u.2.2.1]
abbrev gY:List Sh := [.pt 3 0,.I .i64,.L true 1]
abbrev fV (u:Sh.V gY):Option (bZZ):=some [.ptr 3 0,.int .i64 u.1,.sl true 1 u.2.1]
abbrev jh:List Sh := [.pt 0 0,.I .i64,.L true 1]
abbrev kH (u:Sh.V jh):Option (bZZ):=some [.ptr 0 0,.int .i64 u.1,.sl true 1 u.2.1]
def lkT {α:Type} (g:Nat) (d:α):List (List Nat×α)->α
 | []=>d
 | x::l=>bif x.1.any (Nat.beq g) then x.2 else lkT g d l
def vvT (g:TypeId):Option RS:=lkT g none [([2,3,47],some (.ti .i64)),([4],some (.tb)),([5,6,337,338],some (.ti .u8)),([9,10,11],some (.ts)),([12,260,304],some (.ti .u64)),([21,340,341],some (.ti .i32)),([26],some (.tl false 7)),([27,29,40,42],some (.tl false 3)),([28,55,65],some (.tl false 4)),([32],some (.ti .u16)),([38,80,146],some (.tl false 5)),([39],some (.tl false 9)),([41,75,92,99,249],some (.tl false 2)),([57],some (.g S1)),([60,64,76,194,220,293],some (.tl false 1)),([63],some (.g S4)),([66],some (.tl false 8)),([70],some (.g S5)),([78],some (.g rJ)),([88],some (.g wz)),([90],some (.g S8)),([91],some (.g Gv)),([94],some (.g jZ)),([96],some (.g AB)),([97],some (.ti .i8)),([98],some (.g Rn)),([101],some (.g BN)),([103],some (.g iy)),([115],some (.g lm)),([148],some (.g S9)),([152],some (.g qO)),([159],some (.g S7)),([191],some (.z (.ni))),([264],some (.g Nu)),([301],some (.ti .u32)),([313],some (.g Xj))]
def w0:kS:=([],.tb,[])
def w1:kS:=([],.ti .i64,[])
def w2:kS:=([],.ts,[])
def w3:kS:=([],.tl false 1,[])
def w4:kS:=([],.t [(false,[.S]),(false,[.I .i64])],[])
def w5:kS:=([],.t [(true,S1),(false,[.I .i64]),(false,[.I .i64]),(false,[.I .i64])],[])
def w6:kS:=([],.tl true 1,[])
def w7:kS:=([],.t [(true,S0),(false,[.I .i64]),(false,[.I .i64]),(false,[.I .i64])],[])
def w8:kS:=([.c gu],.t [],[.c gu])
def w9:kS:=([.c Nq,.c aH],.g S1,[.c Nq,.c aH])
def w10:kS:=([.c eH,.c aH],.g S1,[.c eH,.c aH])
def w11:kS:=([.c aH],.t [],[.c aH])
def w14:kS:=([],.g S1,[])
def w15:kS:=([],.tl false 5,[])
def w16:kS:=([.c aH],.g lm,[.c aH])
def w17:kS:=([.c bn,.c iP,.c aH],.t [],[.c bn,.c iP,.c aH])
def w18:kS:=([.z Xh],.tb,[.z Xh])
def w19:kS:=([.z Xi],.tb,[.z Xi])
def w20:kS:=([.c S7],.tb,[.c S7])
def w21:kS:=([.c aH],.tb,[.c aH])
def w26:kS:=([.z lq,.c gu],.t [],[.z lq,.c gu])
def w28:kS:=([.z lu,.z ja,.c AC,.c iP,.c aH],.t [],[.z lu,.z ja,.c AC,.c iP,.c aH])
def w30:kS:=([.c bn,.c gW,.c aH],.t [],[.c bn,.c gW,.c aH])
def w31:kS:=([.c eH,.c aH],.ti .i64,[.c eH,.c aH])
def w32:kS:=([.z lq,.c Nv,.c aH],.g S1,[.z lq,.c Nv,.c aH])
def w33:kS:=([.z lq,.c bn,.c aH],.g S1,[.z lq,.c bn,.c aH])
def wwT (g:FuncId):List kS:=lkT g [] [([5,6,8,15,16,19,22,23,51,67,74,75,82,83,84,85,87,88,89,91,92,94,95,96,97,98,99,100,101,102,103,104,108,109,110,156,170,175,177,178,179,188,189,210,214,242,250,251],[w0]),([10,25,41,43,45,47,123,130,224,227,233,235,238,275,283],[w2]),([11],[([],.g S0,[])]),([12,18,27,113],[w4]),([13],[w7]),([14,48,49,50,52,53,54,55,56,57,58,59,60,61,62,63,64,65,66,68,69,70,71,72,73,76,77,78,79,80,81,118,157,158,159,160,162,163,164,165,166,167,168,171,172,173,174,176,182,184,185,240,244,273,274,276],[w1]),([17],[w5]),([21],[([],.t [(false,[.S]),(false,[.I .i64]),(false,[.I .i64]),(false,[.I .i64])],[])]),([24],[([],.t [(false,[.L false 5]),(false,[.I .i64]),(false,[.I .i64]),(false,[.I .i64])],[])]),([26,40,42,44,46,124,125,131,161,223],[w3]),([28,129],[w15]),([29],[([],.g S5,[])]),([30,112,135,136,137,138,139],[w8]),([31],[([],.z (.pt 0 0),[.c aH])]),([32,37,107],[w11]),([33],[([.c aH],.ts,[.c aH])]),([34],[([.c eH,.c aH],.tb,[.c eH,.c aH])]),([35,144],[w16]),([36,146,148,150,153,155],[w17]),([38],[([.c aH],.t [(false,[.I .i64]),(false,[.I .i64]),(false,[.I .i64])],[.c aH])]),([39],[([],.tl true 3,[])]),([86],[w18]),([90],[w0,w19]),([93],[w18,w0]),([105,126,211,219,282],[w6]),([106,181,245],[w9,w10]),([111],[([],.t [(false,[.I .i64]),(false,[.I .i64])],[])]),([121],[([.c uo],.t [(false,[.I .i64]),(false,[.ni])],[.c uo])]),([122],[([.c uo],.ts,[.c Rq])]),([127],[([.c BO,.c Ns],.t [],[.c BO,.c Ns])]),([128],[([.c uo],.z (.ni),[.c uo])]),([132],[([],.tl false 4,[])]),([133,134,187,281],[w14]),([140],[([.c gu,.z ku,.c jZ],.t [],[.c gu,.z ku,.c jZ]),([.c gu,.z ku,.c iy],.t [],[.c gu,.z ku,.c iy]),([.c gu,.z ku,.c vk,.c S9],.t [],[.c gu,.z ku,.c vk,.c S9]),([.c gu,.z ku],.t [],[.c gu,.z ku])]),([141],[([.z lu,.c jZ,.c gu],.t [],[.z lu,.c jZ,.c gu])]),([142],[([.z lu,.c iy,.c gu],.t [],[.z lu,.c iy,.c gu])]),([143,193],[w21]),([145,147,149,151,152,154],[w28]),([169],[w20,w0]),([180],[w19]),([183],[([.c Nr],.ti .i64,[.c Nr])]),([186,221],[w26]),([207],[([.c uo],.t [],[.c uo])]),([212],[([.a],.o (.H 0 0 5),[.a]),w15]),([213],[([],.tl true 5,[])]),([218],[([.c zD],.g S1,[.c zD])]),([220],[([.z ja,.c vk,.c S9,.c gu],.t [],[.z ja,.c vk,.c S9,.c gu])]),([222],[([.c eH,.c aH],.ts,[.c eH,.c aH])]),([225],[([.c eH,.c aH],.tl false 1,[.c eH,.c aH])]),([226],[([.c aH],.ti .i64,[.c aH])]),([228],[([.c gY,.c gW,.z ku,.c aH],.t [],[.c gY,.c gW,.z ku,.c aH]),([.c gY,.c mZ,.z ku,.c aH],.t [],[.c gY,.c mZ,.z ku,.c aH])]),([229],[([.c gW,.z lu,.c gY,.c aH],.t [],[.c gW,.z lu,.c gY,.c aH])]),([230],[([.c gY,.c gW,.c BO,.c aH],.t [],[.c gY,.c gW,.c BO,.c aH])]),([231,232],[w30]),([234],[([.c mZ,.z lu,.c gY,.c aH],.t [],[.c mZ,.z lu,.c gY,.c aH])]),([236],[([.c aH,.c gW,.z ja,.c Gw],.t [],[.c aH,.c gW,.z ja,.c Gw]),([.c aH,.c mZ,.z ja,.c S62],.t [],[.c aH,.c mZ,.z ja,.c S62]),([.c aH,.c mZ,.z ja,.c Gw],.t [],[.c aH,.c mZ,.z ja,.c Gw]),([.c aH,.c mZ,.z ja,.c S63],.t [],[.c aH,.c mZ,.z ja,.c S63]),([.c aH,.z ja,.c sU,.c Gw],.t [],[.c aH,.z ja,.c sU,.c Gw]),([.c aH,.z ja,.c sU,.c jh],.t [],[.c aH,.z ja,.c sU,.c jh]),([.c aH,.z ja,.c rM,.c Gw],.t [],[.c aH,.z ja,.c rM,.c Gw]),([.c aH,.c gW,.z ja,.c jh],.t [],[.c aH,.c gW,.z ja,.c jh]),([.c aH,.z ja,.c rM,.c jh],.t [],[.c aH,.z ja,.c rM,.c jh]),([.c aH,.c mZ,.z ja,.c jh],.t [],[.c aH,.c mZ,.z ja,.c jh])]),([237],[([.z lu,.c sU,.c gY,.c aH],.t [],[.z lu,.c sU,.c gY,.c aH])]),([239],[w31]),([241],[w20]),([243],[([.c S7],.ti .i64,[.c S7]),w1]),([246],[([.c Nq,.c aH],.t [(false,[.I .i64]),(false,[.B]),(false,[.B])],[.c Nq,.c aH]),([.c eH,.c aH],.t [(false,[.I .i64]),(false,[.B]),(false,[.B])],[.c eH,.c aH])]),([247],[([.a],.t [],[.a])]),([248],[([],.t [(false,[.I .i64]),(false,[.B])],[])]),([249],[([.c vk],.tb,[.c vk])]),([280],[([.c zD],.ti .i64,[.c zD])]),([284],[([.z lq,.c bn,.c aH],.tl false 1,[.z lq,.c bn,.c aH])]),([285],[([.z lq,.c bn,.c aH],.tb,[.z lq,.c bn,.c aH])]),([286],[([.c Nq,.c aH],.ti .i64,[.c Nq,.c aH]),w31]),([287],[([.z lu,.c rM,.c gY,.c aH],.t [],[.z lu,.c rM,.c gY,.c aH])]),([288],[([.c Nv,.z ku,.c aH],.g S1,[.c Nv,.z ku,.c aH]),([.c bn,.z ku,.c aH],.g S1,[.c bn,.z ku,.c aH])]),([289,290,291],[w32,w33]),([292],[([.z lq,.c S41,.c aH],.ti .i64,[.z lq,.c S41,.c aH]),w1,([.z lq,.c S53,.c aH],.ti .i64,[.z lq,.c S53,.c aH])]),([304],[([.z lq,.c Nv,.c aH],.t [],[.z lq,.c Nv,.c aH]),([.z lq,.c bn,.c aH],.t [],[.z lq,.c bn,.c aH])])]
def d0:ww:=⟨[],[],[],[],[],[],[],[],[],[],[],[],false⟩
def pZ1 (a0:List Nat):ww:=⟨a0,[],[],[],[],[],[],[],[],[],[],[],false⟩
def pZ2 (a0:List Nat) (a1:List Nat):ww:=⟨a0,a1,[],[],[],[],[],[],[],[],[],[],false⟩
def QC (a0:List Nat) (a1:List Nat) (a2:List Nat) (a3:List (Nat×List Nat)):ww:=⟨a0,a1,a2,a3,[],[],[],[],[],[],[],[],false⟩
def pZ5 (a0:List Nat) (a1:List Nat) (a2:List Nat) (a3:List (Nat×List Nat)) (a4:List (Nat×List Nat)):ww:=⟨a0,a1,a2,a3,a4,[],[],[],[],[],[],[],false⟩
def wL (a0:List Nat) (a1:List Nat) (a2:List Nat) (a3:List (Nat×List Nat)) (a4:List (Nat×List Nat)) (a5:List (Nat×List Nat)):ww:=⟨a0,a1,a2,a3,a4,a5,[],[],[],[],[],[],false⟩
def jX (a0:List Nat) (a1:List Nat) (a2:List Nat) (a3:List (Nat×List Nat)) (a4:List (Nat×List Nat)) (a5:List (Nat×List Nat)) (a6:List (Nat×List Nat)):ww:=⟨a0,a1,a2,a3,a4,a5,a6,[],[],[],[],[],false⟩
def nC (a0:List Nat) (a1:List Nat) (a2:List Nat) (a3:List (Nat×List Nat)) (a4:List (Nat×List Nat)) (a5:List (Nat×List Nat)) (a6:List (Nat×List Nat)) (a7:List Nat):ww:=⟨a0,a1,a2,a3,a4,a5,a6,a7,[],[],[],[],false⟩
def oh (a0:List Nat) (a1:List Nat) (a2:List Nat) (a3:List (Nat×List Nat)) (a4:List (Nat×List Nat)) (a5:List (Nat×List Nat)) (a6:List (Nat×List Nat)) (a7:List Nat) (a8:List (List Nat×Bool)):ww:=⟨a0,a1,a2,a3,a4,a5,a6,a7,a8,[],[],[],false⟩
def bP8 (a0:List Nat) (a1:List Nat) (a2:List Nat) (a3:List (Nat×List Nat)) (a4:List (Nat×List Nat)) (a5:List (Nat×List Nat)) (a6:List (Nat×List Nat)) (a7:List Nat) (a8:List (List Nat×Bool)) (a9:List (Nat×List Nat)):ww:=⟨a0,a1,a2,a3,a4,a5,a6,a7,a8,a9,[],[],false⟩
def QB (a0:List Nat) (a1:List Nat) (a2:List Nat) (a3:List (Nat×List Nat)) (a4:List (Nat×List Nat)) (a5:List (Nat×List Nat)) (a6:List (Nat×List Nat)) (a7:List Nat) (a8:List (List Nat×Bool)) (a9:List (Nat×List Nat)) (a10:List Nat):ww:=⟨a0,a1,a2,a3,a4,a5,a6,a7,a8,a9,a10,[],false⟩
def iU (a0:List Nat) (a1:List Nat) (a2:List Nat) (a3:List (Nat×List Nat)) (a4:List (Nat×List Nat)) (a5:List (Nat×List Nat)) (a6:List (Nat×List Nat)) (a7:List Nat) (a8:List (List Nat×Bool)) (a9:List (Nat×List Nat)) (a10:List Nat) (a11:List Nat):ww:=⟨a0,a1,a2,a3,a4,a5,a6,a7,a8,a9,a10,a11,false⟩
def fQ:List Nat := [0,0,0,4]
def iH:List Nat := [0,1]
def jq:List Nat := [0,0,1]
def kC:List Nat := [0,5,9,3,3,2,3]
def lD:List Nat := [0,1,1,1,0,0,1,4,8]
def oq:List Nat := [1,2,15,16,17]
def qx:List Nat := [1,5,8,9,10]
def sD:List Nat := [2,3]
def ug:List Nat := [0,1,2]
def wM:List Nat := [0,0,0,0,0,0,4,5]
def xW:List Nat := [0,2]
def xY:List Nat := [0,1,7,8]
def yX:List Nat := [0,2,0]
def Aj:List Nat := [1,8,9]
def Ak:List Nat := [0,1,12,13]
def CQ:List Nat := [5,0,0,0]
def EQ:List Nat := [0,1,2,3]
def Fq:List Nat := [0,0,0,0,4]
def Ik:List Nat := [0,0,0,0,0,7,3,4,3]
def Il:List Nat := [0,1,5]
def Io:List Nat := [0,1,2,7,8,9,15,16,17]
def LY:List Nat := [1,0,0,1,4,8]
def LZ:List Nat := [0,1,5,7,8,9,10]
def La:List Nat := [0,2,3]
def QF:List Nat := [0,1,2,6,7]
def VZ:List Nat := [0,0,0,0,2,3,1]
def Va:List Nat := [0,1,5,7,8]
def a2L:List Nat := [1,3,25,26,27]
def a2M:List Nat := [1,3,116,117,118]
def a2N:List Nat := [2,3,27,28,29]
def a2O:List Nat := [0,1,5,6,8,9]
def a2P:List Nat := [0,1,5,12,13]
def a2Q:List Nat := [1,3,23,24,25]
def a2R:List Nat := [1,3,6,95,96,97]
def a2S:List Nat := [2,3,4,5,30,31,32]
def aB1:List Nat := [1,2,3,22,23,24]
def aB2:List Nat := [1,2,3,6,46,47,48]
def aB3:List Nat := [1,2,3,6,8,9,46,47,48,70,71]
def aB4:List Nat := [1,2,3,6,111,112,113]
def aB5:List Nat := [1,2,3,6,12,13,111,112,113,130,131]
def aB6:List Nat := [2,3,6,168,169,170]
def aB7:List Nat := [0,1,5,39,40,41]
def aB8:List Nat := [1,8,63,64,65]
def aB9:List Nat := [1,3,5,25,26,27,42,43,44]
def aBA:List Nat := [1,3,72,73,74]
def aBB:List Nat := [1,3,88,89,90]
def aBC:List Nat := [1,3,116,117,118,128,129,130]
def aBD:List Nat := [3,153,154,155]
def aBE:List Nat := [3,18,153,154,155,165,166,167]
def aBF:List Nat := [6,7,8,9,10,23,24,25]
def aBG:List Nat := [3,4,5,6,7,43,44]
def aBH:List Nat := [3,4,5,6,7,54,55]
def aBI:List Nat := [3,4,5,6,7,72,73,74]
def aBJ:List Nat := [3,4,5,6,7,11,12,13,72,73,74,126,127]
def aBK:List Nat := [2,3,5,27,28,29,44,45]
def aBL:List Nat := [2,3,72,73,74]
def aBM:List Nat := [2,3,10,86,87,91,92,93]
def aBN:List Nat := [2,3,123,124,125]
def aBO:List Nat := [2,148,149,150]
def aBP:List Nat := [0,4,14,15,16]
def aBQ:List Nat := [1,3,6,56,57,58]
def aBR:List Nat := [1,3,6,95,96,97,136,137,138]
def aBS:List Nat := [2,3,4,5,60,61,62]
def aBT:List Nat := [2,3,5,97,98,99]
def aBU:List Nat := [3,5,59,60,61]
def aBV:List Nat := [1,2,3,87,88,89]
def aAY (g:FuncId):ww:=lkT g d0 [([5],(iU [0,1,2,3,5,6,7,8,9,10,11] [] [] [(0,Ik),(1,Ik)] [(4,sD)] [] [(2,Ik),(3,Ik),(5,kC),(8,kC)] sD [] [] [] [71,82,86])),([6],(jX [1,2,3,4,5,6,7,10,11,12] [] [] [] [] [] [(1,kC),(7,fQ)])),([8],(nC iH [] [] [(0,Ik)] [(4,[1])] [] [(1,Ik)] [1])),([10],(nC [0,1,3,7] [] [] [(0,kC),(3,[5])] [] [] [(1,kC)] [1])),([11],(iU [0,1,2,3,4,5,6,7,8,9,10,11,12,13,14,15,16,22,23,24,46,47,48,70,71,111,112,113,130,131,168,169,170] [32,75,93,99,104,135,161,178] [] [(0,Ik),(6,[1]),(22,[7]),(46,[3]),(111,[4]),(168,[3])] [(5,aB1),(7,[1,2,3,4,5,22,23,24]),(8,aB1),(9,[1,2,3]),(12,aB2),(14,[1,2,3,6,7,8,46,47,48]),(17,aB3),(19,aB3),(20,[1,2,3,6,8,9,46,47,48]),(23,[1,2,3,6,9,46,47,48]),(24,aB2),(25,[1,2,3,6]),(27,aB4),(29,[1,2,3,6,11,12,111,112,113]),(32,aB5),(34,aB5),(35,[1,2,3,6,13,111,112,113]),(36,aB4),(37,[1,2,3,6]),(39,aB6),(41,[2,3,6,15,16,168,169,170]),(42,aB6),(43,sD)] [(4,aB1),(11,aB2),(16,aB3),(26,aB4),(31,aB5),(38,aB6)] [(1,Ik),(2,kC),(3,kC),(5,VZ),(9,jq),(13,xW)] [1] [(kC,true)] [] [139,149] [146,186,196])),([12],(nC [0,1,4,5,6,7] [] [] [(0,kC)] [(5,[1]),(10,[6]),(12,[6])] [] [(1,kC),(5,[5])] [1])),([13],(iU [0,2,3,4,5,6] [] [] [] [(7,[2,6]),(8,[2,6]),(10,[2,6]),(13,[2])] [(6,[2,6])] [(2,kC),(6,jq)] [] [(kC,true),([],true),([],true),([],true)] [] [8,48] [8])),([14],(iU [0,1,3,4,5,6,7] [] [] [(0,kC)] [] [] [(1,kC),(3,[3]),(4,[1]),(5,[1]),(6,[1]),(7,[1])] [1] [] [(7,[9000003,9000004,9000005,9000006,9000007])] [] [9,12])),([15],(nC [0,1,2,3,5,6,7] [] [] [(0,kC),(1,kC)] [] [] [(2,kC),(3,kC)] sD)),([16],(nC [0,1,2,3,5] [] [] [(0,kC),(1,kC)] [] [] [(2,kC),(3,kC)] sD)),([17],(iU [0,1,4,5,6,7,8] [] [] [(0,[1])] [(8,[4])] [] [(4,fQ)] [] [(fQ,true),([],true),([],true),([],true)] [] [10] [10])),([18],(nC [0,1,3,7,8] [] [] [(0,[1]),(1,fQ)] [(4,[0,3]),(7,[0,3])] [] [(3,fQ),(8,[5])] [3])),([19,55,58,60,62,65,68,71,72,73,76,79,80,127,145,147,152,154,162,171,242,251,285],(pZ1 iH)),([21],(jX [0,2,3,4,5,6] [] [] [] [(5,[6]),(8,[2])] [] [(6,kC)])),([22],(QC iH [] [] [(0,[7])])),([23],(nC iH [] [] [(0,VZ)] [] [] [(1,VZ)] [1])),([24],(oh [0,2,3,4,5] [22] [] [] [(4,[0]),(10,[2,3,4,5])] [] [(2,[5])] [] [([5],false),([],true),([],true),([],true)])),([25],(jX [0,1,5,7,8,10,12,39,40,41,63,64,65] [] [] [(0,[1]),(39,[1]),(63,[1])] [(7,iH),(11,Il),(12,Il),(14,aB7),(17,[0,1,5,7,39,40,41]),(18,aB7),(19,Il),(24,aB8),(27,aB8),(28,[8])] [(13,aB7),(23,aB8)] [(8,iH)])),([26],(iU [0,1,3,5,6,7,9,10,11,12,14,15,16,18,19,20,25,26,27,42,43,44,72,73,74,88,89,90,116,117,118,128,129,130,153,154,155,165,166,167] [31,50,61,67,78,100,122,135,148,159,172,189] [] [(0,kC),(3,[1]),(25,[5]),(42,[1]),(72,[9]),(88,[3]),(116,[2]),(128,[2]),(153,[3]),(165,[2])] [(5,a2L),(9,aB9),(12,aB9),(13,[1,3,5,25,26,27]),(15,a2L),(16,a2L),(17,[1,3]),(19,aBA),(21,aBA),(22,[1,3]),(24,aBB),(28,[1,3,11,12,88,89,90]),(29,aBB),(30,[1,3]),(32,a2M),(36,aBC),(38,aBC),(39,a2M),(40,a2M),(41,[1,3]),(43,aBD),(47,aBE),(49,aBE),(50,[3,18,153,154,155]),(51,aBD),(52,[3])] [(4,a2L),(8,aB9),(18,aBA),(23,aBB),(31,a2M),(35,aBC),(42,aBD),(46,aBE)] [(1,kC),(9,lD),(11,jq),(14,xW),(18,yX)] [1] [([1],false)] [] [] [84,87,140,177])),([27],(jX [0,5,6,7,8,9,10,12,23,24,25,67] [] [6] [(0,[5]),(23,[5])] [(5,[0]),(11,aBF),(15,[6,7,8,9,10,12,23,24,25]),(19,[6,7,8,10,12,23,24,25]),(28,aBF),(29,[6,10])] [(10,aBF)] [(6,iH)])),([28],(iU [0,1,3,4,5] [50] [] [(3,[5])] [(6,[1,3,4]),(10,[1,3,4,5]),(5,[1,3,4]),(11,[3])] [(4,[1,3,4])] [] [1] [([5],false)] [] [] [34,39,44])),([29],(iU [0,1,3,4,5,6,7,8,9,10,11,12,13,14,43,44,54,55,72,73,74,126,127] [48,65,138,157] [] [(1,VZ),(12,[1]),(72,[3])] [(7,aBG),(9,aBG),(10,[3,4,5,6,7]),(12,aBH),(15,aBH),(16,[3,4,5,6,7]),(18,aBI),(20,[3,4,5,6,7,10,11,72,73,74]),(24,[3,4,5,6,7,11,12,13,72,73,74]),(26,aBJ),(29,aBJ),(30,[3,4,5,6,7,13,72,73,74]),(31,aBI),(32,[4,5,7])] [(6,aBG),(11,aBH),(17,aBI),(25,aBJ)] [(3,VZ),(4,lD),(5,lD),(7,LY),(13,wM)] [3] [(lD,true)] [] [] [17,22,33,38,97,102,105,109,1000001,1000003])),([30],(QB [0,1,2,3,5,6,7,9,10,11,13,15,17,27,28,29,44,45,72,73,74,86,87,91,92,93,123,124,125,148,149,150] [] [] [(1,kC),(11,[3]),(27,[5]),(72,[9]),(86,[3,3]),(91,[3]),(123,[2]),(148,[3])] [(6,a2N),(10,aBK),(13,aBK),(14,[2,3,5,27,28,29]),(17,a2N),(18,a2N),(19,sD),(21,aBL),(23,aBL),(24,sD),(26,[2,3,86,87]),(29,aBM),(35,aBM),(36,[2,3,86,87]),(37,sD),(39,aBN),(44,aBN),(45,sD),(47,aBO),(54,aBO)] [(5,a2N),(9,aBK),(20,aBL),(25,[2,3,86,87]),(28,aBM),(38,aBN),(46,aBO)] [(0,[5]),(3,kC),(9,lD),(13,jq),(15,xW),(17,yX)] [3] [] [] [48,53,55,90,100,104])),([31],(QC [0,3,4,5,6] [] [] [(3,[5])])),([32],(jX iH [] [] [] [] [] [(0,CQ)])),([33],(jX [0] [] [] [] [(5,[0])] [] [(0,CQ)])),([34],(jX [0,5] [] [] [] [] [] [(0,jq)])),([35],(jX xW [] [] [] [(6,xW)] [] [(0,CQ)])),([36],(iU [0,1,2,3,4,5,6,7] [] [6000008] [] [] [] [(0,jq),(1,kC)] [] [] [] [56] [8,11,14,18,21,25,28,32,35,39,42,1000001,1000004])),([37],(iU [0,1,4] [] [] [] [(2,iH)] [] [(0,CQ)] [] [] [] [] [24,26,1000001])),([38],(jX [0] [] [] [] [(6,[0])] [] [(0,CQ)])),([39],(oh [0] [] [] [(0,[3])] [(4,[0])] [] [] [] [([3],true)])),([40],(oh LZ [14] [] [(0,[3]),(5,[1]),(8,[3])] [(5,qx),(7,qx),(8,[5])] [(4,qx)] [(7,jq)] [] [([1],false)])),([41,233],(nC iH [] [] [(0,jq)] [] [] [(1,jq)] [1])),([42],(oh LZ [14] [] [(0,[9]),(5,[1]),(8,[9])] [(5,qx),(7,qx),(8,[5])] [(4,qx)] [(7,lD)] [] [([1],false)])),([43,227],(nC iH [] [] [(0,lD)] [] [] [(1,lD)] [1])),([44],(oh LZ [14] [] [(0,[2]),(5,[1]),(8,[2])] [(5,qx),(7,qx),(8,[5])] [(4,qx)] [(7,xW)] [] [([1],false)])),([45,235],(nC iH [] [] [(0,xW)] [] [] [(1,xW)] [1])),([46],(oh LZ [14] [] [(0,[3]),(5,[1]),(8,[3])] [(5,qx),(7,qx),(8,[5])] [(4,qx)] [(7,yX)] [] [([1],false)])),([47,238],(nC iH [] [] [(0,yX)] [] [] [(1,yX)] [1])),([48],(QB [0,4,5,6,7,8] [] [] [(0,[1]),(6,[1])] [(4,[6,7,8]),(8,[6,7,8]),(9,[])] [(3,[6,7,8])] [] [] [] [] [2000013])),([49,52,54,109,110,123,157,159,163,164,166,168,175,177,304],(pZ1 [0])),([50],(pZ5 iH [] [] [] [(4,[])])),([51],(wL [0,3,4,5,7,8] [] [] [] [(4,[0,7,8]),(9,[0,7,8]),(10,[0])] [(3,[0,7,8])])),([53],(wL [0,3,5,10,11,12] [] [9] [(0,[5]),(10,[5])] [(4,[0]),(7,[3,10,11,12]),(16,[3,5,10,11,12]),(17,[3,10,11,12]),(18,[])] [(6,[3,10,11,12])])),([56],(wL a2O [] [] [(0,[9])] [(4,Aj),(8,Aj),(9,[])] [(3,Aj)])),([57,64,70,78],(nC EQ [] [] [] [] [] [] [3])),([59],(pZ5 [0,3] [] [] [(0,[1])] [(5,[0,3])])),([61],(bP8 [0,1,3] [] [] [(0,lD)] [] [] [(1,lD),(3,LY)] [1] [] [(3,[9000003])])),([63,77],(wL a2O [] [] [(0,[3])] [(4,Aj),(8,Aj),(9,[])] [(3,Aj)])),([66],(iU [0,1,3] [] [] [(3,[1])] [] [] [] [] [] [] [] [4,5,8,10,11,14])),([67],(QC [0] [] [] [(0,[1])])),([69],(wL a2O [] [] [(0,[2])] [(4,Aj),(8,Aj),(9,[])] [(3,Aj)])),([74],(QC iH [] [] [(0,[2])])),([75,170,214,224,283],(nC iH [] [] [] [] [] [] [1])),([81],(nC [0,1,4,10,11,12] [] [] [(0,yX),(10,[2])] [(4,[1]),(6,[1,10,11,12]),(9,[1,4,10,11,12]),(11,[1,10,11,12]),(12,[1])] [(5,[1,10,11,12])] [(1,yX)] [1])),([82],(nC EQ [] [] [(0,wM),(1,wM)] [] [] [(2,wM),(3,wM)] sD)),([83],(nC EQ [] [] [(0,fQ),(1,fQ)] [] [] [(2,fQ),(3,fQ)] sD)),([84],(jX Io [] [] [(0,[5]),(1,[5]),(15,[5])] [(4,ug),(6,oq),(10,oq),(11,[])] [(5,oq)] [(8,Fq),(9,Fq)])),([85,179],(nC EQ [] [] [(0,Fq),(1,Fq)] [] [] [(2,Fq),(3,Fq)] sD)),([86],(iU [0,1,2,3,4,6,7] [] [] [(0,lD),(1,lD)] [] [] [(3,lD),(4,lD),(6,LY),(7,LY)] [3,4] [] [] [] [9,11])),([87,88],(iU a2P [] [] [(0,[1]),(1,[1])] [(4,iH),(6,Ak),(9,Ak),(10,[])] [(5,Ak)] [] [] [] [] [] [19,23])),([89],(iU a2P [] [] [(0,[4]),(1,[4])] [(4,iH),(6,Ak),(9,Ak),(10,[])] [(5,Ak)] [] [] [] [] [] [19,23])),([90],(jX Io [] [] [(0,[8]),(1,[8]),(15,[8])] [(4,ug),(6,oq),(10,oq),(11,[])] [(5,oq)] [(8,wM),(9,wM)])),([91,101],(nC EQ [] [] [(0,jq),(1,jq)] [] [] [(2,jq),(3,jq)] sD)),([92],(iU a2P [] [] [(0,[5]),(1,[5])] [(4,iH),(6,Ak),(9,Ak),(10,[])] [(5,Ak)] [] [] [] [] [] [19,23])),([93],(jX Io [] [] [(0,[9]),(1,[9]),(15,[9])] [(4,ug),(6,oq),(10,oq),(11,[])] [(5,oq)] [(8,lD),(9,lD)])),([94],(jX Io [] [] [(0,[3]),(1,[3]),(15,[3])] [(4,ug),(6,oq),(10,oq),(11,[])] [(5,oq)] [(8,jq),(9,jq)])),([95],(jX Io [] [] [(0,[2]),(1,[2]),(15,[2])] [(4,ug),(6,oq),(10,oq),(11,[])] [(5,oq)] [(8,xW),(9,xW)])),([96,103],(nC EQ [] [] [(0,xW),(1,xW)] [] [] [(2,xW),(3,xW)] sD)),([97,100],(iU a2P [] [] [(0,[2]),(1,[2])] [(4,iH),(6,Ak),(9,Ak),(10,[])] [(5,Ak)] [] [] [] [] [] [19,23])),([98],(jX Io [] [] [(0,[3]),(1,[3]),(15,[3])] [(4,ug),(6,oq),(10,oq),(11,[])] [(5,oq)] [(8,yX),(9,yX)])),([99,104],(nC EQ [] [] [(0,yX),(1,yX)] [] [] [(2,yX),(3,yX)] sD)),([102],(iU [0,1,2,3,5,6,7,8] [] [] [(0,lD),(1,lD)] [] [] [(2,lD),(3,lD),(5,LY),(6,LY)] sD [] [] [] [10,12])),([105],(oh [0] [] [] [(0,[1])] [(4,[0])] [] [] [] [([1],true)])),([106],(iU [0,2,3,4] [] [] [] [(5,La)] [] [(0,jq),(2,fQ),(3,fQ),(4,fQ)] [] [(fQ,true)] [] [24] [21,22,1000003,1000004])),([107],(jX [0] [] [] [] [] [] [(0,CQ)])),([108,156,210,250],(QC iH [] [] [(0,[1])])),([111],(nC [0,1,2,4,6,7] [] [] [(0,fQ)] [(4,[1,2]),(8,[2]),(11,[4])] [] [(2,fQ)] [2])),([112],⟨[0,1,2,3,4,5,6,8,9,10],[],[],[(1,[1]),(2,fQ)],[(6,[4,5,6,8]),(11,[4,5,6,8,9,10])],[],[(0,[5]),(5,[1]),(6,fQ)],[5,6],[],[],[25,70],[38,45,64,66,68],true⟩),([113],(wL [0,4,6,7,8,11,14,15,16] [20] [] [(0,[5]),(4,[1]),(8,[5]),(14,[5])] [(6,aBP),(8,aBP),(9,[0,4]),(13,[7])] [(5,aBP)])),([118],(wL Va [] [] [(0,[7])] [(4,xY),(7,xY),(8,[])] [(3,xY)])),([121],(jX iH [12] [] [] [] [] [(0,iH)])),([122,207],(jX [0] [] [] [] [] [] [(0,iH)])),([124],(iU [0,1,3,4,5,6,8,10,11,12,23,24,25,56,57,58,95,96,97,136,137,138] [30,39,47,50,62,67,76,83,101,127,143,156,163,167] [] [(0,lD),(3,[1]),(6,[1]),(23,[1]),(56,[4]),(95,[8]),(136,[5])] [(5,a2Q),(9,[1,3,4,23,24,25]),(11,a2Q),(12,a2Q),(13,[1,3]),(16,aBQ),(21,aBQ),(22,[1,3,6]),(24,a2R),(28,[1,3,6,10,95,96,97]),(30,aBR),(33,aBR),(34,a2R),(35,a2R),(36,[3])] [(4,a2Q),(15,aBQ),(23,a2R),(29,aBR)] [(1,lD),(10,wM),(12,Fq)] [1] [([1],false)] [] [] [14,17,103,107,109,113,115,119,148,153])),([125],(oh [0,3,4,5,6,7,8] [15,18] [] [(0,[1]),(3,[1]),(6,[1])] [(5,[3,6,7,8]),(8,[3,5,6,7,8]),(9,[3,6,7,8]),(10,[3])] [(4,[3,6,7,8])] [] [] [([1],false)])),([126],(oh [0] [] [] [] [(4,[0])] [] [] [] [([1],true)])),([128],(jX iH [11] [] [] [] [] [(0,iH)])),([129],(QB [0] [] [4] [(0,[5])] [] [] [] [] [([5],false)] [(0,[1000002])] [5])),([130],(jX [0,1,5,6,7,8,9,10,11,42] [] [] [] [(7,iH),(9,iH),(12,[0,6]),(15,[0,7]),(31,[0,7]),(36,[0,7,8]),(40,[7,8,9]),(42,[9])] [(39,[7,8,9])] [(9,iH)])),([131],(oh [0,1,5,6,7,8] [11] [] [(5,[1])] [(5,[0,5,7,8]),(7,[0,5,7,8]),(8,[5])] [(4,[0,5,7,8])] [] [] [([1],false)])),([132],(iU [0,3,4,5,6] [32] [] [(0,[2]),(3,[4])] [(6,[0,3,4]),(5,[0,3,4]),(9,[3])] [(4,[0,3,4])] [] [] [([4],false)] [] [] [48])),([133,187],(oh [0] [] [] [] [] [] [(0,fQ)] [] [(fQ,true)])),([134],(oh QF [] [] [(0,[1])] [] [] [(6,fQ)] [] [(fQ,true)])),([135,136],(jX [0,1,5,6,7,8] [16] [] [(1,[1]),(6,[1])] [(3,[0,6,7,8]),(5,[0,6,7,8])] [(2,[0,6,7,8])] [(0,[5])])),([137],(jX iH [15] [] [] [(4,iH)] [] [(0,[5])])),([138],(iU [0,1,2,3,4,5,6,7,9,11,30,31,32,60,61,62,97,98,99] [] [] [(1,lD),(30,[1]),(60,[4]),(97,[8])] [(9,a2S),(13,[2,3,4,5,6,30,31,32]),(15,a2S),(16,a2S),(17,[2,3,4,5]),(19,aBS),(28,aBS),(29,[2,3,4,5]),(31,aBT),(36,[2,3,5,11,97,98,99]),(38,[2,3,5,11,97,98,99]),(40,aBT),(41,[2])] [(8,a2S),(18,aBS),(30,aBT)] [(0,[5]),(3,lD),(4,LY),(5,[1]),(11,wM)] [3] [] [] [123] [105,109,111,115,117,121])),([139],(nC EQ [] [] [(1,[1])] [] [] [(0,[5]),(3,[1])] [3])),([140],(jX [0,1,2,3,8,9,10] [] [] [] [(3,[0,2,3,9,10]),(6,[0,2,3,8,9,10]),(7,[0,2,3,9,10])] [(2,[0,2,3,9,10])] [(0,[5])])),([141],(iU ug [] [] [] [] [] [] [] [] [] [18] [10,16])),([142],(iU ug [] [] [] [] [] [] [] [] [] [11,23] [10,21])),([143],(jX Il [] [] [] [(5,[5])] [] [(0,CQ)])),([144],(jX La [] [] [] [(5,sD)] [] [(0,CQ)])),([146],(iU [0,1,4,5] [49] [] [(5,[1])] [(6,[0,1,4])] [] [(0,jq),(1,kC)] [] [] [] [] [19,22,25])),([148],(iU [0,1,2,4,5] [81] [] [] [(8,[1,2,4,5]),(14,[1,2,4])] [(6,[1,2,4,5])] [(0,jq),(1,kC),(4,lD)] [] [] [] [12] [4,6,10,1000001,1000003])),([149,151],(QB iH [] [] [] [] [] [] [] [] [] [7])),([150],(iU [0,1,2,3,6] [43] [] [] [] [] [(0,jq),(1,kC),(2,[3]),(6,jq)] [] [] [] [19] [6,7,11,16,1000001,1000003])),([153],(iU [0,1,2,4] [33] [] [] [] [] [(0,jq),(1,kC),(4,xW)] [] [] [] [11] [4,5,9,1000001,1000003])),([155],(jX [0,1,4,5,6] [45,67] [] [] [(6,[0,1,4]),(5,[0,1,4]),(10,[0,1,4])] [(4,[0,1,4,5])] [(0,jq),(1,kC),(4,yX)])),([158],(wL [0,3,4,5,6,7] [] [] [(0,[1]),(5,[1])] [(4,[0,5,6,7]),(7,[0,3,4,5,6,7]),(9,[0,5,6,7]),(10,[])] [(3,[0,5,6,7])])),([160],(iU iH [] [] [] [] [] [] [] [] [] [] [4,6])),([161],(oh [0,3,4,5,6] [9] [] [(3,[1])] [(5,[3,5,6]),(7,[3,5,6]),(8,[3])] [(4,[3,5,6])] [] [] [([1],false)])),([165],(wL [0,1,5,6,7,8,9] [] [] [(0,[1]),(7,[1])] [(4,[0,1,7,8,9]),(7,[0,1,5,6,7,8,9]),(9,[0,1,7,8,9]),(10,[])] [(3,[0,1,7,8,9])])),([167],(wL [0,3,4,8,9,10] [] [] [(0,[4]),(8,[4])] [(4,[0]),(6,[0,8,9,10]),(17,[0,8,9,10]),(18,[])] [(5,[0,8,9,10])])),([169],(QC iH [] [] [(0,[4])])),([172],(wL a2O [] [] [(0,[8])] [(4,Aj),(8,Aj),(9,[])] [(3,Aj)])),([173],(iU ug [] [] [] [] [] [] [] [] [] [] [5,7,10])),([174],(iU [0,1,2,3,5,6,7,8,9,59,60,61] [] [] [(0,lD),(1,wM),(59,[5])] [(5,[3,5]),(8,[3,5]),(10,aBU),(13,[3,5,7,8,59,60,61]),(15,[3,5,8,59,60,61]),(18,aBU),(19,[])] [(9,aBU)] [(2,lD),(3,wM),(8,Fq)] sD [] [] [] [81,86])),([176],(wL Va [] [] [(0,[2])] [(4,xY),(7,xY),(8,[])] [(3,xY)])),([178],(jX Io [] [] [(0,[4]),(1,[4]),(15,[4])] [(4,ug),(6,oq),(10,oq),(11,[])] [(5,oq)] [(8,fQ),(9,fQ)])),([180],(nC [0,1,2,3,4] [] [] [(0,wM),(1,wM)] [] [] [(3,wM),(4,wM)] [3,4])),([181],(iU [0,1,4,5,6,7,8,9] [] [38] [(9,[4])] [(4,[0,1,4]),(8,[0,1,4,5,6,7]),(12,[0,1,4,5,6,9])] [(5,[0,1,4,5])] [(0,jq),(4,fQ),(5,fQ)] [] [(fQ,true)] [(12,[1000009])] [37,41] [33,1000003])),([182,240,273,292],(wL Va [] [] [(0,[1])] [(4,xY),(7,xY),(8,[])] [(3,xY)])),([183],(nC [0,1,2,3,4,9,10,12,13,87,88,89] [] [] [(0,fQ),(87,[4])] [(4,[1,2,3,4]),(14,[1,2,3,4]),(16,aBV),(20,aBV),(21,[])] [(15,aBV)] [(4,fQ),(12,fQ)] [4])),([184],(iU [0,1,3,5,6,7,9,10,11,26] [19] [] [(0,fQ),(9,[4])] [(5,[1,3,9,10,11]),(9,[1,3,6,9,10,11]),(10,[1,3,9,10,11]),(11,[1,3]),(36,[])] [(4,[1,3,9,10,11])] [(1,fQ),(3,[1]),(5,fQ)] [1] [] [] [] [54,59,62])),([185],(iU iH [] [] [(0,fQ)] [(6,[1])] [] [(1,fQ)] [1] [] [] [24] [4,8])),([186],(iU [0,1,2,3,4] [] [] [] [] [] [] [] [] [] [15] [8,10,13])),([188],(wL Io [] [] [(0,[5]),(1,[5]),(15,[5])] [(4,ug),(6,oq),(10,oq),(11,[])] [(5,oq)])),([189],(nC EQ [] [] [] [] [] [] sD)),([193],(jX Il [] [] [] [] [] [(0,CQ)])),([211],(iU [0,1,2,4,7,8,9,32] [95,105] [] [(0,[1]),(1,fQ),(9,[1])] [(4,[0,4]),(6,[0,4]),(8,[0,4]),(20,[0,4]),(30,[0,4,7])] [] [(4,fQ),(8,fQ)] [4] [([1],true)] [] [] [21,25,120,122,125,131,133,138,140,144,150,152])),([212],(iU [0,1,5,6,7] [] [] [(0,[5])] [(5,Il),(8,[0,1,5,6]),(7,[0,1,5,6]),(12,[0,5])] [(6,[0,1,5,6])] [] [] [([5],false)] [] [24,33] [10])),([213],(oh [0] [] [] [(0,[5])] [(4,[0])] [] [] [] [([5],true)])),([218],(oh [0,1,2,6,7,56] [] [] [] [(8,[6,7]),(9,QF),(14,QF),(15,QF),(17,QF),(23,QF)] [] [(0,[1,0,0]),(6,fQ)] [] [(fQ,true)])),([219],(oh [0] [] [] [(0,[4])] [] [] [] [] [([1],true)])),([220],(iU EQ [] [] [] [] [] [] [] [] [] [16,28] [12,14,27])),([221],(iU ug [] [] [] [] [] [] [] [] [] [10] [5,8])),([222],(jX Il [] [] [(1,[1])] [(5,[0])] [] [(0,jq)])),([223],(oh LZ [14] [] [(0,[5]),(5,[1]),(8,[5])] [(5,qx),(7,qx),(8,[5])] [(4,qx)] [] [] [([1],false)])),([225],(oh ug [] [] [(1,[1])] [] [] [(0,jq)] [] [([1],false)])),([226],(jX [0,1,2,7,8,9,10] [] [] [] [(7,[0,1,2,7]),(11,[0,1,2,7,9]),(15,[0,10])] [] [(0,CQ)])),([228],(jX iH [] [] [] [(4,[0])] [] [(0,jq)])),([229],(iU iH [3] [] [] [] [] [] [] [] [] [7] [4,6,1000000,1000001])),([230],(iU [0,1,2,6] [11,65] [] [] [(5,[0,1,2,6]),(7,[0,1,6]),(9,[0])] [] [(0,jq),(1,lD)] [] [] [] [17] [16,1000001])),([231],(jX [0,1,4,5] [67] [] [] [(4,iH)] [] [(0,jq),(1,lD)])),([232],(iU [0,1,2,4] [66] [] [] [(7,[1,2,4]),(9,[1,2,4])] [] [(0,jq),(1,lD),(4,wM)] [] [] [] [12,18,24] [7,11,13,17,19,23,1000001,1000003])),([234],(iU iH [3] [] [] [] [] [] [] [] [] [8] [4,7,1000001,1000002])),([236],(jX iH [] [] [] [(2,iH),(4,iH)] [(3,iH)] [(0,CQ)])),([237],(pZ2 ug [16])),([239],(jX [0] [] [] [] [] [] [(0,jq)])),([241,249],(nC ug [] [] [] [] [] [] [2])),([243],(wL Va [] [] [(0,[4])] [(4,xY),(7,xY),(8,[])] [(3,xY)])),([244],(nC [0,1,2,3,7,8] [] [] [(0,fQ)] [(5,[2,7])] [] [(3,fQ)] [3])),([245],(QB ug [] [] [] [(14,[1,2])] [] [(0,jq),(2,fQ)] [] [(fQ,true)] [] [72])),([246],(jX [0,1,7,8,9,10] [] [] [] [(5,[1,7])] [] [(0,jq)])),([247],(QB La [] [] [(0,[4])] [(4,La),(3,La)] [(2,La)] [] [] [] [] [20,24,26,27])),([248],(pZ5 [0,4] [] [] [] [(21,[])])),([274],(iU [0,1,12] [] [] [(0,fQ)] [(4,[1]),(27,[])] [] [(1,fQ)] [1] [] [] [] [3,7])),([275],(pZ5 [0,3] [] [] [] [(19,[])])),([276],(wL Va [] [] [(0,[5])] [(4,xY),(7,xY),(8,[])] [(3,xY)])),([280],(jX [0,3] [] [] [] [(4,[0])] [] [(0,[1,0,0])])),([281],(oh La [] [] [] [(5,sD)] [] [(2,fQ)] [] [(fQ,true)])),([282],(oh LZ [14,21] [] [(0,[4]),(5,[1]),(8,[4])] [(5,qx),(7,qx),(8,[5])] [(4,qx)] [] [] [([1],true)])),([284],(oh LZ [14] [] [(0,[1]),(5,[1]),(8,[1])] [(5,qx),(7,qx),(8,[5])] [(4,qx)] [] [] [([1],false)])),([286],(jX Il [] [] [(1,[1])] [(5,[0,5])] [] [(0,jq)])),([287],(iU ug [19] [] [] [] [] [(2,Fq)] [] [] [] [8] [2,3,4,1000000])),([288],⟨[0,1,2,4],[],[],[],[(5,[1,2,4])],[],[(0,jq),(4,fQ)],[],[(fQ,true)],[],[],[],true⟩),([289],(oh iH [] [] [] [] [] [(1,fQ)] [] [(fQ,true)])),([290],(oh iH [] [] [] [(4,iH)] [] [(1,fQ)] [] [(fQ,true)])),([291],(oh ug [] [] [] [] [] [(1,fQ),(2,fQ)] [] [(fQ,true)]))]
noncomputable def SS:SE:=⟨Tryz.prog,aAY,VVt vvT,WWt wwT,CS⟩
theorem dQ:SS.OK:=⟨aXB _,aXG _⟩
abbrev cG (r:RS) (g:FuncId) (a:bZZ) (K:RS.F r R):R:=jO SS.CC g a fun p=>QK r p K
abbrev cH (r:RS) (o:List OS) (g:FuncId) (a:bZZ) (h:aG) (K:RS.F r (dm o)):R:=AO SS.CC g a h fun p h=>hv r o p h K
theorem cc {g:FuncId} {a:bZZ} {h:aG} {v:R} (h0:SS.C0 g a h=none:=by rfl) (e:SS.run SS.CC SS.LL g a h=v:=by kernel_rfl):SS.CC g a h=v:=CCk dQ h0 e
theorem ll {E:AE} {m0:Nat} {l:List Nat} {m:Nat} {x:Code} {K:KT} {Z:ASt} {v:R} (hm:m0<=m:=by decide) (hg:Du l m Z=true:=by kernel_rfl) (hP:SS.wp E=E:=by kernel_rfl) (e:chk (Ff l m Z) (bH (SS.xe SS.CC SS.LL E m0) x (wU (fun Z'=>SS.LL E m0 l m x K (Z'.gc l m)) K) (Z.gc l m))=v:=by kernel_rfl):SS.LL E m0 l m x K Z=v:=LLk dQ hm hg hP e
abbrev G0:=cG (.t [(false,[.S]),(false,[.I .i64])])
abbrev G1:=cG (.ti .i64)
abbrev G2:=cG (.ts)
abbrev G3:=cG (.tb)
abbrev G4:=cG (.tl false 1)
abbrev G6:=cG (.t [(false,[.I .i64]),(false,[.I .i64])])
abbrev G7:=cG (.tl true 1)
abbrev G8:=cG (.g S0)
abbrev G9:=cG (.t [(true,S0),(false,[.I .i64]),(false,[.I .i64]),(false,[.I .i64])])
abbrev RP:=cG (.tl true 3)
abbrev ah:=cH (.t []) [.c gu]
abbrev XQ:=cG (.t [(false,[.L false 5]),(false,[.I .i64]),(false,[.I .i64]),(false,[.I .i64])])
abbrev H14:=cH (.z (.pt 0 0)) [.c aH]
abbrev eX:=cH (.t []) [.c aH]
abbrev H17:=cH (.t [(false,[.I .i64]),(false,[.I .i64]),(false,[.I .i64])]) [.c aH]
abbrev H19:=cH (.ti .i64) [.c Nr]
abbrev qM:=cG (.g S1)
abbrev G21:=cG (.g S5)
abbrev NR:=cG (.tl false 5)
abbrev RX:=cH (.tb) [.c eH,.c aH]
abbrev jv:=cH (.g lm) [.c aH]
abbrev Gs:=cH (.t []) [.c bn,.c iP,.c aH]
abbrev BI:=cH (.ts) [.c aH]
abbrev H27:=cH (.tb) [.z Xh]
abbrev H28:=cH (.t []) [.c gu,.z ku,.c jZ]
abbrev H29:=cH (.t []) [.c gu,.z ku,.c iy]
abbrev NW:=cH (.t []) [.c BO,.c Ns]
abbrev H31:=cH (.ts) [.c Rq]
abbrev H32:=cH (.t [(false,[.I .i64]),(false,[.ni])]) [.c uo]
abbrev H33:=cH (.z (.ni)) [.c uo]
abbrev jY:=cH (.tb) [.c aH]
abbrev G37:=cG (.t [(false,[.I .i64]),(false,[.B])])
abbrev zA:=cH (.tb) [.c vk]
abbrev eY:=cH (.t []) [.z lq,.c gu]
abbrev JW:=cG (.tl false 4)
abbrev JY:=cH (.t []) [.z lu,.z ja,.c AC,.c iP,.c aH]
abbrev H44:=cH (.tb) [.c S7]
abbrev H45:=cH (.t []) [.c gu,.z ku,.c vk,.c S9]
abbrev H46:=cH (.t []) [.c gu,.z ku]
abbrev H47:=cH (.t []) [.z lu,.c jZ,.c gu]
abbrev H48:=cH (.t []) [.z lu,.c iy,.c gu]
abbrev G49:=cG (.tl true 5)
abbrev H50:=cH (.o (.H 0 0 5)) [.a]
abbrev H51:=cH (.t []) [.c uo]
abbrev H53:=cH (.t []) [.a]
abbrev qN:=cH (.g S1) [.c zD]
abbrev H62:=cH (.tb) [.z Xi]
abbrev H63:=cH (.ti .i64) [.c S7]
abbrev H64:=cH (.t []) [.z ja,.c vk,.c S9,.c gu]
abbrev NZ:=cH (.ti .i64) [.c aH]
abbrev H79:=cH (.ti .i64) [.c zD]
abbrev H80:=cH (.t []) [.c gY,.c gW,.c BO,.c aH]
abbrev H81:=cH (.t []) [.c bn,.c gW,.c aH]
abbrev D9:=cH (.ts) [.c eH,.c aH]
abbrev H83:=cH (.t []) [.c gY,.c gW,.z ku,.c aH]
abbrev H84:=cH (.t []) [.c gY,.c mZ,.z ku,.c aH]
abbrev BK:=cH (.ti .i64) [.c eH,.c aH]
abbrev H86:=cH (.t []) [.c aH,.z ja,.c sU,.c jh]
abbrev H87:=cH (.tl false 1) [.c eH,.c aH]
abbrev H97:=cH (.t []) [.c aH,.c gW,.z ja,.c jh]
abbrev H98:=cH (.t []) [.c aH,.z ja,.c rM,.c jh]
abbrev zB:=cH (.g S1) [.c eH,.c aH]
abbrev aEH:=cH (.t []) [.c aH,.c mZ,.z ja,.c jh]
abbrev a4N:=cH (.t []) [.z lu,.c sU,.c gY,.c aH]
abbrev aEJ:=cH (.tl false 1) [.z lq,.c bn,.c aH]
abbrev a4O:=cH (.t []) [.c gW,.z lu,.c gY,.c aH]
abbrev a4P:=cH (.t []) [.z lu,.c rM,.c gY,.c aH]
abbrev a4Q:=cH (.t []) [.c mZ,.z lu,.c gY,.c aH]
abbrev RQ:=cH (.tb) [.z lq,.c bn,.c aH]
abbrev aEN:=cH (.t [(false,[.I .i64]),(false,[.B]),(false,[.B])]) [.c eH,.c aH]
abbrev NV:=cH (.g S1) [.c bn,.z ku,.c aH]
abbrev RU:=cH (.g S1) [.z lq,.c bn,.c aH]
abbrev RV:=cH (.t []) [.z lq,.c bn,.c aH]
end
end Go.Proofs.YtilpiopkekkbiaaGreatDoor.W
end

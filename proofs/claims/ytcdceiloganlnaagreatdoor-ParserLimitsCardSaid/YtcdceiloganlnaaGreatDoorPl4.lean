/- A part of the proof. -/
import Derived.Test.YtcdceiloganlnaaGreatDoorPl3
import Derived.Shelf.Lay
import Derived.Shelf.Strings.Builder1
import Derived.Shelf.Strings.OnBuilder
import Derived.Shelf.Strconv.Itoa3
import Derived.Test.YtcdceiloganlnaaGreatDoorChecked
import Derived.Shelf.LaysM
import Derived.Shelf.Strings.Split
import Derived.Shelf.Strings.Search1
import Derived.Shelf.Strings.Shaped
import Derived.Shelf.Strings.Repeat
set_option linter.unusedVariables false
set_option linter.unusedSimpArgs false
set_option linter.unnecessarySimpa false
set_option linter.unusedSectionVars false
noncomputable section
open Go.IntKind (i64)
namespace Go.Proofs
open Go.Shelf
shelf_lay Lays.n171 Nm 171 at Tryz as Tryz.lays171
shelf_lay Lays.n156 Nm 156 at Tryz as Tryz.lays156
shelf_lay Lays.n169 Nm 169 at Tryz as Tryz.lays169
end Go.Proofs
namespace Go.Proofs.YtcdceiloganlnaaGreatDoor
open Go.RowKit Go.Shelf
theorem WS:Builder.Extra Tryz.prog Tryz.lays156_ren where
 sizeBuilder:=by kernel_rfl
 liesBuilder:=by kernel_rfl
 t5:=Tryz.underlying5
 a5:=Tryz.isAgg5
 z5:=Tryz.sizeOf5
 v5:=Tryz.zeroValue5
 infoByte:=by kernel_rfl
 cellsByte:=by kernel_rfl
 sizeByte:=by kernel_rfl
 neB5:=by decide
theorem JI:Builder.Extra Tryz.prog Tryz.lays169_ren where
 sizeBuilder:=by kernel_rfl
 liesBuilder:=by kernel_rfl
 t5:=Tryz.underlying5
 a5:=Tryz.isAgg5
 z5:=Tryz.sizeOf5
 v5:=Tryz.zeroValue5
 infoByte:=by kernel_rfl
 cellsByte:=by kernel_rfl
 sizeByte:=by kernel_rfl
 neB5:=by decide
theorem lays240:Lays.n240 Tryz.prog Tryz.lays156_ren := { Tryz.lays156 with }
theorem bDL (i:Nat) (hi:i<100) (w:World):Calls Tryz.prog 35 #[.int .i64 i] w fun e w'=>e = .returned (.string ⟨(Lib.decDigits i).toArray⟩)/\w'=w:=Any.strconv_Itoa_small Tryz.lays171 i hi w
theorem bDQ (bk o c:Nat) (xs:List ByteArray) (sep:ByteArray) (w:World) (hcells:∀ (j:Nat) x,xs[j]? = some x->w.cell? ⟨bk,o+j,none⟩=some (.string x)) (hbk:bk<w.heap.size) (hN:xs.length<=140737488355328) (hcap:xs.length<=c)
 (hlen:(Lib.join (xs.map (·.data.toList)) sep.data.toList).length<=140737488355328) :
 Calls Tryz.prog 15 #[.slice (some ⟨bk,o,none⟩) xs.length c,.string sep] w fun e w'=>e = .returned (.string ⟨(Lib.join (xs.map (·.data.toList)) sep.data.toList).toArray⟩)/\Below w.heap.size w w' :=
 Any.strings_Join Tryz.lays156 WS bk o c xs sep w hcells hbk hN hcap hlen
theorem bDP (a:Option Addr) (c:Nat) (sep:ByteArray) (w:World):Calls Tryz.prog 15 #[.slice a 0 c,.string sep] w fun e w'=>e = .returned (.string ⟨#[]⟩)/\w'=w :=Any.strings_Join_none Tryz.lays156 WS a c sep w
theorem aUD (b:Nat) (w:World) (h0:w.cell? ⟨b,0,none⟩=some (.pointer (some ⟨b,0,none⟩))):Calls Tryz.prog 162 #[.pointer (some ⟨b,0,none⟩)] w fun e w'=>e = .returned (.tuple #[])/\w'=w :=Any.Builder_copyCheck_used lays240 WS.toX72 b w h0
section
variable {P:Program} {ρ:Ren}
set_option maxHeartbeats 1000000 in
set_option maxRecDepth 100000 in
theorem aUC (L:Lays.n240 P ρ) (X:Builder.X72 P ρ) (T:TypeId) (b:Nat) (w:World) (h0:w.cell? ⟨b,0,none⟩=some (.pointer none)) (hsh:w.shape? b=some (T,2)) (hfz:w.frozen? ⟨b,0,none⟩=false)
 (hlies:liesAt P P.depth T (2 / P.cellsOf T) 0 (ρ.t 72) 1=true) :
 Calls P (ρ.f 240) #[.pointer (some ⟨b,0,none⟩)] w fun e w'=>e = .returned (.tuple #[])/\w'=w.setCell ⟨b,0,none⟩ (.pointer (some ⟨b,0,none⟩)):=by
 obtain ⟨j,hj,hjs⟩:=J3.1 X.sizeBuilder;have mixed:=L.mixed;have t72:=L.t72; have a72:=L.a72; have z72:=L.z72; have v72:=L.v72; have u72:=ed L.t72;have t70:=L.t70; have a70:=L.a70; have z70:=L.z70; have v70:=L.v70; have u70:=ed L.t70;have t9:=L.t9; have a9:=L.a9; have z9:=L.z9; have v9:=L.v9; have u9:=ed L.t9;have t4:=L.t4; have a4:=L.a4; have z4:=L.z4; have v4:=L.v4; have u4:=ed L.t4;have t164:=L.t164; have a164:=L.a164; have z164:=L.z164; have v164:=L.v164; have u164:=ed L.t164;go_enter L.f240,Body.n240_ntmps ρ
 go_wp2
 rw[Lib.run_to_unsafe w ⟨b,0,none⟩ L.t70 L.t164 hj (by rw[hjs]; decide) hsh (Nat.zero_lt_succ 1)];simp only[Result.andThen];rw[a0F];go_wp2
 rw[run_callFunc_extern L.f276 (by kernel_rfl) (by kernel_rfl) (by kernel_rfl) (e:=Extern.AbiNoEscape.same) (by kernel_rfl)];rw[Lib.run_noEscape];simp only[Result.andThen];rw[a0F];go_wp2
 rw[Lib.run_from_unsafe w ⟨b,0,none⟩ L.t164 L.t70 hj hsh hlies];simp only[Result.andThen];rw[a0F];go_wp2
 go_end0
 exact ⟨rfl,rfl⟩
end
theorem aUB (b:Nat) (w:World) (h0:w.cell? ⟨b,0,none⟩=some (.pointer none)) (hsh:w.shape? b=some (119,2)) (hfz:w.frozen? ⟨b,0,none⟩=false) :
 Calls Tryz.prog 162 #[.pointer (some ⟨b,0,none⟩)] w fun e w'=>e = .returned (.tuple #[])/\w'=w.setCell ⟨b,0,none⟩ (.pointer (some ⟨b,0,none⟩)) :=
 aUC lays240 WS.toX72 119 b w h0 hsh hfz (by kernel_rfl)
end Go.Proofs.YtcdceiloganlnaaGreatDoor
namespace Go.Proofs
open Go.Shelf Go.RowKit Go.Sort Go.Lib
shelf_lay LaysM.n171 Nm 171 at Tryz as Tryz.laysM171
namespace YtcdceiloganlnaaGreatDoor
section
variable {P:Program} {ρ:Ren}
theorem below_grown (w:World) (k:Nat) (os:Array Obj):Below w.heap.size w (grow (w.drewN k) os) :=⟨rfl,rfl,rfl,by show w.heap.size<=(w.heap ++ os).size; simp,fun i hi=>by show (w.heap ++ os)[i]? = _; rw[Lc hi]⟩
def Gm (P:Program) (ρ:Ren) (w:World):Prop:=∀ i,i<20->w.cell? ⟨ρ.g 17,i,none⟩=some (.int .u64 ((10 ^ i:Nat):Int))
theorem Gm.alloc {w:World} (h:Gm P ρ w) (o:Obj):Gm P ρ (w.alloc o):=fun i hi=>by have hb:=yB _ _ (h i hi);rw[aBC _ _ _ (Nat.ne_of_lt hb)]; exact h i hi
set_option maxHeartbeats 2000000 in
set_option maxRecDepth 100000 in
theorem aU' (L:LaysM.n284 P ρ) (u:Nat) (h1:1<=u) (h2:u<18446744073709551616) (w:World) (htab:Gm P ρ w) :
 Calls P (ρ.f 284) #[.int .u64 u] w fun e w'=>e = .returned (.int .i64 (Lib.nDigits u))/\w'=w:=by
 have mixed:=L.mixed;have t53:=L.t53; have a53:=L.a53; have z53:=L.z53; have v53:=L.v53;have t3:=L.t3; have a3:=L.a3; have z3:=L.z3; have v3:=L.v3;have t212:=L.t212; have a212:=L.a212; have z212:=L.z212; have v212:=L.v212;have t0:=L.t0; have a0:=L.a0; have z0:=L.z0; have v0:=L.v0;have t4:=L.t4; have a4:=L.a4; have z4:=L.z4; have v4:=L.v4;have e129:∀ args w,(callFunc (ρ.f 129) args).run P w = .ok (.enter (ρ.f 129) args) w:=enters_of L.f129 (by kernel_rfl) rfl;have e317:∀ args w,(callFunc (ρ.f 317) args).run P w = .ok (.enter (ρ.f 317) args) w:=enters_of L.f317 (by kernel_rfl) rfl;have e318:∀ args w,(callFunc (ρ.f 318) args).run P w = .ok (.enter (ρ.f 318) args) w:=enters_of L.f318 (by kernel_rfl) rfl;obtain ⟨hnd,h19⟩:=Lib.numDigits_eq u h1 h2;have hL:Lib.bitLen u<=64:=Lib.bitLen_le u 64 (bW _) h2;have hcell:=htab (Lib.l10 (Lib.bitLen u)) (by omega);have hto:((u:Int)).toNat=u:=by omega
 generalize hq:Lib.l10 (Lib.bitLen u)=q at hnd h19 hcell;generalize hT:10 ^ q=T at hnd hcell;have h20:q<20:=by omega
 have Hnd:=Lib.hid hnd;clear hnd htab;go_enter L.f284,Body.n284_ntmps ρ
 go_wp2_with (first
  | (go_at_fn (ρ.f 129); refine (Any.bits_Len64 { L with } _ _ (by omega) (by omega)).mono ?_; rintro e w' ⟨rfl,rfl⟩)
  | (go_at_fn (ρ.f 317); refine (Any.internal_strconv_log10Pow2 { L with } _ (by first | exact hL | (rw[hto]; exact hL)) _).mono ?_; rintro e w' ⟨rfl,rfl⟩)
  | (go_at_fn (ρ.f 318); refine (Any.internal_strconv_bool2_int { L with } _ _).mono ?_; rintro e w' ⟨rfl,rfl⟩))
 all_goals go_ret
 all_goals (
  refine ⟨?_,rfl⟩;have hnd:=Hnd.out;congr 2
  split at hnd<;>simp_all<;>omega)
set_option maxHeartbeats 6400000 in
set_option maxRecDepth 100000 in
theorem aWB (L:LaysM.n246 P ρ) (u:Nat) (hu1:100<=u) (hu:u<9223372036854775808) (w:World) (htab:Gm P ρ w) :
 Calls P (ρ.f 246) #[.int .i64 u,.int .i64 10] w fun e w'=>e = .returned (.string ⟨(Lib.decDigits u).toArray⟩)/\Below w.heap.size w w':=by
 have mixed:=L.mixed;have t2:=L.t2; have a2:=L.a2; have z2:=L.z2; have v2:=L.v2;have t3:=L.t3; have a3:=L.a3; have z3:=L.z3; have v3:=L.v3;have t9:=L.t9; have a9:=L.a9; have z9:=L.z9; have v9:=L.v9;have t4:=L.t4; have a4:=L.a4; have z4:=L.z4; have v4:=L.v4;have t171:=L.t171; have a171:=L.a171; have z171:=L.z171; have v171:=L.v171;have t0:=L.t0; have a0:=L.a0; have z0:=L.z0; have v0:=L.v0;have t53:=L.t53; have a53:=L.a53; have z53:=L.z53; have v53:=L.v53;have t37:=L.t37; have a37:=L.a37; have z37:=L.z37; have v37:=L.v37;have t5:=L.t5; have a5:=L.a5; have z5:=L.z5; have v5:=L.v5;have t173:=L.t173; have a173:=L.a173; have z173:=L.z173; have v173:=L.v173;have e283:∀ args w,(callFunc (ρ.f 283) args).run P w = .ok (.enter (ρ.f 283) args) w:=enters_of L.f283 (by kernel_rfl) rfl;have e284:∀ args w,(callFunc (ρ.f 284) args).run P w = .ok (.enter (ρ.f 284) args) w:=enters_of L.f284 (by kernel_rfl) rfl;have e285:∀ args w,(callFunc (ρ.f 285) args).run P w = .ok (.enter (ρ.f 285) args) w:=enters_of L.f285 (by kernel_rfl) rfl;have hu64:u<18446744073709551616:=by omega
 have hnd20:Lib.nDigits u<=20:=by have:=Lib.numDigits_eq u (by omega) hu64; split at this<;>omega
 have hb3:Lib.nDigits u<=23:=by omega
 have hal:P.arrayLen (ρ.t 171)=24:=by simp[Program.arrayLen,L.t171]
 have hsl1:∀ W,(Instr.sliceAt (ρ.t 171) (.pointer (some ⟨w.heap.size,0,none⟩)) (some (.int .i64 1)) (some (.int .i64 (1+(Lib.nDigits u:Int)))) none).run P W = .ok (.slice (some ⟨w.heap.size,1,none⟩) (Lib.nDigits u) 23) W:=fun W=>by
  rw[run_sliceAt_array_lh W (ρ.t 171) ⟨w.heap.size,0,none⟩ (by simp[Program.arrayLen,Program.elem,L.t171]) .i64 .i64 1 (1+(Lib.nDigits u:Int)) (by omega) (by omega) (by rw[hal]; omega)];go_simp
  omega
 have hH0:=Lib.holds_zero w (ρ.t 171) (Lib.nDigits u) (by omega);have hfmt:=Any.internal_strconv_formatBase10 { L with } w.heap.size 1 23 u (Array.replicate (Lib.nDigits u) 0) (w.alloc (.cells Lib.zeros24 (ρ.t 171))) hH0 (by rw[aB3]; exact Lib.lt_pow_nDigits u) hu64 (by rw[aB3]; omega);rw[aB3] at hfmt;have HH0:=Lib.hid hH0;clear hH0 hal;go_enter L.f246,Body.n246_ntmps ρ
 go_wp2_with (first
  | (go_at_fn (ρ.f 284); refine (aU' { L with } u (by omega) hu64 _ (htab.alloc _)).mono ?_; rintro e w' ⟨rfl,rfl⟩))
 go_at_fn (ρ.f 285)
 refine hfmt.mono ?_;rintro e w' ⟨rfl,k,v',dk,rfl,hF⟩;have hcv:(convert (ρ.t 37) (ρ.t 9) (.slice (some ⟨w.heap.size,1,none⟩) (Lib.nDigits u) 23)).run P ((putRow (fun (b:UInt8)=>Value.int .u8 (b.toNat:Int)) (w.alloc (.cells Lib.zeros24 (ρ.t 171))) w.heap.size 1 dk).drewN k) = .ok (.string ⟨(Lib.decDigits u).toArray⟩) ((putRow (fun (b:UInt8)=>Value.int .u8 (b.toNat:Int)) (w.alloc (.cells Lib.zeros24 (ρ.t 171))) w.heap.size 1 dk).drewN k):=by have h:=run_convert_bytes_back (P:=P) ((putRow (fun (b:UInt8)=>Value.int .u8 (b.toNat:Int)) (w.alloc (.cells Lib.zeros24 (ρ.t 171))) w.heap.size 1 dk).drewN k) (ρ.t 37) (ρ.t 9) (ρ.t 5) ⟨w.heap.size,1,none⟩ 23 (Lib.decDigits u) L.t37 L.t5 L.t9 (fun j hj=>by rw[Lib.row_is_numeral hF j hj,Lib.add_plain,World.cell?_drewN];exact cell?_putRow (fun (b:UInt8)=>Value.int .u8 (b.toNat:Int)) _ w.heap.size 1 _ dk HH0.out (by rw[hF.size,aB3]) j (by rw[hF.size]; rw[Lib.decDigits_length] at hj; exact hj));rw[Lib.decDigits_length] at h;exact h
 go_wp2
 go_ret
 obtain ⟨os,eo⟩:=Lib.fin_pos w (.cells Lib.zeros24 (ρ.t 171)) dk k;refine ⟨rfl,?_⟩;rw[eo];exact below_grown w k os
set_option maxRecDepth 100000 in
theorem bDI (L:LaysM.n243 P ρ) (u:Nat) (hu1:100<=u) (hu:u<9223372036854775808) (w:World) (htab:Gm P ρ w) :
 Calls P (ρ.f 243) #[.int .i64 u] w fun e w'=>e = .returned (.string ⟨(Lib.decDigits u).toArray⟩)/\Below w.heap.size w w':=by
 have mixed:=L.mixed;have t3:=L.t3; have a3:=L.a3; have z3:=L.z3; have v3:=L.v3;have t9:=L.t9; have a9:=L.a9; have z9:=L.z9; have v9:=L.v9;have t2:=L.t2; have a2:=L.a2; have z2:=L.z2; have v2:=L.v2;have e246:∀ args w,(callFunc (ρ.f 246) args).run P w = .ok (.enter (ρ.f 246) args) w:=enters_of L.f246 (by kernel_rfl) rfl;go_enter L.f243,Body.n243_ntmps ρ
 go_wp2_with (go_at_fn (ρ.f 246); refine (aWB { L with } u hu1 hu _ htab).mono ?_; rintro e w' ⟨rfl,hb⟩)
 go_ret
 exact ⟨rfl,hb⟩
set_option maxRecDepth 100000 in
theorem bDK (L:LaysM.n171 P ρ) (u:Nat) (hu1:100<=u) (hu:u<9223372036854775808) (w:World) (htab:Gm P ρ w) :
 Calls P (ρ.f 171) #[.int .i64 u] w fun e w'=>e = .returned (.string ⟨(Lib.decDigits u).toArray⟩)/\Below w.heap.size w w':=by
 have mixed:=L.mixed;have t3:=L.t3; have a3:=L.a3; have z3:=L.z3; have v3:=L.v3;have t9:=L.t9; have a9:=L.a9; have z9:=L.z9; have v9:=L.v9;have e243:∀ args w,(callFunc (ρ.f 243) args).run P w = .ok (.enter (ρ.f 243) args) w:=enters_of L.f243 (by kernel_rfl) rfl;go_enter L.f171,Body.n171_ntmps ρ
 go_wp2_with (go_at_fn (ρ.f 243); refine (bDI { L with } u hu1 hu _ htab).mono ?_; rintro e w' ⟨rfl,hb⟩)
 go_ret
 exact ⟨rfl,hb⟩
end
end YtcdceiloganlnaaGreatDoor
end Go.Proofs
namespace Go.Proofs
open Go.Shelf
shelf_lay Lays.n146 Nm 146 at Tryz as Tryz.lays146
end Go.Proofs
namespace Go.Proofs.YtcdceiloganlnaaGreatDoor
open Go.RowKit Go.Shelf
section
variable {P:Program} {ρ:Ren}
end
end Go.Proofs.YtcdceiloganlnaaGreatDoor
namespace Go.Proofs
open Go.Shelf
shelf_lay Lays.n217 Nm 217 at Tryz as Tryz.lays217
end Go.Proofs
namespace Go.Proofs.YtcdceiloganlnaaGreatDoor
open Go.RowKit Go.Shelf
theorem bC' (s:ByteArray) (c:Int) (w:World):Calls Tryz.prog 293 #[.string s,.int .u8 c] w fun e w'=>e = .returned (.int .i64 (Lib.indexByte s.data.toList c.toNat.toUInt8))/\w'=w:=Any.stringslite_IndexByte Tryz.lays217 s c w
def C16:Cal:=fun g args h=>match g,args with
 | 293,[.str s,.int .u8 c]=>some (.int .i64 (Lib.indexByte s.data.toList c.toNat.toUInt8),h)
 | _,_=>none
theorem a1N {P:Program} {g:FuncId} {args:List PV} {r:PV} {v:Value} (hc:callable P g=true) (hr:∀ M B,Rep M B r v) (ho:r.own=false)
 (h:∀ (M:Mem) (B:aV) (w:World) (vals:Array Value),bC M B args vals.toList->Calls P g vals w fun e w'=>e = .returned v/\w'=w) (hh:aI):Ev P g args hh r hh:=by
 refine ⟨hc,fun out M B w vals hmem hheap hcnt hnew hv=>(h M B w vals hv).mono ?_⟩;rintro e w' ⟨rfl,rfl⟩;refine ⟨v,M,B,rfl,hmem,dJ.refl _ _,Fr.refl _ _ _,hheap,hr M B,fG ho,fun b _ => ?_,fun b => ?_,fun b hb => ?_⟩
 .rw[dO ho]; exact bW _
 .rw[dO ho]; exact hcnt b
 .rw[dO ho]; exact hnew b hb
theorem Em:o6 Tryz.prog C16:=by
 intro g args h r h' hv;unfold C16 at hv;split at hv
 .rename_i s c;injection hv with hv; injection hv with h1 h2; subst h1; subst h2
  refine a1N (v := .int .i64 (Lib.indexByte s.data.toList c.toNat.toUInt8)) (by kernel_rfl) (fun _ _=>dS.2 rfl) rfl (fun M B w vals hv => ?_) h;obtain ⟨u1,us,e1,r1,hv⟩:=dD.1 hv;obtain ⟨u2,us,rfl,r2,hv⟩:=dD.1 hv;rw[eu] at hv;subst hv;rw[iT] at r1; rw[dS] at r2;subst r1; subst r2;have:vals = #[.string s,.int .u8 c]:=by rw[<- oK]; exact e1
  rw[this];exact bC' s c w
 .cases hv
end Go.Proofs.YtcdceiloganlnaaGreatDoor
namespace Go.Proofs.YtcdceiloganlnaaGreatDoor
open Go.RowKit
set_option maxRecDepth 1000000
def LV (p:PV) (K:Int->ByteArray->Int->Int->Int->R):R:=match p with | .agg [.int .i64 x0,.str x1,.int .i64 x2,.int .i64 x3,.int .i64 x4]=>K x0 x1 x2 x3 x4 | _=>none
theorem aAY (p:PV):(∀ K:PV->R,LV p (fun x0 x1 x2 x3 x4=>K (.agg [.int .i64 x0,.str x1,.int .i64 x2,.int .i64 x3,.int .i64 x4]))=K p)\/(∀ K:PV->R,LV p (fun x0 x1 x2 x3 x4=>K (.agg [.int .i64 x0,.str x1,.int .i64 x2,.int .i64 x3,.int .i64 x4]))=none):=by
 unfold LV; split
 .exact .inl fun _=>rfl
 .exact .inr fun _=>rfl
@[simp] theorem bS8 (x0 : Int) (x1 : ByteArray) (x2 : Int) (x3 : Int) (x4 : Int) (K : Int -> ByteArray -> Int -> Int -> Int -> R) : LV (.agg [.int .i64 x0, .str x1, .int .i64 x2, .int .i64 x3, .int .i64 x4]) K = K x0 x1 x2 x3 x4 := rfl
def VV (t:TypeId) (p:PV) (K:PV->R):R :=
 aA (Nat.beq t 2) (vI .i64 p fun n1=>K (.int .i64 n1))
  (aA (Nat.beq t 3) (vI .i64 p fun n1=>K (.int .i64 n1))
  (aA (Nat.beq t 4) (vB p fun b1=>K (.bool b1))
  (aA (Nat.beq t 5) (vI .u8 p fun n1=>K (.int .u8 n1))
  (aA (Nat.beq t 6) (vI .u8 p fun n1=>K (.int .u8 n1))
  (aA (Nat.beq t 9) (vS p fun s1=>K (.str s1))
  (aA (Nat.beq t 10) (vS p fun s1=>K (.str s1))
  (aA (Nat.beq t 11) (vS p fun s1=>K (.str s1))
  (aA (Nat.beq t 12) (vI .u64 p fun n1=>K (.int .u64 n1))
  (aA (Nat.beq t 21) (vI .i32 p fun n1=>K (.int .i32 n1))
  (aA (Nat.beq t 22) (vL false 5 p fun l1=>K (.sl false 5 l1))
  (aA (Nat.beq t 31) (vI .i64 p fun n1=>K (.int .i64 n1))
  (aA (Nat.beq t 34) (vL false 1 p fun l1=>K (.sl false 1 l1))
  (aA (Nat.beq t 65) (vI .u16 p fun n1=>K (.int .u16 n1))
  (aA (Nat.beq t 83) (vL false 1 p fun l1=>K (.sl false 1 l1))
  (aA (Nat.beq t 95) (vL false 5 p fun l1=>K (.sl false 5 l1))
  (aA (Nat.beq t 117) (vL false 1 p fun l1=>K (.sl false 1 l1))
  (aA (Nat.beq t 126) (vL false 1 p fun l1=>K (.sl false 1 l1))
  (aA (Nat.beq t 130) (vL false 5 p fun l1=>K (.sl false 5 l1))
  (aA (Nat.beq t 175) (vI .u64 p fun n1=>K (.int .u64 n1))
  (aA (Nat.beq t 188) (vI .i8 p fun n1=>K (.int .i8 n1))
  (aA (Nat.beq t 191) (LV p fun n1 s2 n3 n4 n5=>K (.agg [.int .i64 n1,.str s2,.int .i64 n3,.int .i64 n4,.int .i64 n5]))
  (aA (Nat.beq t 192) (LV p fun n1 s2 n3 n4 n5=>K (.agg [.int .i64 n1,.str s2,.int .i64 n3,.int .i64 n4,.int .i64 n5]))
  (aA (Nat.beq t 219) (vL false 1 p fun l1=>K (.sl false 1 l1))
  (aA (Nat.beq t 236) (vL false 1 p fun l1=>K (.sl false 1 l1))
  (aA (Nat.beq t 260) (vI .u32 p fun n1=>K (.int .u32 n1))
  (aA (Nat.beq t 263) (vI .u64 p fun n1=>K (.int .u64 n1))
  (aA (Nat.beq t 354) (vI .u8 p fun n1=>K (.int .u8 n1))
  (aA (Nat.beq t 355) (vI .u8 p fun n1=>K (.int .u8 n1))
  (aA (Nat.beq t 357) (vI .i32 p fun n1=>K (.int .i32 n1))
  (aA (Nat.beq t 358) (vI .i32 p fun n1=>K (.int .i32 n1))
  (K p)))))))))))))))))))))))))))))))
theorem aS8:yh VV:=fun t p =>kV (rZ .i64 p) (kV (rZ .i64 p) (kV (Io p) (kV (rZ .u8 p) (kV (rZ .u8 p) (kV (V9 p) (kV (V9 p) (kV (V9 p) (kV (rZ .u64 p) (kV (rZ .i32 p) (kV (BC false 5 p) (kV (rZ .i64 p) (kV (BC false 1 p) (kV (rZ .u16 p) (kV (BC false 1 p) (kV (BC false 5 p) (kV (BC false 1 p) (kV (BC false 1 p) (kV (BC false 5 p) (kV (rZ .u64 p) (kV (rZ .i8 p) (kV (aAY p) (kV (aAY p) (kV (BC false 1 p) (kV (BC false 1 p) (kV (rZ .u32 p) (kV (rZ .u64 p) (kV (rZ .u8 p) (kV (rZ .u8 p) (kV (rZ .i32 p) (kV (rZ .i32 p) (.inl fun _=>rfl)))))))))))))))))))))))))))))))
def VB (p:PV) (K:List PV->Int->Int->Int->R):R:=match p with | .tuple [.sl false 5 l1,.int .i64 n2,.int .i64 n3,.int .i64 n4]=>K l1 n2 n3 n4 | _=>none
theorem bOD (p:PV) (h:aI):(∀ K:PV->aI->R,VB p (fun l1 n2 n3 n4=>K (.tuple [.sl false 5 l1,.int .i64 n2,.int .i64 n3,.int .i64 n4]) h)=K p h)\/(∀ K:PV->aI->R,VB p (fun l1 n2 n3 n4=>K (.tuple [.sl false 5 l1,.int .i64 n2,.int .i64 n3,.int .i64 n4]) h)=none):=by
 unfold VB; split
 .exact .inl fun _=>rfl
 .exact .inr fun _=>rfl
@[simp] theorem bSA (l1 : List PV) (n2 : Int) (n3 : Int) (n4 : Int) (K : List PV -> Int -> Int -> Int -> R) : VB (.tuple [.sl false 5 l1, .int .i64 n2, .int .i64 n3, .int .i64 n4]) K = K l1 n2 n3 n4 := rfl
def Ed (p:PV) (K:Int->ByteArray->Int->Int->Int->Int->R):R:=match p with | .tuple [.agg [.int .i64 n1,.str s2,.int .i64 n3,.int .i64 n4,.int .i64 n5],.int .i64 n6]=>K n1 s2 n3 n4 n5 n6 | _=>none
theorem aAZ (p:PV) (h:aI):(∀ K:PV->aI->R,Ed p (fun n1 s2 n3 n4 n5 n6=>K (.tuple [.agg [.int .i64 n1,.str s2,.int .i64 n3,.int .i64 n4,.int .i64 n5],.int .i64 n6]) h)=K p h)\/(∀ K:PV->aI->R,Ed p (fun n1 s2 n3 n4 n5 n6=>K (.tuple [.agg [.int .i64 n1,.str s2,.int .i64 n3,.int .i64 n4,.int .i64 n5],.int .i64 n6]) h)=none):=by
 unfold Ed; split
 .exact .inl fun _=>rfl
 .exact .inr fun _=>rfl
@[simp] theorem bSB (n1 : Int) (s2 : ByteArray) (n3 : Int) (n4 : Int) (n5 : Int) (n6 : Int) (K : Int -> ByteArray -> Int -> Int -> Int -> Int -> R) : Ed (.tuple [.agg [.int .i64 n1, .str s2, .int .i64 n3, .int .i64 n4, .int .i64 n5], .int .i64 n6]) K = K n1 s2 n3 n4 n5 n6 := rfl
def Jj (p:PV) (h:aI) (K:Int->ByteArray->Int->Int->Int->Int->Int->Int->R):R:=match p,h with | .agg [.int .i64 n1,.str s2,.int .i64 n3,.int .i64 n4,.int .i64 n5],[some [.int .i64 n6],some [.int .i64 n7],some [.int .i64 n8]]=>K n1 s2 n3 n4 n5 n6 n7 n8 | _,_=>none
theorem bC9 (p:PV) (h:aI):(∀ K:PV->aI->R,Jj p h (fun n1 s2 n3 n4 n5 n6 n7 n8=>K (.agg [.int .i64 n1,.str s2,.int .i64 n3,.int .i64 n4,.int .i64 n5]) [some [.int .i64 n6],some [.int .i64 n7],some [.int .i64 n8]])=K p h)\/(∀ K:PV->aI->R,Jj p h (fun n1 s2 n3 n4 n5 n6 n7 n8=>K (.agg [.int .i64 n1,.str s2,.int .i64 n3,.int .i64 n4,.int .i64 n5]) [some [.int .i64 n6],some [.int .i64 n7],some [.int .i64 n8]])=none):=by
 unfold Jj; split
 .exact .inl fun _=>rfl
 .exact .inr fun _=>rfl
@[simp] theorem bQ2 (n1 : Int) (s2 : ByteArray) (n3 : Int) (n4 : Int) (n5 : Int) (n6 : Int) (n7 : Int) (n8 : Int) (K : Int -> ByteArray -> Int -> Int -> Int -> Int -> Int -> Int -> R) : Jj (.agg [.int .i64 n1, .str s2, .int .i64 n3, .int .i64 n4, .int .i64 n5]) [some [.int .i64 n6], some [.int .i64 n7], some [.int .i64 n8]] K = K n1 s2 n3 n4 n5 n6 n7 n8 := rfl
def Vo (h0:aI) (r:PV) (h:aI) (K:PV->aI->R):R:=match h0 with
 | [some [.int .i64 _],some [.int .i64 _],some [.int .i64 _]]=>Jj r h (fun n1 s2 n3 n4 n5 n6 n7 n8=>K (.agg [.int .i64 n1,.str s2,.int .i64 n3,.int .i64 n4,.int .i64 n5]) [some [.int .i64 n6],some [.int .i64 n7],some [.int .i64 n8]])
 | []=>LV r fun n1 s2 n3 n4 n5=>K (.agg [.int .i64 n1,.str s2,.int .i64 n3,.int .i64 n4,.int .i64 n5]) h
 | _=>K r h
theorem aSA (h0:aI) (r:PV) (h:aI):(∀ K:PV->aI->R,Vo h0 r h K=K r h)\/(∀ K:PV->aI->R,Vo h0 r h K=none):=by
 unfold Vo; split
 .exact bC9 r h
 .exact zf (aAY r) h
 .exact .inl fun _=>rfl
def a0N (g:FuncId) (h0:aI) (r:PV) (h:aI) (K:PV->aI->R):R :=
 aA (Nat.beq g 303) (vB r fun b1=>K (.bool b1) h)
  (aA (Nat.beq g 304) (Ed r fun n1 s2 n3 n4 n5 n6=>K (.tuple [.agg [.int .i64 n1,.str s2,.int .i64 n3,.int .i64 n4,.int .i64 n5],.int .i64 n6]) h)
  (aA (Nat.beq g 305) (vB r fun b1=>K (.bool b1) h)
  (aA (Nat.beq g 306) (Ed r fun n1 s2 n3 n4 n5 n6=>K (.tuple [.agg [.int .i64 n1,.str s2,.int .i64 n3,.int .i64 n4,.int .i64 n5],.int .i64 n6]) h)
  (aA (Nat.beq g 333) (vS r fun s1=>K (.str s1) h)
  (aA (Nat.beq g 334) (vB r fun b1=>K (.bool b1) h)
  (K r h))))))
theorem aSD (g:FuncId) (h0:aI) (r:PV) (h:aI):(∀ K:PV->aI->R,a0N g h0 r h K=K r h)\/(∀ K:PV->aI->R,a0N g h0 r h K=none) :=su (zf (Io r) h) (su (aAZ r h) (su (zf (Io r) h) (su (aAZ r h) (su (zf (V9 r) h) (su (zf (Io r) h) (.inl fun _=>rfl))))))
def a0M (g:FuncId) (h0:aI) (r:PV) (h:aI) (K:PV->aI->R):R :=
 aA (Nat.beq g 99) (VB r fun l1 n2 n3 n4=>K (.tuple [.sl false 5 l1,.int .i64 n2,.int .i64 n3,.int .i64 n4]) h)
  (aA (Nat.beq g 120) (vB r fun b1=>K (.bool b1) h)
  (aA (Nat.beq g 213) (vB r fun b1=>K (.bool b1) h)
  (aA (Nat.beq g 249) (w0 r (K (.tuple []) h))
  (aA (Nat.beq g 250) (vI .i64 r fun n1=>K (.int .i64 n1) h)
  (aA (Nat.beq g 251) (Vo h0 r h K)
  (aA (Nat.beq g 252) (Ed r fun n1 s2 n3 n4 n5 n6=>K (.tuple [.agg [.int .i64 n1,.str s2,.int .i64 n3,.int .i64 n4,.int .i64 n5],.int .i64 n6]) h)
  (aA (Nat.beq g 253) (vL false 2 r fun l1=>K (.sl false 2 l1) h)
  (aA (Nat.beq g 293) (vI .i64 r fun n1=>K (.int .i64 n1) h)
  (aA (Nat.beq g 300) (vB r fun b1=>K (.bool b1) h)
  (aA (Nat.beq g 301) (vI .i64 r fun n1=>K (.int .i64 n1) h)
  (aA (Nat.beq g 302) (vL false 1 r fun l1=>K (.sl false 1 l1) h)
  (a0N g h0 r h K))))))))))))
theorem aSC (g:FuncId) (h0:aI) (r:PV) (h:aI):(∀ K:PV->aI->R,a0M g h0 r h K=K r h)\/(∀ K:PV->aI->R,a0M g h0 r h K=none) :=su (bOD r h) (su (zf (Io r) h) (su (zf (Io r) h) (su (bOC r h) (su (zf (rZ .i64 r) h) (su (aSA h0 r h) (su (aAZ r h) (su (zf (BC false 2 r) h) (su (zf (rZ .i64 r) h) (su (zf (Io r) h) (su (zf (rZ .i64 r) h) (su (zf (BC false 1 r) h) (aSD g h0 r h))))))))))))
def WW:FuncId->aI->PV->aI->(PV->aI->R)->R:=a0M
theorem aSB:uF WW:=aSC
def a7J (g:FuncId):xE:=match g with
 | 99=>⟨[0,2,3,4,5],[22],[],[],[(4,[0]),(10,[2,3,4,5])],[],[(2,[5])],[],[([5],false),([],true),([],true),([],true)],[],[],[],false⟩
 | 120=>⟨[0,1],[],[],[],[],[],[],[],[],[],[],[],false⟩
 | 195=>⟨[0,1],[],[],[],[],[],[],[1],[],[],[],[],false⟩
 | 213=>⟨[0,1],[],[],[],[],[],[],[],[],[],[],[],false⟩
 | 249=>⟨[0,1,3,4,5,6,7,8,9,11,12,13,47,48,49],[],[],[(47,[2])],[(2,[0,1,3,4,5]),(6,[0,1,3,4,5,6,7]),(5,[0,1,3,4,5,6,7]),(8,[0,1,3,4,5,6]),(12,[0,1,3,4,5,8]),(15,[0,1,3,4,5,8,9,47,48,49]),(18,[0,1,3,4,5,8,9,47,48,49]),(19,[0,1,3,4,5,8,9]),(21,[0,1,3,4,5,12])],[(2,[0,1,3,4,5]),(4,[0,1,3,4,5,6,7]),(14,[0,1,3,4,5,8,9,47,48,49])],[],[],[],[],[],[],false⟩
 | 250=>⟨[0,3,4],[],[],[],[(5,[0,3]),(11,[0,3,4]),(12,[3])],[(3,[0,3])],[],[],[],[],[],[],false⟩
 | 251=>⟨[0,1,2,3,4,5],[],[],[],[],[],[],[],[],[],[],[6,7,8,1000000,1000001,1000002],false⟩
 | 252=>⟨[0,2,5,6,7,8],[],[],[(6,[1])],[(4,[0,2,6,7,8]),(7,[0,2,6,7,8]),(8,[2])],[(3,[0,2,6,7,8])],[],[],[],[],[],[],false⟩
 | 253=>⟨[],[],[],[],[],[],[],[],[([2],false)],[],[],[],false⟩
 | 293=>⟨[0,1],[],[],[],[],[],[],[],[],[],[],[],false⟩
 | 300=>⟨[0],[],[],[],[],[],[],[],[],[],[],[],false⟩
 | 301=>⟨[0,1],[],[],[],[],[],[],[],[],[],[],[],false⟩
 | 302=>⟨[],[],[],[],[],[],[],[],[([1],false)],[],[],[],false⟩
 | 303=>⟨[0],[],[],[],[],[],[],[],[],[],[],[],false⟩
 | 304=>⟨[0,2,4],[],[],[],[(5,[2,4])],[],[],[],[],[],[],[],false⟩
 | 305=>⟨[0],[],[],[],[],[],[],[],[],[],[],[],false⟩
 | 306=>⟨[0,2,4,5,6,27,28],[],[],[],[(5,[2,4]),(8,[2,4,5,27,28]),(12,[2,4,5,27,28]),(13,[2,4,5])],[(7,[2,4,5,27,28])],[],[],[],[],[],[],false⟩
 | 333=>⟨[0,1,5,7,8],[],[],[],[(4,[0,1,7,8]),(7,[0,1,7,8]),(8,[0])],[(3,[0,1,7,8])],[],[],[],[],[],[],false⟩
 | 334=>⟨[0],[],[],[],[],[],[],[],[],[],[],[],false⟩
 | _=>⟨[],[],[],[],[],[],[],[],[],[],[],[],false⟩
noncomputable def SS:SE:=⟨Tryz.prog,a7J,VV,WW,C16⟩
theorem dZ:SS.OK:=⟨aS8,aSB⟩
def aGH:Code:=qU Tryz.f250
def a2V:AE:=SS.ae 250 34
def b2N:XE:=SS.xe SS.CC SS.LL a2V 0
def aGG:AX->ASt->R:=Fq SS.P Tryz.f250.results.toList (SS.iI 250).ro 0 []
def aGI:Code:=Code.sub [true,true,true] aGH
def b2L:AX->ASt->R:=wX (um a2V 0 aGI (bH b2N aGI aGG)) aGG
def b2M:AX->ASt->R:=aj 0 b2L
def b2O:Code:=Code.sub [true,true,false,false,false] aGH
def SQ (x0:ByteArray) (x3:Int):R:=SS.LL a2V 0 [0,3] 0 b2O b2M ⟨[(0,.str x0),(3,.int .i64 x3)],[]⟩
theorem a2W (x0:ByteArray) (x3:Int):SQ x0 x3=aA (decide (x3<(x0.size:Int))) (vz x0 x3 fun c1=>jF SS.CC 300 [.int .u8 c1] fun r3=>vB r3 fun b2=>aA b2 (SQ x0 (i64.wrap (x3+1))) (chk (decide (0<=x3)&&decide (x3<=(x0.size:Int))) (jF SS.CC 120 [.str (x0.extract x3.toNat x0.size),.str ⟨#[47,47]⟩] fun r5=>vB r5 fun b4=>aA b4 (chk (decide (0<=x3)&&decide (x3<=(x0.size:Int))) (jF SS.CC 301 [.str (x0.extract x3.toNat x0.size),.int .u8 10] fun r7=>vI .i64 r7 fun n6=>aA (decide (n6<0)) (some (.int .i64 (x0.size:Int),[])) (SQ x0 (i64.wrap (x3+n6))))) (some (.int .i64 x3,[]))))) (some (.int .i64 x3,[])):=(DV dZ (by decide) (by kernel_rfl) (by kernel_rfl)).trans (by kernel_rfl)
theorem b2P (a0:ByteArray):SS.CC 250 [.str a0] []=SQ a0 0:=(tY dZ rfl).trans (by kernel_rfl)
def aGM:Code:=qU Tryz.f252
def a2X:AE:=SS.ae 252 19
def b2S:XE:=SS.xe SS.CC SS.LL a2X 0
def aGK:AX->ASt->R:=Fq SS.P Tryz.f252.results.toList (SS.iI 252).ro 0 []
def aGN:Code:=Code.sub [true,true] aGM
def b2Q:AX->ASt->R:=wX (um a2X 0 aGN (bH b2S aGN aGK)) aGK
def b2R:AX->ASt->R:=aj 0 b2Q
def b2T:Code:=Code.sub [true,false,true,false,false] aGM
def Xn (x0:ByteArray) (x6:bSH) (x8:Int):R:=SS.LL a2X 0 [0,2,6,7,8] 1 b2T b2R ⟨[(0,.str x0),(2,.ptr 0 0),(6,.sl false 1 x6),(7,.int .i64 (x6.length:Int)),(8,.int .i64 x8)],[some [.int .i64 0,.str ⟨#[]⟩,.int .i64 0,.int .i64 0,.int .i64 0]]⟩
theorem aGL (x0:ByteArray) (x6:bSH) (x8:Int):Xn x0 x6 x8=aA (decide (x8<(x6.length:Int))) (dQ x6 x8 fun e1=>vS e1 fun s2=>jF SS.CC 120 [.str x0,.str s2] fun r4=>vB r4 fun b3=>aA b3 (some (.tuple [.agg [.int .i64 3,.str s2,.int .i64 0,.int .i64 0,.int .i64 0],.int .i64 0],[])) (Xn x0 x6 (i64.wrap (x8+1)))) (some (.tuple [.agg [.int .i64 0,.str ⟨#[]⟩,.int .i64 0,.int .i64 0,.int .i64 0],.int .i64 14],[])):=(DV dZ (by decide) (by kernel_rfl) (by kernel_rfl)).trans (by kernel_rfl)
theorem b2U (a0:ByteArray):SS.CC 252 [.str a0] []=jF SS.CC 302 [] fun r2=>vL false 1 r2 fun l1=>Xn a0 l1 0:=(tY dZ rfl).trans (by kernel_rfl)
theorem b5K (a0:ByteArray):SS.CC 304 [.str a0] []=jF SS.CC 333 [.str a0,.func (.func 334) [] []] fun r2=>vS r2 fun s1=>aA (decide (32<(s1.size:Int))) (some (.tuple [.agg [.int .i64 0,.str ⟨#[]⟩,.int .i64 0,.int .i64 0,.int .i64 0],.int .i64 15],[])) (some (.tuple [.agg [.int .i64 1,.str s1,.int .i64 0,.int .i64 0,.int .i64 0],.int .i64 0],[])):=(tY dZ rfl).trans (by kernel_rfl)
def a3O:Code:=qU Tryz.f306
def a3M:AE:=SS.ae 306 46
def aH5:XE:=SS.xe SS.CC SS.LL a3M 0
def a3N:AX->ASt->R:=Fq SS.P Tryz.f306.results.toList (SS.iI 306).ro 0 []
def b5P:Code:=Code.sub [true,true,true] a3O
def aH6:Code:=Code.sub [true,true,true,true,true] a3O
def b5N:AX->ASt->R:=wX (um a3M 0 aH6 (bH aH5 aH6 a3N)) a3N
def b5O:AX->ASt->R:=aj 0 b5N
def b5Q:Code:=Code.sub [true,true,true,true,false,true,false,false] a3O
def Xu (x4:ByteArray):R:=bH aH5 b5P a3N ⟨[(2,.ptr 0 0),(4,.str x4)],[some [.int .i64 0,.str ⟨#[]⟩,.int .i64 0,.int .i64 0,.int .i64 0]]⟩
def Xv (x4:ByteArray) (x5:Int) (x28:Int):R:=SS.LL a3M 0 [2,4,5,27,28] 1 b5Q b5O ⟨[(2,.ptr 0 0),(4,.str x4),(5,.int .i64 x5),(27,.int .i64 (x4.size:Int)),(28,.int .i64 x28)],[some [.int .i64 0,.str ⟨#[]⟩,.int .i64 0,.int .i64 0,.int .i64 0]]⟩
theorem b5M (x4:ByteArray):Xu x4=Xv x4 0 0:=by kernel_rfl
theorem aH4 (x4:ByteArray) (x5:Int) (x28:Int):Xv x4 x5 x28=aA (decide (x28<(x4.size:Int))) (vz x4 x28 fun c1=>aA (decide (65536<(i64.wrap ((i64.wrap (10*x5))+(i64.wrap (IntKind.u8.wrap (c1-48))))))) (some (.tuple [.agg [.int .i64 0,.str ⟨#[]⟩,.int .i64 0,.int .i64 0,.int .i64 0],.int .i64 2],[])) (Xv x4 (i64.wrap ((i64.wrap (10*x5))+(i64.wrap (IntKind.u8.wrap (c1-48))))) (i64.wrap (x28+1)))) (some (.tuple [.agg [.int .i64 2,.str x4,.int .i64 x5,.int .i64 0,.int .i64 0],.int .i64 0],[])):=(DV dZ (by decide) (by kernel_rfl) (by kernel_rfl)).trans (by kernel_rfl)
theorem b5R (a0:ByteArray):SS.CC 306 [.str a0] []=jF SS.CC 333 [.str a0,.func (.func 305) [] []] fun r2=>vS r2 fun s1=>jF SS.CC 333 [.str a0,.func (.func 334) [] []] fun r4=>vS r4 fun s3=>aA (decide ((s1.size:Int)<(s3.size:Int))) (some (.tuple [.agg [.int .i64 0,.str ⟨#[]⟩,.int .i64 0,.int .i64 0,.int .i64 0],.int .i64 6],[])) (aA (decide (1<(s1.size:Int))) (vz s1 0 fun c5=>aA (c5==48) (some (.tuple [.agg [.int .i64 0,.str ⟨#[]⟩,.int .i64 0,.int .i64 0,.int .i64 0],.int .i64 6],[])) (Xu s1)) (Xu s1)):=(tY dZ rfl).trans (by kernel_rfl)
theorem b2V:SS.CC 253 [] []=some (.sl false 2 [.agg [.func (.func 303) [] [],.func (.func 304) [] []],.agg [.func (.func 305) [] [],.func (.func 306) [] []]],[]):=(tY dZ rfl).trans (by kernel_rfl)
theorem b5G (a0:Int):SS.CC 300 [.int .u8 a0] []=aA (a0==32) (some (.bool true,[])) (aA (a0==9) (some (.bool true,[])) (aA (a0==13) (some (.bool true,[])) (some (.bool (a0==10),[])))):=(tY dZ rfl).trans (by kernel_rfl)
theorem aXE (a0:ByteArray) (a1:ByteArray):SS.CC 120 [.str a0,.str a1] []=jF SS.CC 213 [.str a0,.str a1] fun r2=>vB r2 fun b1=>some (.bool b1,[]):=(tY dZ rfl).trans (by kernel_rfl)
theorem b5H (a0:ByteArray) (a1:Int):SS.CC 301 [.str a0,.int .u8 a1] []=jF SS.CC 293 [.str a0,.int .u8 a1] fun r2=>vI .i64 r2 fun n1=>some (.int .i64 n1,[]):=(tY dZ rfl).trans (by kernel_rfl)
theorem b5I:SS.CC 302 [] []=some (.sl false 1 [.str ⟨#[45,62]⟩,.str ⟨#[58,61]⟩,.str ⟨#[61,61]⟩,.str ⟨#[33,61]⟩,.str ⟨#[60,61]⟩,.str ⟨#[62,61]⟩,.str ⟨#[46,46]⟩,.str ⟨#[38,38]⟩,.str ⟨#[124,124]⟩,.str ⟨#[123]⟩,.str ⟨#[125]⟩,.str ⟨#[40]⟩,.str ⟨#[41]⟩,.str ⟨#[91]⟩,.str ⟨#[93]⟩,.str ⟨#[44]⟩,.str ⟨#[59]⟩,.str ⟨#[58]⟩,.str ⟨#[61]⟩,.str ⟨#[60]⟩,.str ⟨#[62]⟩,.str ⟨#[43]⟩,.str ⟨#[45]⟩,.str ⟨#[42]⟩,.str ⟨#[33]⟩,.str ⟨#[63]⟩],[]):=(tY dZ rfl).trans (by kernel_rfl)
def aHD:Code:=qU Tryz.f333
def a3Q:AE:=SS.ae 333 22
def b6G:XE:=SS.xe SS.CC SS.LL a3Q 0
def aHB:AX->ASt->R:=Fq SS.P Tryz.f333.results.toList (SS.iI 333).ro 0 []
def aHE:Code:=Code.sub [true,true] aHD
def b6E:AX->ASt->R:=wX (um a3Q 0 aHE (bH b6G aHE aHB)) aHB
def b6F:AX->ASt->R:=aj 0 b6E
def b6H:Code:=Code.sub [true,false,true,false,false] aHD
def Y0 (x0:ByteArray) (x8:Int):R:=SS.LL a3Q 0 [0,1,7,8] 0 b6H b6F ⟨[(0,.str x0),(1,.func (.func 334) [] []),(7,.int .i64 (x0.size:Int)),(8,.int .i64 x8)],[]⟩
theorem aHC (x0:ByteArray) (x8:Int):Y0 x0 x8=aA (decide (x8<(x0.size:Int))) (vz x0 x8 fun c1=>jF SS.CC 334 [.int .u8 c1] fun r3=>vB r3 fun b2=>aA (!b2) (chk (decide (0<=x8)&&decide (x8<=(x0.size:Int))) (some (.str (x0.extract 0 x8.toNat),[]))) (Y0 x0 (i64.wrap (x8+1)))) (some (.str x0,[])):=(DV dZ (by decide) (by kernel_rfl) (by kernel_rfl)).trans (by kernel_rfl)
theorem b6I (a0:ByteArray):SS.CC 333 [.str a0,.func (.func 334) [] []] []=Y0 a0 0:=(tY dZ rfl).trans (by kernel_rfl)
def aH9:Code:=qU Tryz.f333
def a3P:AE:=SS.ae 333 22
def b6B:XE:=SS.xe SS.CC SS.LL a3P 0
def aH7:AX->ASt->R:=Fq SS.P Tryz.f333.results.toList (SS.iI 333).ro 0 []
def aHA:Code:=Code.sub [true,true] aH9
def b69:AX->ASt->R:=wX (um a3P 0 aHA (bH b6B aHA aH7)) aH7
def b6A:AX->ASt->R:=aj 0 b69
def b6C:Code:=Code.sub [true,false,true,false,false] aH9
def Xz (x0:ByteArray) (x8:Int):R:=SS.LL a3P 0 [0,1,7,8] 0 b6C b6A ⟨[(0,.str x0),(1,.func (.func 305) [] []),(7,.int .i64 (x0.size:Int)),(8,.int .i64 x8)],[]⟩
theorem aH8 (x0:ByteArray) (x8:Int):Xz x0 x8=aA (decide (x8<(x0.size:Int))) (vz x0 x8 fun c1=>jF SS.CC 305 [.int .u8 c1] fun r3=>vB r3 fun b2=>aA (!b2) (chk (decide (0<=x8)&&decide (x8<=(x0.size:Int))) (some (.str (x0.extract 0 x8.toNat),[]))) (Xz x0 (i64.wrap (x8+1)))) (some (.str x0,[])):=(DV dZ (by decide) (by kernel_rfl) (by kernel_rfl)).trans (by kernel_rfl)
theorem b6D (a0:ByteArray):SS.CC 333 [.str a0,.func (.func 305) [] []] []=Xz a0 0:=(tY dZ rfl).trans (by kernel_rfl)
theorem b0T (a0:ByteArray) (a1:ByteArray):SS.CC 213 [.str a0,.str a1] []=aA (decide ((a1.size:Int)<=(a0.size:Int))) (chk (decide (0<=(a1.size:Int))&&decide ((a1.size:Int)<=(a0.size:Int))) (some (.bool ((a0.extract 0 (a1.size:Int).toNat).toList==a1.toList),[]))) (some (.bool false,[])):=(tY dZ rfl).trans (by kernel_rfl)
theorem b6J (a0:Int):SS.CC 334 [.int .u8 a0] []=jF SS.CC 303 [.int .u8 a0] fun r2=>vB r2 fun b1=>aA b1 (some (.bool true,[])) (jF SS.CC 305 [.int .u8 a0] fun r4=>vB r4 fun b3=>some (.bool b3,[])):=(tY dZ rfl).trans (by kernel_rfl)
theorem b5L (a0:Int):SS.CC 305 [.int .u8 a0] []=aA (decide (48<=a0)) (some (.bool (decide (a0<=57)),[])) (some (.bool false,[])):=(tY dZ rfl).trans (by kernel_rfl)
theorem b5J (a0:Int):SS.CC 303 [.int .u8 a0] []=aA (decide (97<=a0)) (aA (decide (a0<=122)) (some (.bool true,[])) (aA (decide (65<=a0)) (aA (decide (a0<=90)) (some (.bool true,[])) (some (.bool (a0==95),[]))) (some (.bool (a0==95),[])))) (aA (decide (65<=a0)) (aA (decide (a0<=90)) (some (.bool true,[])) (some (.bool (a0==95),[]))) (some (.bool (a0==95),[]))):=(tY dZ rfl).trans (by kernel_rfl)
theorem aGJ (a0:Int) (Gq:ByteArray) (Gs:Int) (aC1:Int) (aC2:Int) (bJ:Int) (nK:Int) (pF:Int):SS.CC 251 [.agg [.int .i64 a0,.str Gq,.int .i64 Gs,.int .i64 aC1,.int .i64 aC2],.ptr 0 0,.ptr 1 0,.ptr 2 0] [some [.int .i64 bJ],some [.int .i64 nK],some [.int .i64 pF]]=some (.agg [.int .i64 a0,.str Gq,.int .i64 Gs,.int .i64 bJ,.int .i64 (i64.wrap ((i64.wrap (nK-pF))+1))],[some [.int .i64 bJ],some [.int .i64 nK],some [.int .i64 pF]]):=(show SS.CC 251 [.agg [.int .i64 a0,.str Gq,.int .i64 Gs,.int .i64 aC1,.int .i64 aC2],.ptr 0 0,.ptr 1 0,.ptr 2 0] [some [.int .i64 bJ],some [.int .i64 nK],some [.int .i64 pF]]=bn (bn (some (.agg [.int .i64 a0,.str Gq,.int .i64 Gs,.int .i64 bJ,.int .i64 (i64.wrap ((i64.wrap (nK-pF))+1))],[some [.int .i64 bJ],some [.int .i64 nK],some [.int .i64 pF]])) (some (.agg [.int .i64 a0,.str Gq,.int .i64 Gs,.int .i64 bJ,.int .i64 (i64.wrap ((i64.wrap (nK-pF))+1))],[some [.int .i64 bJ],some [.int .i64 nK],some [.int .i64 pF]]))) (bn (bn (some (.agg [.int .i64 a0,.str Gq,.int .i64 Gs,.int .i64 bJ,.int .i64 (i64.wrap ((i64.wrap (nK-pF))+1))],[some [.int .i64 bJ],some [.int .i64 nK],some [.int .i64 pF]])) (some (.agg [.int .i64 a0,.str Gq,.int .i64 Gs,.int .i64 bJ,.int .i64 (i64.wrap ((i64.wrap (nK-pF))+1))],[some [.int .i64 bJ],some [.int .i64 nK],some [.int .i64 pF]]))) (some (.agg [.int .i64 a0,.str Gq,.int .i64 Gs,.int .i64 bJ,.int .i64 (i64.wrap ((i64.wrap (nK-pF))+1))],[some [.int .i64 bJ],some [.int .i64 nK],some [.int .i64 pF]]))) from (tY dZ rfl).trans (by kernel_rfl)).trans (by simp only[Gu])
abbrev kZ (p:PV):R:=some (p,[])
theorem aO {p:Prop} [Decidable p] (h:p):decide p=true:=by simp[h]
theorem aT {p:Prop} [Decidable p] (h:¬ p):decide p=false:=by simp[h]
def bs (l:bSI):ByteArray:=⟨l.toArray⟩
@[simp] theorem kG (l : bSI) : (bs l).size = l.length := by simp [bs, ByteArray.size]
theorem Gy (l:bSI) (i:Nat):(bs l)[i]? = l[i]? := by
 by_cases h:i<l.length
 .rw[iM h];have:i<(bs l).size:=by simpa using h
  rw[getElem?_pos (bs l) i this];rfl
 .rw[ww (by omega),getElem?_neg (bs l) i (by simpa using h)]
theorem Dh (l:bSI):(bs l).toList=l:=by rw[Q8];rfl
theorem RG (l:bSI) (a b:Nat):(bs l).extract a b=bs ((l.drop a).take (b-a)):=by apply ByteArray.ext;rw[ByteArray.data_extract];simp[bs,List.extract]
theorem rE (s:ByteArray):bs s.data.toList=s:=by apply ByteArray.ext;simp[bs]
def isLet (n:Nat):Bool:=(decide (97<=n)&&decide (n<=122))||((decide (65<=n)&&decide (n<=90))||n==95)
def eU (n:Nat):Bool:=decide (48<=n)&&decide (n<=57)
def kQ (n:Nat):Bool:=isLet n||eU n
def zN (n:Nat):Bool:=n==32||(n==9||(n==13||n==10))
theorem JG (n k:Nat):((n:Int)==(k:Int))=(n==k):=by rw[Q5,oN,oN]; omega
theorem Jw (k n:Nat):decide ((k:Int)<=(n:Int))=decide (k<=n):=by
 by_cases h:k<=n
 .rw[aO h,aO (by omega)]
 .rw[aT h,aT (by omega)]
theorem c78 (n:Nat):SS.CC 303 [.int .u8 n] []=kZ (.bool (isLet n)):=by
 rw[b5J,show decide ((97:Int)<=n)=decide (97<=n) from Jw 97 n,show decide ((n:Int)<=122)=decide (n<=122) from Jw n 122,show decide ((65:Int)<=n)=decide (65<=n) from Jw 65 n,show decide ((n:Int)<=90)=decide (n<=90) from Jw n 90,
  show ((n:Int)==95)=(n==95) from JG n 95]
 simp only[N7,isLet];cases decide (97<=n)<;>cases decide (n<=122)<;>cases decide (65<=n)<;>cases decide (n<=90)<;>rfl
theorem c80 (n:Nat):SS.CC 305 [.int .u8 n] []=kZ (.bool (eU n)):=by rw[b5L,show decide ((48:Int)<=n)=decide (48<=n) from Jw 48 n,show decide ((n:Int)<=57)=decide (n<=57) from Jw n 57];simp only[N7,eU];cases decide (48<=n)<;>cases decide (n<=57)<;>rfl
theorem c91 (n:Nat):SS.CC 334 [.int .u8 n] []=kZ (.bool (kQ n)):=by rw[b6J,oZ (c78 n),yg,oZ (c80 n),yg,N7,kQ];cases isLet n<;>rfl
theorem c75 (n:Nat):SS.CC 300 [.int .u8 n] []=kZ (.bool (zN n)):=by rw[b5G,show ((n:Int)==32)=(n==32) from JG n 32,show ((n:Int)==9)=(n==9) from JG n 9,show ((n:Int)==13)=(n==13) from JG n 13,show ((n:Int)==10)=(n==10) from JG n 10];simp only[N7,zN];cases n==32<;>cases n==9<;>cases n==13<;>rfl
theorem bV {k:Nat} (h:k<1000000000000000):i64.wrap ((k:Int)+1)=((k+1:Nat):Int):=by rw[wrap64 (by omega) (by omega)]; omega
def fP (p:Nat->Bool) (l:bSI):bSI:=l.takeWhile fun b=>p b.toNat
theorem a9C (p:Nat->Bool) (l:bSI):(fP p l).length<=l.length:=(List.takeWhile_sublist _).length_le
theorem aOZ {p:Nat->Bool} {l:bSI}:∀ {k:Nat} {b:UInt8},l[k]? = some b->(∀ j c,j<k->l[j]? = some c->p c.toNat=true)->p b.toNat=false->fP p l=l.take k:=by
 induction l with
 | nil=>intro k b h; simp at h
 | cons a l ih =>
  intro k b h h1 h2;cases k with
  | zero=>simp at h; subst h; simp[fP,DL,h2]
  | succ k =>have ha:=h1 0 a (by omega) (by simp);have:=ih (k:=k) (b:=b) (by simpa using h) (fun j c hj hc=>h1 (j+1) c (by omega) (by simpa using hc)) h2;simp only[fP,DL,ha,gV,VP];rw[<- this]; rfl
theorem L9 {p:Nat->Bool} {l:bSI} (h:∀ (j:Nat) c,l[j]? = some c->p c.toNat=true):fP p l=l:=by
 induction l with
 | nil=>rfl
 | cons a l ih =>
  have ha:=h 0 a (by simp);have:=ih fun j c hc=>h (j+1) c (by simpa using hc)
  unfold fP at *;rw[DL,ha,aJ rfl,this]
theorem c90 (l:bSI) (hl:l.length<=1000000):SS.CC 333 [.str (bs l),.func (.func 334) [] []] []=kZ (.str (bs (fP kQ l))):=by
 rw[b6I];have key:∀ (m k:Nat),k+m=l.length->(∀ j c,j<k->l[j]? = some c->kQ c.toNat=true)->Y0 (bs l) (k:Int)=kZ (.str (bs (fP kQ l))):=by
  intro m;induction m with
  | zero =>intro k hk h;rw[aHC,aT (by rw[kG]; omega),aC];rw[L9 fun j c hc=>h j c (by have:=(eP.1 hc).1; omega) hc]
  | succ m ih =>
   intro k hk h;obtain ⟨b,hb⟩:∃ b,l[k]? = some b:=⟨l[k],iM (by omega)⟩;rw[aHC,aO (by rw[kG]; omega),aG,Di (b:=b) (by omega) (by rw[Gy]; simpa using hb),oZ (c91 b.toNat),yg,bV (by omega)];cases hw:kQ b.toNat with
   | true =>
    exact ih (k+1) (by omega) fun j c hj hc=>by
     rcases lq j k with h' | h'
     .exact h j c h' hc
     .have:j=k:=by omega
      subst this; rw[hb] at hc; injection hc with hc; subst hc; exact hw
   | false =>rw[aOZ hb h hw];simp only[rq,aG];rw[aX (by simp; omega),RG];simp
 exact key l.length 0 (by omega) (by omega)
theorem aTO (l:bSI) (hl:l.length<=1000000):SS.CC 333 [.str (bs l),.func (.func 305) [] []] []=kZ (.str (bs (fP eU l))):=by
 rw[b6D];have key:∀ (m k:Nat),k+m=l.length->(∀ j c,j<k->l[j]? = some c->eU c.toNat=true)->Xz (bs l) (k:Int)=kZ (.str (bs (fP eU l))):=by
  intro m;induction m with
  | zero =>intro k hk h;rw[aH8,aT (by rw[kG]; omega),aC];rw[L9 fun j c hc=>h j c (by have:=(eP.1 hc).1; omega) hc]
  | succ m ih =>
   intro k hk h;obtain ⟨b,hb⟩:∃ b,l[k]? = some b:=⟨l[k],iM (by omega)⟩;rw[aH8,aO (by rw[kG]; omega),aG,Di (b:=b) (by omega) (by rw[Gy]; simpa using hb),oZ (c80 b.toNat),yg,bV (by omega)];cases hw:eU b.toNat with
   | true =>
    exact ih (k+1) (by omega) fun j c hj hc=>by
     rcases lq j k with h' | h'
     .exact h j c h' hc
     .have:j=k:=by omega
      subst this; rw[hb] at hc; injection hc with hc; subst hc; exact hw
   | false =>rw[aOZ hb h hw];simp only[rq,aG];rw[aX (by simp; omega),RG];simp
 exact key l.length 0 (by omega) (by omega)
structure Tok where
 kind:Int
 text:bSI
 value:Int
 line:Int
 sS:Int
 deriving DecidableEq
def Tok.zero:Tok:=⟨0,[],0,0,0⟩
def ay (t:Tok):PV := .agg [.int .i64 t.kind,.str (bs t.text),.int .i64 t.value,.int .i64 t.line,.int .i64 t.sS]
def rd (r:Tok×Int):PV := .tuple [ay r.1,.int .i64 r.2]
def yl (l:bSI):Tok×Int:=if 32<(fP kQ l).length then (.zero,15) else (⟨1,fP kQ l,0,0,0⟩,0)
theorem c79 (l:bSI) (hl:l.length<=1000000):SS.CC 304 [.str (bs l)] []=kZ (rd (yl l)):=by
 rw[b5K,oZ (c90 l hl),jR,kG,show decide ((32:Int)<((fP kQ l).length:Int))=decide (32<(fP kQ l).length) by
  by_cases h:32<(fP kQ l).length
  .rw[aO h,aO (by omega)]
  .rw[aT h,aT (by omega)]]
 unfold yl;by_cases h:32<(fP kQ l).length
 .rw[aO h,aJ h]; rfl
 .rw[aT h,aK h]; rfl
def qY:bSI->Nat->Option Nat
 | [],n=>some n
 | b::l,n=>if 65536<10*n+(b.toNat-48) then none else qY l (10*n+(b.toNat-48))
def Ah (l:bSI):Tok×Int :=
 if (fP eU l).length<(fP kQ l).length then (.zero,6)
 else if 1<(fP eU l).length/\(fP eU l)[0]? = some 48 then (.zero,6)
 else match qY (fP eU l) 0 with
  | none=>(.zero,2)
  | some n=>(⟨2,fP eU l,n,0,0⟩,0)
theorem aK5 {n:Nat}:eU n=true↔48<=n/\n<=57:=by simp[eU]
theorem aUZ {b:UInt8} (h:eU b.toNat=true):i64.wrap (IntKind.u8.wrap ((b.toNat:Int)-48))=((b.toNat-48:Nat):Int):=by obtain ⟨h1,h2⟩:=aK5.1 h;rw[show IntKind.u8.wrap ((b.toNat:Int)-48)=(b.toNat:Int)-48 by unfold IntKind.wrap; simp only[IntKind.signed,IntKind.bits]; first | (simp; omega) | omega];rw[wrap64 (by omega) (by omega)]; omega
theorem bL8 {p:Nat->Bool} {l:bSI} {b:UInt8} (h:b∈fP p l):p b.toNat=true:=by
 induction l with
 | nil=>cases h
 | cons a l ih =>
  unfold fP at *;rw[DL] at h;split at h
  .rename_i ha;rcases iQ.1 h with h | h
   .subst h; exact ha
   .exact ih h
  .cases h
theorem aTN (l:bSI) (hd:∀ b,b∈l->eU b.toNat=true) (hl:l.length<=1000000):∀ (m k n:Nat),k+m=l.length->n<=65536 ->
 Xv (bs l) (n:Int) (k:Int)=(match qY (l.drop k) n with | none=>kZ (rd (.zero,2)) | some v=>kZ (rd (⟨2,l,v,0,0⟩,0))):=by
 intro m;induction m with
 | zero =>intro k n hk hn;rw[aH4,aT (by rw[kG]; omega),aC,Ef (by omega)];rfl
 | succ m ih =>
  intro k n hk hn;obtain ⟨b,hb⟩:∃ b,l[k]? = some b:=⟨l[k],iM (by omega)⟩;have hdb:=hd b (jq hb);obtain ⟨h1,h2⟩:=aK5.1 hdb;have hdrop:l.drop k=b::l.drop (k+1):=by
   have hk':k<l.length:=by omega
   rw[DF hk'];rw[iM hk'] at hb; injection hb with hb; rw[hb]
  rw[aH4,aO (by rw[kG]; omega),aG,Di (b:=b) (by omega) (by rw[Gy]; simpa using hb),aUZ hdb,wrap64 (n:=10*(n:Int)) (by omega) (by omega),wrap64 (by omega) (by omega),bV (by omega),hdrop,qY];by_cases hv:65536<10*n+(b.toNat-48)
  .rw[aO (by omega),aG,aJ hv]; rfl
  .rw[aT (by omega),aC,aK hv];have:=ih (k+1) (10*n+(b.toNat-48)) (by omega) (by omega);rw[<- this];congr 1<;>omega
theorem c81 (l:bSI) (hl:l.length<=1000000):SS.CC 306 [.str (bs l)] []=kZ (rd (Ah l)):=by
 have hr:=a9C eU l;have key:Xu (bs (fP eU l))=(match qY (fP eU l) 0 with | none=>kZ (rd (.zero,2)) | some v=>kZ (rd (⟨2,fP eU l,v,0,0⟩,0))):=by have:=aTN (fP eU l) (fun b hb=>bL8 hb) (by omega) (fP eU l).length 0 0 (by omega) (by omega);rw[b5M]; exact this
 have fin:(match qY (fP eU l) 0 with | none=>kZ (rd (.zero,2)) | some v=>kZ (rd (⟨2,fP eU l,v,0,0⟩,0)))=kZ (rd (match qY (fP eU l) 0 with | none=>(.zero,2) | some n=>(⟨2,fP eU l,n,0,0⟩,0))):=by cases qY (fP eU l) 0<;>rfl
 rw[b5R,oZ (aTO l hl),jR,oZ (c90 l hl),jR,kG,kG];unfold Ah;by_cases h1:(fP eU l).length<(fP kQ l).length
 .rw[aO (by omega),aG,aJ h1]; rfl
 .rw[aT (by omega),aC,aK h1];by_cases h2:1<(fP eU l).length
  .obtain ⟨b,hb⟩:∃ b,(fP eU l)[0]? = some b:=⟨(fP eU l)[0],iM (by omega)⟩;rw[aO (by omega),aG,Di (b:=b) (by omega) (by rw[Gy]; simpa using hb),hb];rw[show ((b.toNat:Int)==48)=(b.toNat==48) from JG b.toNat 48];by_cases h3:b=48
   .subst h3;rw[aJ ⟨h2,rfl⟩]; rfl
   .have:b.toNat≠48:=fun e=>h3 (UInt8.toNat_inj.1 (by rw[e]; rfl))
    rw[aK (fun h=>h3 (by simpa using h.2)),show (b.toNat==48)=false by simpa using this,aC,key,fin]
  .rw[aT (by omega),aC,aK (fun h=>h2 h.1),key,fin]
def tV:List (bSI) := [[45,62],[58,61],[61,61],[33,61],[60,61],[62,61],[46,46],[38,38],[124,124],[123],[125],[40],[41],[91],[93],[44],[59],[58],[61],[60],[62],[43],[45],[42],[33],[63]]
def GG (l:bSI):Option (bSI):=tV.find? fun x=>x.isPrefixOf l
def D5 (l:bSI):Tok×Int:=match GG l with
 | some x=>(⟨3,x,0,0,0⟩,0)
 | none=>(.zero,14)
theorem aOD:∀ (x l:bSI),(decide (x.length<=l.length)&&(l.take x.length==x))=x.isPrefixOf l
 | [],l=>by simp
 | a::x,[]=>by simp
 | a::x,b::l=>by
  have:=aOD x l;simp only[aY,VP,List.isPrefixOf,<- this,List.cons_beq_cons];rw[show decide (x.length+1<=l.length+1)=decide (x.length<=l.length) by
   by_cases h:x.length<=l.length
   .rw[aO h,aO (by omega)]
   .rw[aT h,aT (by omega)],show (b==a)=(a==b) by rw[Q5,oN,oN]; exact eq_comm]
  cases a==b<;>cases decide (x.length<=l.length)<;>simp
theorem c87 (l x:bSI):SS.CC 213 [.str (bs l),.str (bs x)] []=kZ (.bool (x.isPrefixOf l)):=by
 rw[b0T,<- aOD,kG,kG,show decide ((x.length:Int)<=(l.length:Int))=decide (x.length<=l.length) from Jw _ _];by_cases h:x.length<=l.length
 .rw[aO h,aG,aX (by simp),RG,Dh,Dh];simp
 .rw[aT h]; rfl
theorem c69 (l x:bSI):SS.CC 120 [.str (bs l),.str (bs x)] []=kZ (.bool (x.isPrefixOf l)):=by rw[aXE,oZ (c87 l x),yg]
theorem c77:SS.CC 302 [] []=kZ (.sl false 1 (tV.map fun x => .str (bs x))):=b5I
theorem aTM (l:bSI) (xs:List (bSI)) (hx:xs.length<=1000):∀ (m k:Nat),k+m=xs.length ->
 Xn (bs l) (xs.map fun x => .str (bs x)) (k:Int)=kZ (rd (match (xs.drop k).find? (fun x=>x.isPrefixOf l) with | some x=>(⟨3,x,0,0,0⟩,0) | none=>(.zero,14))):=by
 intro m;induction m with
 | zero =>intro k hk;rw[aGL,aT (by rw[bM]; omega),aC,Ef (by omega)];rfl
 | succ m ih =>
  intro k hk;have hk':k<xs.length:=by omega
  rw[aGL,aO (by rw[bM]; omega),aG,lH (e := .str (bs xs[k])) (by omega) (by simp[hk']),jR,oZ (c69 l xs[k]),yg,bV (by omega),DF hk',List.find?_cons];cases xs[k].isPrefixOf l with
  | true=>rfl
  | false=>exact ih (k+1) (by omega)
theorem c61 (l:bSI):SS.CC 252 [.str (bs l)] []=kZ (rd (D5 l)):=by rw[b2U,oZ c77,a01];exact aTM l tV (by decide) tV.length 0 (by omega)
def gW:Bool->bSI->Nat
 | _,[]=>0
 | true,b::l=>if b=10 then 1+gW false l else 1+gW true l
 | false,b::l=>if zN b.toNat then 1+gW false l else if [47,47].isPrefixOf (b::l) then 1+gW true l else 0
theorem bM3 (l:bSI):if Lib.indexByte l 10<0 then gW true l=l.length else ∃ j:Nat,Lib.indexByte l 10=j/\j<l.length/\gW true l=j+gW false (l.drop j):=by
 induction l with
 | nil=>simp[Lib.indexByte,gW]
 | cons b l ih =>
  have hge:=Lib.indexByte_ge l 10;rw[Lib.indexByte];by_cases hb:b=10
  .subst hb;simp only[sF,gV];rw[aK (by omega)];exact ⟨0,rfl,by simp,by simp[gW,zN]⟩
  .have hbb:(b==10)=false:=by simpa using hb
   simp only[hbb,uP,tX];by_cases h:Lib.indexByte l 10<0
   .rw[aJ h] at ih;have h1:Lib.indexByte l 10 = -1:=by omega
    rw[h1];simp[gW,hb,ih]; omega
   .rw[aK h] at ih;obtain ⟨j,h1,h2,h3⟩:=ih;have:(Lib.indexByte l 10 == -1)=false:=by simp; omega
    rw[this];simp only[uP,tX];rw[aK (by omega)];exact ⟨j+1,by omega,by simp; omega,by simp[gW,hb,h3]; omega⟩
theorem c76 (l:bSI):SS.CC 301 [.str (bs l),.int .u8 10] []=kZ (.int .i64 (Lib.indexByte l 10)):=by
 have h89:SS.CC 293 [.str (bs l),.int .u8 10] []=kZ (.int .i64 (Lib.indexByte l 10)):=by rw[J5 dZ]; rfl
 rw[b5H,oZ h89,BB]
theorem c59 (l:bSI) (hl:l.length<=1000000):SS.CC 250 [.str (bs l)] []=kZ (.int .i64 ((gW false l:Nat):Int)):=by
 rw[b2P];have key:∀ (m k:Nat),l.length<=k+m->k<=l.length->SQ (bs l) (k:Int)=kZ (.int .i64 ((k+gW false (l.drop k):Nat):Int)):=by
  intro m;induction m with
  | zero =>intro k hk hk2;rw[a2W,aT (by rw[kG]; omega),aC,Ef (by omega)];rfl
  | succ m ih =>
   intro k hk hk2;by_cases hlt:k<l.length
   .have hdrop:l.drop k=l[k]::l.drop (k+1):=DF hlt;have he:(bs l).extract k l.length=bs (l.drop k):=by rw[RG,nZ (by simp)]
    rw[a2W,aO (by rw[kG]; omega),aG,Di (b:=l[k]) (by omega) (by rw[Gy]; simp[hlt]),oZ (c75 _),yg,kG,nX,he,show (⟨#[47,47]⟩:ByteArray)=bs [47,47] from rfl,oZ (c69 _ _),yg,oZ (c76 _),BB,bV (by omega)];cases hb:zN l[k].toNat with
    | true =>rw[aG,ih (k+1) (by omega) (by omega),hdrop,gW,aJ hb];congr 3; omega
    | false =>
     rw[aC,aX (by simp; omega)];cases hp : [47,47].isPrefixOf (l.drop k) with
     | false =>
      rw[aC];have:gW false (l.drop k)=0:=by rw[hdrop] at hp ⊢;rw[gW,aK (by rw[hb]; simp),aK (by rw[hp]; simp)]
      rw[this]; rfl
     | true =>
      rw[aG,aX (by simp; omega)];have hs:gW false (l.drop k)=gW true (l.drop k):=by
       rw[hdrop] at hp ⊢;have hne:l[k]≠10:=by intro e;rw[e] at hp;simp[List.isPrefixOf] at hp
       have e1:gW false (l[k]::l.drop (k+1))=1+gW true (l.drop (k+1)):=by rw[gW,aK (by rw[hb]; simp),aJ hp]
       have e2:gW true (l[k]::l.drop (k+1))=1+gW true (l.drop (k+1)):=by rw[gW,aK hne]
       rw[e1,e2]
      have hi:=bM3 (l.drop k);rw[hs];by_cases h0:Lib.indexByte (l.drop k) 10<0
      .rw[aJ h0] at hi;rw[aO h0,aG,hi];simp; omega
      .rw[aK h0] at hi;obtain ⟨j,h1,h2,h3⟩:=hi;have hj:0<j:=by
        rcases Gg j with e | e
        .subst e;rw[hdrop,Lib.indexByte] at h1;have hne:l[k]≠10:=by intro e;rw[hdrop,e] at hp;simp[List.isPrefixOf] at hp
         rw[aK (by simpa using hne)] at h1;have:=Lib.indexByte_ge (l.drop (k+1)) 10;split at h1<;>rename_i hh<;>simp at hh<;>omega
        .exact e
       simp at h2;rw[aT h0,aC,h1,wrap64 (by omega) (by omega),show ((k:Int)+(j:Int))=((k+j:Nat):Int) by omega,ih (k+j) (by omega) (by omega),h3,a06];congr 3; omega
   .rw[a2W,aT (by rw[kG]; omega),aC,Ef (by omega)];rfl
 have:=key l.length 0 (by omega) (by omega);simpa using this
def opsOf:Code->Array Oper | .region _ ops _=>ops | _ => #[]
def iH:Code:=qU Tryz.f249
def KU:AE:=SS.ae 249 86
def Ap:XE:=SS.xe SS.CC SS.LL KU 7
def bI0:Code:=Code.sub [false,true,true,false,false,false,false] iH
theorem bI1 (l:Nat) (K:AX->ASt->R) (s:ByteArray) (L:bSH) (c1:Int) (c2:Int) (c3:Int) (line:Int) (start:Int) (at_:Int):bH Ap bI0 K ⟨[(0,.func (.yield l) [] []),(1,.cst (.str s)),(3,.ptr 4 0),(4,.ptr 5 0),(5,.ptr 6 0)],[some [.sl true 5 L],some [.int .i64 c1],some [.int .i64 c2],some [.int .i64 c3],some [.int .i64 line],some [.int .i64 start],some [.int .i64 at_]]⟩=chk (decide (0<=at_)&&decide (at_<=(s.size:Int))) (jF SS.CC 250 [.str (s.extract at_.toNat s.size)] fun r2=>vI .i64 r2 fun n1=>K .normal ⟨[(0,.func (.yield l) [] []),(1,.cst (.str s)),(3,.ptr 4 0),(4,.ptr 5 0),(5,.ptr 6 0),(6,.int .i64 n1),(14,.str s),(15,.int .i64 at_),(16,.str (s.extract at_.toNat s.size)),(17,.int .i64 n1)],[some [.sl true 5 L],some [.int .i64 c1],some [.int .i64 c2],some [.int .i64 c3],some [.int .i64 line],some [.int .i64 start],some [.int .i64 at_]]⟩):=by kernel_rfl
def aNZ:Code:=qU Tryz.f249
def aNX:AE:=SS.ae 249 86
def bI3:XE:=SS.xe SS.CC SS.LL aNX 7
def bI4:Code:=Code.sub [false,true,true,false,false,false,true,false] aNZ
def bI2 (K:AX->ASt->R):AX->ASt->R:=aj 2 K
def bI5:Code:=Code.sub [false,true,true,false,false,false,true,false,true,false,false] aNZ
def UO (l:Nat) (K:AX->ASt->R) (x1:ByteArray) (x6:Int) (x7:Int) (aN:bSH) (lX:Int) (nR:Int) (eH:Int) (Oj:Int) (zZ:Int) (FU:Int):R:=SS.LL aNX 7 [0,1,3,4,5,6,7] 7 bI5 (bI2 K) ⟨[(0,.func (.yield l) [] []),(1,.cst (.str x1)),(3,.ptr 4 0),(4,.ptr 5 0),(5,.ptr 6 0),(6,.int .i64 x6),(7,.int .i64 x7)],[some [.sl true 5 aN],some [.int .i64 lX],some [.int .i64 nR],some [.int .i64 eH],some [.int .i64 Oj],some [.int .i64 zZ],some [.int .i64 FU]]⟩
theorem aNY (l:Nat) (K:AX->ASt->R) (x1:ByteArray) (x6:Int) (x7:Int) (aN:bSH) (lX:Int) (nR:Int) (eH:Int) (Oj:Int) (zZ:Int) (FU:Int):UO l K x1 x6 x7 aN lX nR eH Oj zZ FU=aA (decide (x7<(i64.wrap (FU+x6)))) (vz x1 x7 fun c1=>aA (c1==10) (UO l K x1 x6 (i64.wrap (x7+1)) aN lX nR eH (i64.wrap (Oj+1)) (i64.wrap (x7+1)) FU) (UO l K x1 x6 (i64.wrap (x7+1)) aN lX nR eH Oj zZ FU)) (K .normal ⟨[(0,.func (.yield l) [] []),(1,.cst (.str x1)),(3,.ptr 4 0),(4,.ptr 5 0),(5,.ptr 6 0),(6,.int .i64 x6),(7,.int .i64 x7),(19,.int .i64 x7),(20,.int .i64 FU),(21,.int .i64 x6),(22,.int .i64 (i64.wrap (FU+x6))),(23,.bool false)],[some [.sl true 5 aN],some [.int .i64 lX],some [.int .i64 nR],some [.int .i64 eH],some [.int .i64 Oj],some [.int .i64 zZ],some [.int .i64 FU]]⟩):=(DV dZ (by decide) (by kernel_rfl) (by kernel_rfl)).trans (by kernel_rfl)
theorem bI6 (l:Nat) (K:AX->ASt->R) (s:ByteArray) (g:Int) (L:bSH) (c1:Int) (c2:Int) (c3:Int) (line:Int) (start:Int) (at_:Int):bH bI3 bI4 K ⟨[(0,.func (.yield l) [] []),(1,.cst (.str s)),(3,.ptr 4 0),(4,.ptr 5 0),(5,.ptr 6 0),(6,.int .i64 g)],[some [.sl true 5 L],some [.int .i64 c1],some [.int .i64 c2],some [.int .i64 c3],some [.int .i64 line],some [.int .i64 start],some [.int .i64 at_]]⟩=UO l K s g at_ L c1 c2 c3 line start at_:=by kernel_rfl
def bI9:Code:=qU Tryz.f249
def bI7:AE:=SS.ae 249 86
def bI8:XE:=SS.xe SS.CC SS.LL bI7 7
def bIA:Code:=Code.sub [false,true,true,false,false,false,true,true,false] bI9
theorem bIB (l:Nat) (K:AX->ASt->R) (s:ByteArray) (g:Int) (L:bSH) (c1:Int) (c2:Int) (c3:Int) (line:Int) (start:Int) (at_:Int):bH bI8 bIA K ⟨[(0,.func (.yield l) [] []),(1,.cst (.str s)),(3,.ptr 4 0),(4,.ptr 5 0),(5,.ptr 6 0),(6,.int .i64 g)],[some [.sl true 5 L],some [.int .i64 c1],some [.int .i64 c2],some [.int .i64 c3],some [.int .i64 line],some [.int .i64 start],some [.int .i64 at_]]⟩=K .normal ⟨[(0,.func (.yield l) [] []),(1,.cst (.str s)),(3,.ptr 4 0),(4,.ptr 5 0),(5,.ptr 6 0),(6,.int .i64 g),(34,.int .i64 at_),(35,.int .i64 g),(36,.int .i64 (i64.wrap (at_+g)))],[some [.sl true 5 L],some [.int .i64 c1],some [.int .i64 c2],some [.int .i64 c3],some [.int .i64 line],some [.int .i64 start],some [.int .i64 (i64.wrap (at_+g))]]⟩:=by kernel_rfl
def bIE:Code:=qU Tryz.f249
def bIC:AE:=SS.ae 249 86
def bID:XE:=SS.xe SS.CC SS.LL bIC 7
def bIF:Code:=Code.sub [false,true,true,false,false,false,true,true,true,false] bIE
theorem bIG (l:Nat) (K:AX->ASt->R) (s:ByteArray) (L:bSH) (c1:Int) (c2:Int) (c3:Int) (line:Int) (start:Int) (at_:Int):bH bID bIF K ⟨[(0,.func (.yield l) [] []),(1,.cst (.str s)),(3,.ptr 4 0),(4,.ptr 5 0),(5,.ptr 6 0)],[some [.sl true 5 L],some [.int .i64 c1],some [.int .i64 c2],some [.int .i64 c3],some [.int .i64 line],some [.int .i64 start],some [.int .i64 at_]]⟩=K .normal ⟨[(0,.func (.yield l) [] []),(1,.cst (.str s)),(3,.ptr 4 0),(4,.ptr 5 0),(5,.ptr 6 0),(8,.func (.func 251) [] [.ptr 4 0,.ptr 6 0,.ptr 5 0]),(37,.func (.func 251) [] [.ptr 4 0,.ptr 6 0,.ptr 5 0])],[some [.sl true 5 L],some [.int .i64 c1],some [.int .i64 c2],some [.int .i64 c3],some [.int .i64 line],some [.int .i64 start],some [.int .i64 at_]]⟩:=by kernel_rfl
def bIJ:Code:=qU Tryz.f249
def bIH:AE:=SS.ae 249 86
def bII:XE:=SS.xe SS.CC SS.LL bIH 7
def bIK:Code:=Code.sub [false,true,true,false,false,false,true,true,true,true,false,false] bIJ
theorem aN' (l:Nat) (K:AX->ASt->R) (s:ByteArray) (L:bSH) (c1:Int) (c2:Int) (c3:Int) (line:Int) (start:Int) (at_:Int):bH bII bIK K ⟨[(0,.func (.yield l) [] []),(1,.cst (.str s)),(3,.ptr 4 0),(4,.ptr 5 0),(5,.ptr 6 0),(8,.func (.func 251) [] [.ptr 4 0,.ptr 6 0,.ptr 5 0])],[some [.sl true 5 L],some [.int .i64 c1],some [.int .i64 c2],some [.int .i64 c3],some [.int .i64 line],some [.int .i64 start],some [.int .i64 at_]]⟩=K .normal ⟨[(0,.func (.yield l) [] []),(1,.cst (.str s)),(3,.ptr 4 0),(4,.ptr 5 0),(5,.ptr 6 0),(8,.func (.func 251) [] [.ptr 4 0,.ptr 6 0,.ptr 5 0]),(38,.int .i64 at_),(39,.str s),(40,.int .i64 (s.size:Int)),(41,.bool (at_==(s.size:Int)))],[some [.sl true 5 L],some [.int .i64 c1],some [.int .i64 c2],some [.int .i64 c3],some [.int .i64 line],some [.int .i64 start],some [.int .i64 at_]]⟩:=by kernel_rfl
def bIM:Code:=qU Tryz.f249
def bIL:AE:=SS.ae 249 86
def aO0:XE:=SS.xe SS.CC SS.LL bIL 7
def ZI:Code:=Code.sub [false,true,true,false,false,false,true,true,true,true,false,true,false,false] bIM
theorem bIN (l:Nat) (K:AX->ASt->R) (s:ByteArray) (L:bSH) (c1:Int) (c2:Int) (c3:Int) (line:Int) (start:Int) (at_:Int):ji aO0 false (opsOf ZI) (((opsOf ZI).toList.drop 0).take 4) (K .normal) ⟨[(0,.func (.yield l) [] []),(1,.cst (.str s)),(3,.ptr 4 0),(4,.ptr 5 0),(5,.ptr 6 0),(8,.func (.func 251) [] [.ptr 4 0,.ptr 6 0,.ptr 5 0])],[some [.sl true 5 L],some [.int .i64 c1],some [.int .i64 c2],some [.int .i64 c3],some [.int .i64 line],some [.int .i64 start],some [.int .i64 at_]]⟩=AQ SS.CC 251 [.agg [.int .i64 4,.str ⟨#[]⟩,.int .i64 0,.int .i64 0,.int .i64 0],.ptr 0 0,.ptr 1 0,.ptr 2 0] [some [.int .i64 line],some [.int .i64 at_],some [.int .i64 start]] fun r9 h10=>Jj r9 h10 fun n1 s2 n3 n4 n5 n6 n7 n8=>K .normal ⟨[(0,.func (.yield l) [] []),(1,.cst (.str s)),(3,.ptr 4 0),(4,.ptr 5 0),(5,.ptr 6 0),(8,.func (.func 251) [] [.ptr 4 0,.ptr 6 0,.ptr 5 0]),(42,.func (.yield l) [] []),(43,.func (.func 251) [] [.ptr 4 0,.ptr 6 0,.ptr 5 0]),(44,.agg [.int .i64 4,.str ⟨#[]⟩,.int .i64 0,.int .i64 0,.int .i64 0]),(45,.agg [.int .i64 n1,.str s2,.int .i64 n3,.int .i64 n4,.int .i64 n5])],[some [.sl true 5 L],some [.int .i64 c1],some [.int .i64 c2],some [.int .i64 c3],some [.int .i64 n6],some [.int .i64 n8],some [.int .i64 n7]]⟩:=by kernel_rfl
def bIQ:Code:=qU Tryz.f249
def bIO:AE:=SS.ae 249 86
def bIP:XE:=SS.xe SS.CC SS.LL bIO 7
def bIR:Code:=Code.sub [false,true,true,false,false,false,true,true,true,true,true,false] bIQ
theorem bIS (l:Nat) (K:AX->ASt->R) (s:ByteArray) (L:bSH) (c1:Int) (c2:Int) (c3:Int) (line:Int) (start:Int) (at_:Int):bH bIP bIR K ⟨[(0,.func (.yield l) [] []),(1,.cst (.str s)),(3,.ptr 4 0),(4,.ptr 5 0),(5,.ptr 6 0),(8,.func (.func 251) [] [.ptr 4 0,.ptr 6 0,.ptr 5 0])],[some [.sl true 5 L],some [.int .i64 c1],some [.int .i64 c2],some [.int .i64 c3],some [.int .i64 line],some [.int .i64 start],some [.int .i64 at_]]⟩=K .normal ⟨[(0,.func (.yield l) [] []),(1,.cst (.str s)),(3,.ptr 4 0),(4,.ptr 5 0),(5,.ptr 6 0),(8,.func (.func 251) [] [.ptr 4 0,.ptr 6 0,.ptr 5 0]),(9,.func (.func 252) [] [])],[some [.sl true 5 L],some [.int .i64 c1],some [.int .i64 c2],some [.int .i64 c3],some [.int .i64 line],some [.int .i64 start],some [.int .i64 at_]]⟩:=by kernel_rfl
def bIV:Code:=qU Tryz.f249
def bIT:AE:=SS.ae 249 86
def bIU:XE:=SS.xe SS.CC SS.LL bIT 7
def bIW:Code:=Code.sub [false,true,true,false,false,false,true,true,true,true,true,true,true,false] bIV
theorem bIX (l:Nat) (K:AX->ASt->R) (s:ByteArray) (L:bSH) (c1:Int) (c2:Int) (c3:Int) (line:Int) (start:Int) (at_:Int):bH bIU bIW K ⟨[(0,.func (.yield l) [] []),(1,.cst (.str s)),(3,.ptr 4 0),(4,.ptr 5 0),(5,.ptr 6 0),(8,.func (.func 251) [] [.ptr 4 0,.ptr 6 0,.ptr 5 0]),(9,.func (.func 252) [] [])],[some [.sl true 5 L],some [.int .i64 c1],some [.int .i64 c2],some [.int .i64 c3],some [.int .i64 line],some [.int .i64 start],some [.int .i64 at_]]⟩=chk (decide (0<=at_)&&decide (at_<=(s.size:Int))) (jF SS.CC 252 [.str (s.extract at_.toNat s.size)] fun r7=>Ed r7 fun n1 s2 n3 n4 n5 n6=>K .normal ⟨[(0,.func (.yield l) [] []),(1,.cst (.str s)),(3,.ptr 4 0),(4,.ptr 5 0),(5,.ptr 6 0),(8,.func (.func 251) [] [.ptr 4 0,.ptr 6 0,.ptr 5 0]),(9,.func (.func 252) [] []),(12,.ptr 7 0),(13,.int .i64 n6),(62,.tuple [.agg [.int .i64 n1,.str s2,.int .i64 n3,.int .i64 n4,.int .i64 n5],.int .i64 n6]),(63,.func (.func 252) [] []),(64,.str s),(65,.int .i64 at_),(66,.str (s.extract at_.toNat s.size)),(67,.tuple [.agg [.int .i64 n1,.str s2,.int .i64 n3,.int .i64 n4,.int .i64 n5],.int .i64 n6]),(68,.agg [.int .i64 n1,.str s2,.int .i64 n3,.int .i64 n4,.int .i64 n5]),(69,.int .i64 n6)],[some [.sl true 5 L],some [.int .i64 c1],some [.int .i64 c2],some [.int .i64 c3],some [.int .i64 line],some [.int .i64 start],some [.int .i64 at_],some [.int .i64 n1,.str s2,.int .i64 n3,.int .i64 n4,.int .i64 n5]]⟩):=by kernel_rfl
def bI':Code:=qU Tryz.f249
def bIY:AE:=SS.ae 249 86
def bIZ:XE:=SS.xe SS.CC SS.LL bIY 7
def bJ0:Code:=Code.sub [false,true,true,false,false,false,true,true,true,true,true,true,true,false] bI'
theorem bJ1 (l:Nat) (K:AX->ASt->R) (s:ByteArray) (L:bSH) (c1:Int) (c2:Int) (c3:Int) (line:Int) (start:Int) (at_:Int):bH bIZ bJ0 K ⟨[(0,.func (.yield l) [] []),(1,.cst (.str s)),(3,.ptr 4 0),(4,.ptr 5 0),(5,.ptr 6 0),(8,.func (.func 251) [] [.ptr 4 0,.ptr 6 0,.ptr 5 0]),(9,.func (.func 304) [] [])],[some [.sl true 5 L],some [.int .i64 c1],some [.int .i64 c2],some [.int .i64 c3],some [.int .i64 line],some [.int .i64 start],some [.int .i64 at_]]⟩=chk (decide (0<=at_)&&decide (at_<=(s.size:Int))) (jF SS.CC 304 [.str (s.extract at_.toNat s.size)] fun r7=>Ed r7 fun n1 s2 n3 n4 n5 n6=>K .normal ⟨[(0,.func (.yield l) [] []),(1,.cst (.str s)),(3,.ptr 4 0),(4,.ptr 5 0),(5,.ptr 6 0),(8,.func (.func 251) [] [.ptr 4 0,.ptr 6 0,.ptr 5 0]),(9,.func (.func 304) [] []),(12,.ptr 7 0),(13,.int .i64 n6),(62,.tuple [.agg [.int .i64 n1,.str s2,.int .i64 n3,.int .i64 n4,.int .i64 n5],.int .i64 n6]),(63,.func (.func 304) [] []),(64,.str s),(65,.int .i64 at_),(66,.str (s.extract at_.toNat s.size)),(67,.tuple [.agg [.int .i64 n1,.str s2,.int .i64 n3,.int .i64 n4,.int .i64 n5],.int .i64 n6]),(68,.agg [.int .i64 n1,.str s2,.int .i64 n3,.int .i64 n4,.int .i64 n5]),(69,.int .i64 n6)],[some [.sl true 5 L],some [.int .i64 c1],some [.int .i64 c2],some [.int .i64 c3],some [.int .i64 line],some [.int .i64 start],some [.int .i64 at_],some [.int .i64 n1,.str s2,.int .i64 n3,.int .i64 n4,.int .i64 n5]]⟩):=by kernel_rfl
def bJ4:Code:=qU Tryz.f249
def bJ2:AE:=SS.ae 249 86
def bJ3:XE:=SS.xe SS.CC SS.LL bJ2 7
def bJ5:Code:=Code.sub [false,true,true,false,false,false,true,true,true,true,true,true,true,false] bJ4
theorem bJ6 (l:Nat) (K:AX->ASt->R) (s:ByteArray) (L:bSH) (c1:Int) (c2:Int) (c3:Int) (line:Int) (start:Int) (at_:Int):bH bJ3 bJ5 K ⟨[(0,.func (.yield l) [] []),(1,.cst (.str s)),(3,.ptr 4 0),(4,.ptr 5 0),(5,.ptr 6 0),(8,.func (.func 251) [] [.ptr 4 0,.ptr 6 0,.ptr 5 0]),(9,.func (.func 306) [] [])],[some [.sl true 5 L],some [.int .i64 c1],some [.int .i64 c2],some [.int .i64 c3],some [.int .i64 line],some [.int .i64 start],some [.int .i64 at_]]⟩=chk (decide (0<=at_)&&decide (at_<=(s.size:Int))) (jF SS.CC 306 [.str (s.extract at_.toNat s.size)] fun r7=>Ed r7 fun n1 s2 n3 n4 n5 n6=>K .normal ⟨[(0,.func (.yield l) [] []),(1,.cst (.str s)),(3,.ptr 4 0),(4,.ptr 5 0),(5,.ptr 6 0),(8,.func (.func 251) [] [.ptr 4 0,.ptr 6 0,.ptr 5 0]),(9,.func (.func 306) [] []),(12,.ptr 7 0),(13,.int .i64 n6),(62,.tuple [.agg [.int .i64 n1,.str s2,.int .i64 n3,.int .i64 n4,.int .i64 n5],.int .i64 n6]),(63,.func (.func 306) [] []),(64,.str s),(65,.int .i64 at_),(66,.str (s.extract at_.toNat s.size)),(67,.tuple [.agg [.int .i64 n1,.str s2,.int .i64 n3,.int .i64 n4,.int .i64 n5],.int .i64 n6]),(68,.agg [.int .i64 n1,.str s2,.int .i64 n3,.int .i64 n4,.int .i64 n5]),(69,.int .i64 n6)],[some [.sl true 5 L],some [.int .i64 c1],some [.int .i64 c2],some [.int .i64 c3],some [.int .i64 line],some [.int .i64 start],some [.int .i64 at_],some [.int .i64 n1,.str s2,.int .i64 n3,.int .i64 n4,.int .i64 n5]]⟩):=by kernel_rfl
def RL:bSH := [.agg [.func (.func 303) [] [],.func (.func 304) [] []],.agg [.func (.func 305) [] [],.func (.func 306) [] []]]
theorem c62:SS.CC 253 [] []=kZ (.sl false 2 RL):=b2V
def a7D:Code:=Code.sub [false,true,true,false,false,false,true,true,true,true,true,true,false] iH
def aO2:Code:=Code.sub [false,true,true,false,false,false,true,true,true,true,true,true,false,true,false,false] iH
abbrev mG:PV := .func (.func 251) [] [.ptr 4 0,.ptr 6 0,.ptr 5 0]
abbrev kL (L:bSH) (c1 c2 c3 line start at_:Int):aI := [some [.sl true 5 L],some [.int .i64 c1],some [.int .i64 c2],some [.int .i64 c3],some [.int .i64 line],some [.int .i64 start],some [.int .i64 at_]]
def L8 (l:Nat) (K:AX->ASt->R) (L:bSH) (c1 c2 c3:Int) (s:ByteArray) (line start at_:Int) (f9:Nat) (i:Int):R :=SS.LL KU 7 [0,1,3,4,5,8,9,47,48,49] 7 aO2 (aj 4 K) ⟨[(0,.func (.yield l) [] []),(1,.cst (.str s)),(3,.ptr 4 0),(4,.ptr 5 0),(5,.ptr 6 0),(8,mG),(9,.func (.func f9) [] []),(47,.sl false 2 RL),(48,.int .i64 (RL.length:Int)),(49,.int .i64 i)],kL L c1 c2 c3 line start at_⟩
theorem aS6 (l:Nat) (K:AX->ASt->R) (L:bSH) (c1 c2 c3:Int) (s:ByteArray) (line start at_:Int) :
 bH Ap a7D K ⟨[(0,.func (.yield l) [] []),(1,.cst (.str s)),(3,.ptr 4 0),(4,.ptr 5 0),(5,.ptr 6 0),(8,mG),(9,.func (.func 252) [] [])],kL L c1 c2 c3 line start at_⟩=L8 l K L c1 c2 c3 s line start at_ 252 0:=by
 have:bH Ap a7D K ⟨[(0,.func (.yield l) [] []),(1,.cst (.str s)),(3,.ptr 4 0),(4,.ptr 5 0),(5,.ptr 6 0),(8,mG),(9,.func (.func 252) [] [])],kL L c1 c2 c3 line start at_⟩=jF SS.CC 253 [] fun r2=>vL false 2 r2 fun l1=>SS.LL KU 7 [0,1,3,4,5,8,9,47,48,49] 7 aO2 (aj 4 K) ⟨[(0,.func (.yield l) [] []),(1,.cst (.str s)),(3,.ptr 4 0),(4,.ptr 5 0),(5,.ptr 6 0),(8,mG),(9,.func (.func 252) [] []),(47,.sl false 2 l1),(48,.int .i64 (l1.length:Int)),(49,.int .i64 0)],kL L c1 c2 c3 line start at_⟩:=by kernel_rfl
 rw[this,oZ c62,a01]; rfl
theorem aS5 (l:Nat) (K:AX->ASt->R) (L:bSH) (c1 c2 c3:Int) (s:ByteArray) (line start at_:Int) (f9:Nat):L8 l K L c1 c2 c3 s line start at_ f9 0=vz s at_ fun c=>jF SS.CC 303 [.int .u8 c] fun r=>vB r fun b=>aA b (L8 l K L c1 c2 c3 s line start at_ 304 1) (L8 l K L c1 c2 c3 s line start at_ f9 1):=(DV dZ (by decide) (by kernel_rfl) (by kernel_rfl)).trans (by kernel_rfl)
theorem aBY (l:Nat) (K:AX->ASt->R) (L:bSH) (c1 c2 c3:Int) (s:ByteArray) (line start at_:Int) (f9:Nat):L8 l K L c1 c2 c3 s line start at_ f9 1=vz s at_ fun c=>jF SS.CC 305 [.int .u8 c] fun r=>vB r fun b=>aA b (L8 l K L c1 c2 c3 s line start at_ 306 2) (L8 l K L c1 c2 c3 s line start at_ f9 2):=(DV dZ (by decide) (by kernel_rfl) (by kernel_rfl)).trans (by kernel_rfl)
theorem Vd (l:Nat) (K:AX->ASt->R) (L:bSH) (c1 c2 c3:Int) (s:ByteArray) (line start at_:Int) (f9:Nat):L8 l K L c1 c2 c3 s line start at_ f9 2=K .normal ⟨[(0,.func (.yield l) [] []),(1,.cst (.str s)),(3,.ptr 4 0),(4,.ptr 5 0),(5,.ptr 6 0),(8,mG),(9,.func (.func f9) [] []),(47,.sl false 2 RL),(48,.int .i64 (RL.length:Int)),(49,.int .i64 2),(50,.bool false)],kL L c1 c2 c3 line start at_⟩:=(DV dZ (by decide) (by kernel_rfl) (by kernel_rfl)).trans (by kernel_rfl)
end Go.Proofs.YtcdceiloganlnaaGreatDoor
namespace Go.Proofs.YtcdceiloganlnaaGreatDoor
open Go.RowKit
set_option maxRecDepth 1000000
def wM:Code:=qU Tryz.f99
def lI:AE := { SS.ae 99 27 with vars := [2,3,4,5,6,7,13,14] }
def bHW:Code:=qU Tryz.f99
def bHV:AE := { SS.ae 99 27 with vars := [2,3,4,5,6,7,13,14] }
def a6Z:XE:=SS.xe SS.CC SS.LL bHV 7
def a7A:Code:=Code.sub [true,true,false,true,false,true] bHW
theorem bHX (l:Nat) (K:AX->ASt->R) (e:Int) (k:Int) (t:ByteArray) (v:Int) (ln:Int) (cl:Int) (L:bSH) (c1:Int) (c2:Int) (c3:Int) (line:Int) (start:Int) (at_:Int):bH a6Z a7A K ⟨[(2,.ptr 0 0),(3,.ptr 1 0),(4,.ptr 2 0),(5,.ptr 3 0),(6,.ptr 7 0),(7,.int .i64 e),(13,.agg [.int .i64 k,.str t,.int .i64 v,.int .i64 ln,.int .i64 cl]),(14,.int .i64 e)],[some [.sl true 5 L],some [.int .i64 c1],some [.int .i64 c2],some [.int .i64 c3],some [.int .i64 line],some [.int .i64 start],some [.int .i64 at_],some [.int .i64 k,.str t,.int .i64 v,.int .i64 ln,.int .i64 cl]]⟩=aA (e != 0) (K .ret ⟨[(2,.ptr 0 0),(3,.ptr 1 0),(4,.ptr 2 0),(5,.ptr 3 0),(6,.ptr 7 0),(7,.int .i64 e),(13,.agg [.int .i64 k,.str t,.int .i64 v,.int .i64 ln,.int .i64 cl]),(14,.int .i64 e),(17,.ptr 7 3),(18,.int .i64 ln),(19,.ptr 7 4),(20,.int .i64 cl),(21,.int .i64 e)],[some [.sl true 0 []],some [.int .i64 ln],some [.int .i64 cl],some [.int .i64 e],some [.int .i64 line],some [.int .i64 start],some [.int .i64 at_],some [.int .i64 k,.str t,.int .i64 v,.int .i64 ln,.int .i64 cl]]⟩) (chk (decide (L.length+1<=aQ)) (K .normal ⟨[(2,.ptr 0 0),(3,.ptr 1 0),(4,.ptr 2 0),(5,.ptr 3 0),(6,.ptr 7 0),(7,.int .i64 e),(13,.agg [.int .i64 k,.str t,.int .i64 v,.int .i64 ln,.int .i64 cl]),(14,.int .i64 e),(22,.sl false 5 L),(23,.agg [.int .i64 k,.str t,.int .i64 v,.int .i64 ln,.int .i64 cl]),(24,.sl true 5 [.agg [.int .i64 k,.str t,.int .i64 v,.int .i64 ln,.int .i64 cl]]),(25,.sl false 5 (L ++ [.agg [.int .i64 k,.str t,.int .i64 v,.int .i64 ln,.int .i64 cl]]))],[some [.sl true 5 (L ++ [.agg [.int .i64 k,.str t,.int .i64 v,.int .i64 ln,.int .i64 cl]])],some [.int .i64 c1],some [.int .i64 c2],some [.int .i64 c3],some [.int .i64 line],some [.int .i64 start],some [.int .i64 at_],some [.int .i64 k,.str t,.int .i64 v,.int .i64 ln,.int .i64 cl]]⟩)):=(show bH a6Z a7A K ⟨[(2,.ptr 0 0),(3,.ptr 1 0),(4,.ptr 2 0),(5,.ptr 3 0),(6,.ptr 7 0),(7,.int .i64 e),(13,.agg [.int .i64 k,.str t,.int .i64 v,.int .i64 ln,.int .i64 cl]),(14,.int .i64 e)],[some [.sl true 5 L],some [.int .i64 c1],some [.int .i64 c2],some [.int .i64 c3],some [.int .i64 line],some [.int .i64 start],some [.int .i64 at_],some [.int .i64 k,.str t,.int .i64 v,.int .i64 ln,.int .i64 cl]]⟩=aA (e != 0) (bn (bn (K .ret ⟨[(2,.ptr 0 0),(3,.ptr 1 0),(4,.ptr 2 0),(5,.ptr 3 0),(6,.ptr 7 0),(7,.int .i64 e),(13,.agg [.int .i64 k,.str t,.int .i64 v,.int .i64 ln,.int .i64 cl]),(14,.int .i64 e),(17,.ptr 7 3),(18,.int .i64 ln),(19,.ptr 7 4),(20,.int .i64 cl),(21,.int .i64 e)],[some [.sl true 0 []],some [.int .i64 ln],some [.int .i64 cl],some [.int .i64 e],some [.int .i64 line],some [.int .i64 start],some [.int .i64 at_],some [.int .i64 k,.str t,.int .i64 v,.int .i64 ln,.int .i64 cl]]⟩) (bn (K .ret ⟨[(2,.ptr 0 0),(3,.ptr 1 0),(4,.ptr 2 0),(5,.ptr 3 0),(6,.ptr 7 0),(7,.int .i64 e),(13,.agg [.int .i64 k,.str t,.int .i64 v,.int .i64 ln,.int .i64 cl]),(14,.int .i64 e),(17,.ptr 7 3),(18,.int .i64 ln),(19,.ptr 7 4),(20,.int .i64 cl),(21,.int .i64 e)],[some [.sl true 0 []],some [.int .i64 ln],some [.int .i64 cl],some [.int .i64 e],some [.int .i64 line],some [.int .i64 start],some [.int .i64 at_],some [.int .i64 k,.str t,.int .i64 v,.int .i64 ln,.int .i64 cl]]⟩) (K .ret ⟨[(2,.ptr 0 0),(3,.ptr 1 0),(4,.ptr 2 0),(5,.ptr 3 0),(6,.ptr 7 0),(7,.int .i64 e),(13,.agg [.int .i64 k,.str t,.int .i64 v,.int .i64 ln,.int .i64 cl]),(14,.int .i64 e),(17,.ptr 7 3),(18,.int .i64 ln),(19,.ptr 7 4),(20,.int .i64 cl),(21,.int .i64 e)],[some [.sl true 0 []],some [.int .i64 ln],some [.int .i64 cl],some [.int .i64 e],some [.int .i64 line],some [.int .i64 start],some [.int .i64 at_],some [.int .i64 k,.str t,.int .i64 v,.int .i64 ln,.int .i64 cl]]⟩))) (bn (bn (K .ret ⟨[(2,.ptr 0 0),(3,.ptr 1 0),(4,.ptr 2 0),(5,.ptr 3 0),(6,.ptr 7 0),(7,.int .i64 e),(13,.agg [.int .i64 k,.str t,.int .i64 v,.int .i64 ln,.int .i64 cl]),(14,.int .i64 e),(17,.ptr 7 3),(18,.int .i64 ln),(19,.ptr 7 4),(20,.int .i64 cl),(21,.int .i64 e)],[some [.sl true 0 []],some [.int .i64 ln],some [.int .i64 cl],some [.int .i64 e],some [.int .i64 line],some [.int .i64 start],some [.int .i64 at_],some [.int .i64 k,.str t,.int .i64 v,.int .i64 ln,.int .i64 cl]]⟩) (K .ret ⟨[(2,.ptr 0 0),(3,.ptr 1 0),(4,.ptr 2 0),(5,.ptr 3 0),(6,.ptr 7 0),(7,.int .i64 e),(13,.agg [.int .i64 k,.str t,.int .i64 v,.int .i64 ln,.int .i64 cl]),(14,.int .i64 e),(17,.ptr 7 3),(18,.int .i64 ln),(19,.ptr 7 4),(20,.int .i64 cl),(21,.int .i64 e)],[some [.sl true 0 []],some [.int .i64 ln],some [.int .i64 cl],some [.int .i64 e],some [.int .i64 line],some [.int .i64 start],some [.int .i64 at_],some [.int .i64 k,.str t,.int .i64 v,.int .i64 ln,.int .i64 cl]]⟩)) (bn (K .ret ⟨[(2,.ptr 0 0),(3,.ptr 1 0),(4,.ptr 2 0),(5,.ptr 3 0),(6,.ptr 7 0),(7,.int .i64 e),(13,.agg [.int .i64 k,.str t,.int .i64 v,.int .i64 ln,.int .i64 cl]),(14,.int .i64 e),(17,.ptr 7 3),(18,.int .i64 ln),(19,.ptr 7 4),(20,.int .i64 cl),(21,.int .i64 e)],[some [.sl true 0 []],some [.int .i64 ln],some [.int .i64 cl],some [.int .i64 e],some [.int .i64 line],some [.int .i64 start],some [.int .i64 at_],some [.int .i64 k,.str t,.int .i64 v,.int .i64 ln,.int .i64 cl]]⟩) (K .ret ⟨[(2,.ptr 0 0),(3,.ptr 1 0),(4,.ptr 2 0),(5,.ptr 3 0),(6,.ptr 7 0),(7,.int .i64 e),(13,.agg [.int .i64 k,.str t,.int .i64 v,.int .i64 ln,.int .i64 cl]),(14,.int .i64 e),(17,.ptr 7 3),(18,.int .i64 ln),(19,.ptr 7 4),(20,.int .i64 cl),(21,.int .i64 e)],[some [.sl true 0 []],some [.int .i64 ln],some [.int .i64 cl],some [.int .i64 e],some [.int .i64 line],some [.int .i64 start],some [.int .i64 at_],some [.int .i64 k,.str t,.int .i64 v,.int .i64 ln,.int .i64 cl]]⟩)))) (chk (decide (L.length+1<=aQ)) (K .normal ⟨[(2,.ptr 0 0),(3,.ptr 1 0),(4,.ptr 2 0),(5,.ptr 3 0),(6,.ptr 7 0),(7,.int .i64 e),(13,.agg [.int .i64 k,.str t,.int .i64 v,.int .i64 ln,.int .i64 cl]),(14,.int .i64 e),(22,.sl false 5 L),(23,.agg [.int .i64 k,.str t,.int .i64 v,.int .i64 ln,.int .i64 cl]),(24,.sl true 5 [.agg [.int .i64 k,.str t,.int .i64 v,.int .i64 ln,.int .i64 cl]]),(25,.sl false 5 (L ++ [.agg [.int .i64 k,.str t,.int .i64 v,.int .i64 ln,.int .i64 cl]]))],[some [.sl true 5 (L ++ [.agg [.int .i64 k,.str t,.int .i64 v,.int .i64 ln,.int .i64 cl]])],some [.int .i64 c1],some [.int .i64 c2],some [.int .i64 c3],some [.int .i64 line],some [.int .i64 start],some [.int .i64 at_],some [.int .i64 k,.str t,.int .i64 v,.int .i64 ln,.int .i64 cl]]⟩)) from by kernel_rfl).trans (by simp only[Gu])
def bHZ:Code:=qU Tryz.f99
def bHY:AE := { SS.ae 99 27 with vars := [2,3,4,5,6,7,13,14] }
def a7B:XE:=SS.xe SS.CC SS.LL bHY 8
def a7C:Code:=Code.sub [true,true,false,true,false,true] bHZ
theorem bH' (l:Nat) (K:AX->ASt->R) (e:Int) (k:Int) (t:ByteArray) (v:Int) (ln:Int) (cl:Int) (L:bSH) (c1:Int) (c2:Int) (c3:Int) (line:Int) (start:Int) (at_:Int) (x1:Int) (x2:ByteArray) (x3:Int) (x4:Int) (x5:Int):bH a7B a7C K ⟨[(2,.ptr 0 0),(3,.ptr 1 0),(4,.ptr 2 0),(5,.ptr 3 0),(6,.ptr 8 0),(7,.int .i64 e),(13,.agg [.int .i64 k,.str t,.int .i64 v,.int .i64 ln,.int .i64 cl]),(14,.int .i64 e)],[some [.sl true 5 L],some [.int .i64 c1],some [.int .i64 c2],some [.int .i64 c3],some [.int .i64 line],some [.int .i64 start],some [.int .i64 at_],some [.int .i64 x1,.str x2,.int .i64 x3,.int .i64 x4,.int .i64 x5],some [.int .i64 k,.str t,.int .i64 v,.int .i64 ln,.int .i64 cl]]⟩=aA (e != 0) (K .ret ⟨[(2,.ptr 0 0),(3,.ptr 1 0),(4,.ptr 2 0),(5,.ptr 3 0),(6,.ptr 8 0),(7,.int .i64 e),(13,.agg [.int .i64 k,.str t,.int .i64 v,.int .i64 ln,.int .i64 cl]),(14,.int .i64 e),(17,.ptr 8 3),(18,.int .i64 ln),(19,.ptr 8 4),(20,.int .i64 cl),(21,.int .i64 e)],[some [.sl true 0 []],some [.int .i64 ln],some [.int .i64 cl],some [.int .i64 e],some [.int .i64 line],some [.int .i64 start],some [.int .i64 at_],some [.int .i64 x1,.str x2,.int .i64 x3,.int .i64 x4,.int .i64 x5],some [.int .i64 k,.str t,.int .i64 v,.int .i64 ln,.int .i64 cl]]⟩) (chk (decide (L.length+1<=aQ)) (K .normal ⟨[(2,.ptr 0 0),(3,.ptr 1 0),(4,.ptr 2 0),(5,.ptr 3 0),(6,.ptr 8 0),(7,.int .i64 e),(13,.agg [.int .i64 k,.str t,.int .i64 v,.int .i64 ln,.int .i64 cl]),(14,.int .i64 e),(22,.sl false 5 L),(23,.agg [.int .i64 k,.str t,.int .i64 v,.int .i64 ln,.int .i64 cl]),(24,.sl true 5 [.agg [.int .i64 k,.str t,.int .i64 v,.int .i64 ln,.int .i64 cl]]),(25,.sl false 5 (L ++ [.agg [.int .i64 k,.str t,.int .i64 v,.int .i64 ln,.int .i64 cl]]))],[some [.sl true 5 (L ++ [.agg [.int .i64 k,.str t,.int .i64 v,.int .i64 ln,.int .i64 cl]])],some [.int .i64 c1],some [.int .i64 c2],some [.int .i64 c3],some [.int .i64 line],some [.int .i64 start],some [.int .i64 at_],some [.int .i64 x1,.str x2,.int .i64 x3,.int .i64 x4,.int .i64 x5],some [.int .i64 k,.str t,.int .i64 v,.int .i64 ln,.int .i64 cl]]⟩)):=(show bH a7B a7C K ⟨[(2,.ptr 0 0),(3,.ptr 1 0),(4,.ptr 2 0),(5,.ptr 3 0),(6,.ptr 8 0),(7,.int .i64 e),(13,.agg [.int .i64 k,.str t,.int .i64 v,.int .i64 ln,.int .i64 cl]),(14,.int .i64 e)],[some [.sl true 5 L],some [.int .i64 c1],some [.int .i64 c2],some [.int .i64 c3],some [.int .i64 line],some [.int .i64 start],some [.int .i64 at_],some [.int .i64 x1,.str x2,.int .i64 x3,.int .i64 x4,.int .i64 x5],some [.int .i64 k,.str t,.int .i64 v,.int .i64 ln,.int .i64 cl]]⟩=aA (e != 0) (bn (bn (K .ret ⟨[(2,.ptr 0 0),(3,.ptr 1 0),(4,.ptr 2 0),(5,.ptr 3 0),(6,.ptr 8 0),(7,.int .i64 e),(13,.agg [.int .i64 k,.str t,.int .i64 v,.int .i64 ln,.int .i64 cl]),(14,.int .i64 e),(17,.ptr 8 3),(18,.int .i64 ln),(19,.ptr 8 4),(20,.int .i64 cl),(21,.int .i64 e)],[some [.sl true 0 []],some [.int .i64 ln],some [.int .i64 cl],some [.int .i64 e],some [.int .i64 line],some [.int .i64 start],some [.int .i64 at_],some [.int .i64 x1,.str x2,.int .i64 x3,.int .i64 x4,.int .i64 x5],some [.int .i64 k,.str t,.int .i64 v,.int .i64 ln,.int .i64 cl]]⟩) (bn (K .ret ⟨[(2,.ptr 0 0),(3,.ptr 1 0),(4,.ptr 2 0),(5,.ptr 3 0),(6,.ptr 8 0),(7,.int .i64 e),(13,.agg [.int .i64 k,.str t,.int .i64 v,.int .i64 ln,.int .i64 cl]),(14,.int .i64 e),(17,.ptr 8 3),(18,.int .i64 ln),(19,.ptr 8 4),(20,.int .i64 cl),(21,.int .i64 e)],[some [.sl true 0 []],some [.int .i64 ln],some [.int .i64 cl],some [.int .i64 e],some [.int .i64 line],some [.int .i64 start],some [.int .i64 at_],some [.int .i64 x1,.str x2,.int .i64 x3,.int .i64 x4,.int .i64 x5],some [.int .i64 k,.str t,.int .i64 v,.int .i64 ln,.int .i64 cl]]⟩) (K .ret ⟨[(2,.ptr 0 0),(3,.ptr 1 0),(4,.ptr 2 0),(5,.ptr 3 0),(6,.ptr 8 0),(7,.int .i64 e),(13,.agg [.int .i64 k,.str t,.int .i64 v,.int .i64 ln,.int .i64 cl]),(14,.int .i64 e),(17,.ptr 8 3),(18,.int .i64 ln),(19,.ptr 8 4),(20,.int .i64 cl),(21,.int .i64 e)],[some [.sl true 0 []],some [.int .i64 ln],some [.int .i64 cl],some [.int .i64 e],some [.int .i64 line],some [.int .i64 start],some [.int .i64 at_],some [.int .i64 x1,.str x2,.int .i64 x3,.int .i64 x4,.int .i64 x5],some [.int .i64 k,.str t,.int .i64 v,.int .i64 ln,.int .i64 cl]]⟩))) (bn (bn (K .ret ⟨[(2,.ptr 0 0),(3,.ptr 1 0),(4,.ptr 2 0),(5,.ptr 3 0),(6,.ptr 8 0),(7,.int .i64 e),(13,.agg [.int .i64 k,.str t,.int .i64 v,.int .i64 ln,.int .i64 cl]),(14,.int .i64 e),(17,.ptr 8 3),(18,.int .i64 ln),(19,.ptr 8 4),(20,.int .i64 cl),(21,.int .i64 e)],[some [.sl true 0 []],some [.int .i64 ln],some [.int .i64 cl],some [.int .i64 e],some [.int .i64 line],some [.int .i64 start],some [.int .i64 at_],some [.int .i64 x1,.str x2,.int .i64 x3,.int .i64 x4,.int .i64 x5],some [.int .i64 k,.str t,.int .i64 v,.int .i64 ln,.int .i64 cl]]⟩) (K .ret ⟨[(2,.ptr 0 0),(3,.ptr 1 0),(4,.ptr 2 0),(5,.ptr 3 0),(6,.ptr 8 0),(7,.int .i64 e),(13,.agg [.int .i64 k,.str t,.int .i64 v,.int .i64 ln,.int .i64 cl]),(14,.int .i64 e),(17,.ptr 8 3),(18,.int .i64 ln),(19,.ptr 8 4),(20,.int .i64 cl),(21,.int .i64 e)],[some [.sl true 0 []],some [.int .i64 ln],some [.int .i64 cl],some [.int .i64 e],some [.int .i64 line],some [.int .i64 start],some [.int .i64 at_],some [.int .i64 x1,.str x2,.int .i64 x3,.int .i64 x4,.int .i64 x5],some [.int .i64 k,.str t,.int .i64 v,.int .i64 ln,.int .i64 cl]]⟩)) (bn (K .ret ⟨[(2,.ptr 0 0),(3,.ptr 1 0),(4,.ptr 2 0),(5,.ptr 3 0),(6,.ptr 8 0),(7,.int .i64 e),(13,.agg [.int .i64 k,.str t,.int .i64 v,.int .i64 ln,.int .i64 cl]),(14,.int .i64 e),(17,.ptr 8 3),(18,.int .i64 ln),(19,.ptr 8 4),(20,.int .i64 cl),(21,.int .i64 e)],[some [.sl true 0 []],some [.int .i64 ln],some [.int .i64 cl],some [.int .i64 e],some [.int .i64 line],some [.int .i64 start],some [.int .i64 at_],some [.int .i64 x1,.str x2,.int .i64 x3,.int .i64 x4,.int .i64 x5],some [.int .i64 k,.str t,.int .i64 v,.int .i64 ln,.int .i64 cl]]⟩) (K .ret ⟨[(2,.ptr 0 0),(3,.ptr 1 0),(4,.ptr 2 0),(5,.ptr 3 0),(6,.ptr 8 0),(7,.int .i64 e),(13,.agg [.int .i64 k,.str t,.int .i64 v,.int .i64 ln,.int .i64 cl]),(14,.int .i64 e),(17,.ptr 8 3),(18,.int .i64 ln),(19,.ptr 8 4),(20,.int .i64 cl),(21,.int .i64 e)],[some [.sl true 0 []],some [.int .i64 ln],some [.int .i64 cl],some [.int .i64 e],some [.int .i64 line],some [.int .i64 start],some [.int .i64 at_],some [.int .i64 x1,.str x2,.int .i64 x3,.int .i64 x4,.int .i64 x5],some [.int .i64 k,.str t,.int .i64 v,.int .i64 ln,.int .i64 cl]]⟩)))) (chk (decide (L.length+1<=aQ)) (K .normal ⟨[(2,.ptr 0 0),(3,.ptr 1 0),(4,.ptr 2 0),(5,.ptr 3 0),(6,.ptr 8 0),(7,.int .i64 e),(13,.agg [.int .i64 k,.str t,.int .i64 v,.int .i64 ln,.int .i64 cl]),(14,.int .i64 e),(22,.sl false 5 L),(23,.agg [.int .i64 k,.str t,.int .i64 v,.int .i64 ln,.int .i64 cl]),(24,.sl true 5 [.agg [.int .i64 k,.str t,.int .i64 v,.int .i64 ln,.int .i64 cl]]),(25,.sl false 5 (L ++ [.agg [.int .i64 k,.str t,.int .i64 v,.int .i64 ln,.int .i64 cl]]))],[some [.sl true 5 (L ++ [.agg [.int .i64 k,.str t,.int .i64 v,.int .i64 ln,.int .i64 cl]])],some [.int .i64 c1],some [.int .i64 c2],some [.int .i64 c3],some [.int .i64 line],some [.int .i64 start],some [.int .i64 at_],some [.int .i64 x1,.str x2,.int .i64 x3,.int .i64 x4,.int .i64 x5],some [.int .i64 k,.str t,.int .i64 v,.int .i64 ln,.int .i64 cl]]⟩)) from by kernel_rfl).trans (by simp only[Gu])
def ES:Code:=Code.sub [true,true,false,true,false,false] wM
def Az:Code:=Code.sub [true,true,false,true,false,true] wM
theorem aPE:oC ES=true:=by kernel_rfl
theorem aPF:oC Az=true:=by kernel_rfl
theorem CE:Tryz.prog.follows .mixedOrders=true:=by kernel_rfl
theorem bLW (K:AX->ASt->R) (L:bSH) (c1 c2 c3 line start at_:Int) (k:Int) (t:ByteArray) (v ln cl e:Int):bH (SS.xe SS.CC SS.LL lI 7) ES K ⟨[(2,.ptr 0 0),(3,.ptr 1 0),(4,.ptr 2 0),(5,.ptr 3 0),(13,.agg [.int .i64 k,.str t,.int .i64 v,.int .i64 ln,.int .i64 cl]),(14,.int .i64 e)],[some [.sl true 5 L],some [.int .i64 c1],some [.int .i64 c2],some [.int .i64 c3],some [.int .i64 line],some [.int .i64 start],some [.int .i64 at_]]⟩=K .normal ⟨[(2,.ptr 0 0),(3,.ptr 1 0),(4,.ptr 2 0),(5,.ptr 3 0),(6,.ptr 7 0),(7,.int .i64 e),(13,.agg [.int .i64 k,.str t,.int .i64 v,.int .i64 ln,.int .i64 cl]),(14,.int .i64 e)],[some [.sl true 5 L],some [.int .i64 c1],some [.int .i64 c2],some [.int .i64 c3],some [.int .i64 line],some [.int .i64 start],some [.int .i64 at_],some [.int .i64 k,.str t,.int .i64 v,.int .i64 ln,.int .i64 cl]]⟩:=by kernel_rfl
def a9M (L:bSH) (c1 c2 c3 line start at_:Int) (k:Int) (t:ByteArray) (v ln cl e:Int):ASt:=⟨[(2,.ptr 0 0),(3,.ptr 1 0),(4,.ptr 2 0),(5,.ptr 3 0),(6,.ptr 7 0),(7,.int .i64 e),(13,.agg [.int .i64 k,.str t,.int .i64 v,.int .i64 ln,.int .i64 cl]),(14,.int .i64 e),(17,.ptr 7 3),(18,.int .i64 ln),(19,.ptr 7 4),(20,.int .i64 cl),(21,.int .i64 e)],[some [.sl true 0 []],some [.int .i64 ln],some [.int .i64 cl],some [.int .i64 e],some [.int .i64 line],some [.int .i64 start],some [.int .i64 at_],some [.int .i64 k,.str t,.int .i64 v,.int .i64 ln,.int .i64 cl]]⟩
def a9O (L:bSH) (c1 c2 c3 line start at_:Int) (k:Int) (t:ByteArray) (v ln cl e:Int):ASt:=⟨[(2,.ptr 0 0),(3,.ptr 1 0),(4,.ptr 2 0),(5,.ptr 3 0),(6,.ptr 7 0),(7,.int .i64 e),(13,.agg [.int .i64 k,.str t,.int .i64 v,.int .i64 ln,.int .i64 cl]),(14,.int .i64 e),(22,.sl false 5 L),(23,.agg [.int .i64 k,.str t,.int .i64 v,.int .i64 ln,.int .i64 cl]),(24,.sl true 5 [.agg [.int .i64 k,.str t,.int .i64 v,.int .i64 ln,.int .i64 cl]]),(25,.sl false 5 (L ++ [.agg [.int .i64 k,.str t,.int .i64 v,.int .i64 ln,.int .i64 cl]]))],[some [.sl true 5 (L ++ [.agg [.int .i64 k,.str t,.int .i64 v,.int .i64 ln,.int .i64 cl]])],some [.int .i64 c1],some [.int .i64 c2],some [.int .i64 c3],some [.int .i64 line],some [.int .i64 start],some [.int .i64 at_],some [.int .i64 k,.str t,.int .i64 v,.int .i64 ln,.int .i64 cl]]⟩
theorem aPC (K:AX->ASt->R) (L:bSH) (c1 c2 c3 line start at_:Int) (k:Int) (t:ByteArray) (v ln cl e:Int):bH (SS.xe SS.CC SS.LL lI 7) Az K ⟨[(2,.ptr 0 0),(3,.ptr 1 0),(4,.ptr 2 0),(5,.ptr 3 0),(6,.ptr 7 0),(7,.int .i64 e),(13,.agg [.int .i64 k,.str t,.int .i64 v,.int .i64 ln,.int .i64 cl]),(14,.int .i64 e)],[some [.sl true 5 L],some [.int .i64 c1],some [.int .i64 c2],some [.int .i64 c3],some [.int .i64 line],some [.int .i64 start],some [.int .i64 at_],some [.int .i64 k,.str t,.int .i64 v,.int .i64 ln,.int .i64 cl]]⟩=aA (e != 0) (K .ret (a9M L c1 c2 c3 line start at_ k t v ln cl e)) (chk (decide (L.length+1<=aQ)) (K .normal (a9O L c1 c2 c3 line start at_ k t v ln cl e))) :=(show bH (SS.xe SS.CC SS.LL lI 7) Az K ⟨[(2,.ptr 0 0),(3,.ptr 1 0),(4,.ptr 2 0),(5,.ptr 3 0),(6,.ptr 7 0),(7,.int .i64 e),(13,.agg [.int .i64 k,.str t,.int .i64 v,.int .i64 ln,.int .i64 cl]),(14,.int .i64 e)],[some [.sl true 5 L],some [.int .i64 c1],some [.int .i64 c2],some [.int .i64 c3],some [.int .i64 line],some [.int .i64 start],some [.int .i64 at_],some [.int .i64 k,.str t,.int .i64 v,.int .i64 ln,.int .i64 cl]]⟩=bH a6Z a7A K ⟨[(2,.ptr 0 0),(3,.ptr 1 0),(4,.ptr 2 0),(5,.ptr 3 0),(6,.ptr 7 0),(7,.int .i64 e),(13,.agg [.int .i64 k,.str t,.int .i64 v,.int .i64 ln,.int .i64 cl]),(14,.int .i64 e)],[some [.sl true 5 L],some [.int .i64 c1],some [.int .i64 c2],some [.int .i64 c3],some [.int .i64 line],some [.int .i64 start],some [.int .i64 at_],some [.int .i64 k,.str t,.int .i64 v,.int .i64 ln,.int .i64 cl]]⟩ from by kernel_rfl).trans (bHX 0 K e k t v ln cl L c1 c2 c3 line start at_)
theorem bLZ (L:bSH) (c1 c2 c3 line start at_:Int) (k:Int) (t:ByteArray) (v ln cl e:Int) (hL:L.length+1<=aQ):dF lI 7 ES (Dk (dF lI 7 Az fun ax Z'=>if e=0 then ax = .normal/\Z'=a9O L c1 c2 c3 line start at_ k t v ln cl e else ax = .ret/\Z'=a9M L c1 c2 c3 line start at_ k t v ln cl e) fun _ _=>False) ⟨[(2,.ptr 0 0),(3,.ptr 1 0),(4,.ptr 2 0),(5,.ptr 3 0),(13,.agg [.int .i64 k,.str t,.int .i64 v,.int .i64 ln,.int .i64 cl]),(14,.int .i64 e)],[some [.sl true 5 L],some [.int .i64 c1],some [.int .i64 c2],some [.int .i64 c3],some [.int .i64 line],some [.int .i64 start],some [.int .i64 at_]]⟩:=by
 have hC:o6 (SS.xe SS.CC SS.LL lI 7).E.P (SS.xe SS.CC SS.LL lI 7).C:=MC CE dZ Em;have hl:IE (SS.xe SS.CC SS.LL lI 7):=Ve CE dZ Em rfl;refine xJ ES (fun ax Z' h => ?_) (IX (X:=(SS.xe SS.CC SS.LL lI 7)) dZ.V dZ.W hC hl fun K=>bLW K L c1 c2 c3 line start at_ k t v ln cl e);obtain ⟨rfl,rfl⟩:=h;show dF lI 7 Az _ _;by_cases he:e=0
 .simp only[aJ he];refine IX (X:=(SS.xe SS.CC SS.LL lI 7)) dZ.V dZ.W hC hl fun K => ?_
  rw[aPC,show (e != 0)=false by simp[he],aC,aX (by simpa using hL)]
 .simp only[aK he];refine IX (X:=(SS.xe SS.CC SS.LL lI 7)) dZ.V dZ.W hC hl fun K => ?_
  rw[aPC,show (e != 0)=true by simp[he],aG]
theorem bLX (K:AX->ASt->R) (L:bSH) (c1 c2 c3 line start at_:Int) (x1:Int) (x2:ByteArray) (x3 x4 x5:Int) (k:Int) (t:ByteArray) (v ln cl e:Int):bH (SS.xe SS.CC SS.LL lI 8) ES K ⟨[(2,.ptr 0 0),(3,.ptr 1 0),(4,.ptr 2 0),(5,.ptr 3 0),(13,.agg [.int .i64 k,.str t,.int .i64 v,.int .i64 ln,.int .i64 cl]),(14,.int .i64 e)],[some [.sl true 5 L],some [.int .i64 c1],some [.int .i64 c2],some [.int .i64 c3],some [.int .i64 line],some [.int .i64 start],some [.int .i64 at_],some [.int .i64 x1,.str x2,.int .i64 x3,.int .i64 x4,.int .i64 x5]]⟩=K .normal ⟨[(2,.ptr 0 0),(3,.ptr 1 0),(4,.ptr 2 0),(5,.ptr 3 0),(6,.ptr 8 0),(7,.int .i64 e),(13,.agg [.int .i64 k,.str t,.int .i64 v,.int .i64 ln,.int .i64 cl]),(14,.int .i64 e)],[some [.sl true 5 L],some [.int .i64 c1],some [.int .i64 c2],some [.int .i64 c3],some [.int .i64 line],some [.int .i64 start],some [.int .i64 at_],some [.int .i64 x1,.str x2,.int .i64 x3,.int .i64 x4,.int .i64 x5],some [.int .i64 k,.str t,.int .i64 v,.int .i64 ln,.int .i64 cl]]⟩:=by kernel_rfl
def a9N (L:bSH) (c1 c2 c3 line start at_:Int) (x1:Int) (x2:ByteArray) (x3 x4 x5:Int) (k:Int) (t:ByteArray) (v ln cl e:Int):ASt:=⟨[(2,.ptr 0 0),(3,.ptr 1 0),(4,.ptr 2 0),(5,.ptr 3 0),(6,.ptr 8 0),(7,.int .i64 e),(13,.agg [.int .i64 k,.str t,.int .i64 v,.int .i64 ln,.int .i64 cl]),(14,.int .i64 e),(17,.ptr 8 3),(18,.int .i64 ln),(19,.ptr 8 4),(20,.int .i64 cl),(21,.int .i64 e)],[some [.sl true 0 []],some [.int .i64 ln],some [.int .i64 cl],some [.int .i64 e],some [.int .i64 line],some [.int .i64 start],some [.int .i64 at_],some [.int .i64 x1,.str x2,.int .i64 x3,.int .i64 x4,.int .i64 x5],some [.int .i64 k,.str t,.int .i64 v,.int .i64 ln,.int .i64 cl]]⟩
def a9P (L:bSH) (c1 c2 c3 line start at_:Int) (x1:Int) (x2:ByteArray) (x3 x4 x5:Int) (k:Int) (t:ByteArray) (v ln cl e:Int):ASt:=⟨[(2,.ptr 0 0),(3,.ptr 1 0),(4,.ptr 2 0),(5,.ptr 3 0),(6,.ptr 8 0),(7,.int .i64 e),(13,.agg [.int .i64 k,.str t,.int .i64 v,.int .i64 ln,.int .i64 cl]),(14,.int .i64 e),(22,.sl false 5 L),(23,.agg [.int .i64 k,.str t,.int .i64 v,.int .i64 ln,.int .i64 cl]),(24,.sl true 5 [.agg [.int .i64 k,.str t,.int .i64 v,.int .i64 ln,.int .i64 cl]]),(25,.sl false 5 (L ++ [.agg [.int .i64 k,.str t,.int .i64 v,.int .i64 ln,.int .i64 cl]]))],[some [.sl true 5 (L ++ [.agg [.int .i64 k,.str t,.int .i64 v,.int .i64 ln,.int .i64 cl]])],some [.int .i64 c1],some [.int .i64 c2],some [.int .i64 c3],some [.int .i64 line],some [.int .i64 start],some [.int .i64 at_],some [.int .i64 x1,.str x2,.int .i64 x3,.int .i64 x4,.int .i64 x5],some [.int .i64 k,.str t,.int .i64 v,.int .i64 ln,.int .i64 cl]]⟩
theorem aPD (K:AX->ASt->R) (L:bSH) (c1 c2 c3 line start at_:Int) (x1:Int) (x2:ByteArray) (x3 x4 x5:Int) (k:Int) (t:ByteArray) (v ln cl e:Int):bH (SS.xe SS.CC SS.LL lI 8) Az K ⟨[(2,.ptr 0 0),(3,.ptr 1 0),(4,.ptr 2 0),(5,.ptr 3 0),(6,.ptr 8 0),(7,.int .i64 e),(13,.agg [.int .i64 k,.str t,.int .i64 v,.int .i64 ln,.int .i64 cl]),(14,.int .i64 e)],[some [.sl true 5 L],some [.int .i64 c1],some [.int .i64 c2],some [.int .i64 c3],some [.int .i64 line],some [.int .i64 start],some [.int .i64 at_],some [.int .i64 x1,.str x2,.int .i64 x3,.int .i64 x4,.int .i64 x5],some [.int .i64 k,.str t,.int .i64 v,.int .i64 ln,.int .i64 cl]]⟩=aA (e != 0) (K .ret (a9N L c1 c2 c3 line start at_ x1 x2 x3 x4 x5 k t v ln cl e)) (chk (decide (L.length+1<=aQ)) (K .normal (a9P L c1 c2 c3 line start at_ x1 x2 x3 x4 x5 k t v ln cl e))) :=(show bH (SS.xe SS.CC SS.LL lI 8) Az K ⟨[(2,.ptr 0 0),(3,.ptr 1 0),(4,.ptr 2 0),(5,.ptr 3 0),(6,.ptr 8 0),(7,.int .i64 e),(13,.agg [.int .i64 k,.str t,.int .i64 v,.int .i64 ln,.int .i64 cl]),(14,.int .i64 e)],[some [.sl true 5 L],some [.int .i64 c1],some [.int .i64 c2],some [.int .i64 c3],some [.int .i64 line],some [.int .i64 start],some [.int .i64 at_],some [.int .i64 x1,.str x2,.int .i64 x3,.int .i64 x4,.int .i64 x5],some [.int .i64 k,.str t,.int .i64 v,.int .i64 ln,.int .i64 cl]]⟩=bH a7B a7C K ⟨[(2,.ptr 0 0),(3,.ptr 1 0),(4,.ptr 2 0),(5,.ptr 3 0),(6,.ptr 8 0),(7,.int .i64 e),(13,.agg [.int .i64 k,.str t,.int .i64 v,.int .i64 ln,.int .i64 cl]),(14,.int .i64 e)],[some [.sl true 5 L],some [.int .i64 c1],some [.int .i64 c2],some [.int .i64 c3],some [.int .i64 line],some [.int .i64 start],some [.int .i64 at_],some [.int .i64 x1,.str x2,.int .i64 x3,.int .i64 x4,.int .i64 x5],some [.int .i64 k,.str t,.int .i64 v,.int .i64 ln,.int .i64 cl]]⟩ from by kernel_rfl).trans (bH' 0 K e k t v ln cl L c1 c2 c3 line start at_ x1 x2 x3 x4 x5)
theorem bL' (L:bSH) (c1 c2 c3 line start at_:Int) (x1:Int) (x2:ByteArray) (x3 x4 x5:Int) (k:Int) (t:ByteArray) (v ln cl e:Int) (hL:L.length+1<=aQ):dF lI 8 ES (Dk (dF lI 8 Az fun ax Z'=>if e=0 then ax = .normal/\Z'=a9P L c1 c2 c3 line start at_ x1 x2 x3 x4 x5 k t v ln cl e else ax = .ret/\Z'=a9N L c1 c2 c3 line start at_ x1 x2 x3 x4 x5 k t v ln cl e) fun _ _=>False) ⟨[(2,.ptr 0 0),(3,.ptr 1 0),(4,.ptr 2 0),(5,.ptr 3 0),(13,.agg [.int .i64 k,.str t,.int .i64 v,.int .i64 ln,.int .i64 cl]),(14,.int .i64 e)],[some [.sl true 5 L],some [.int .i64 c1],some [.int .i64 c2],some [.int .i64 c3],some [.int .i64 line],some [.int .i64 start],some [.int .i64 at_],some [.int .i64 x1,.str x2,.int .i64 x3,.int .i64 x4,.int .i64 x5]]⟩:=by
 have hC:o6 (SS.xe SS.CC SS.LL lI 8).E.P (SS.xe SS.CC SS.LL lI 8).C:=MC CE dZ Em;have hl:IE (SS.xe SS.CC SS.LL lI 8):=Ve CE dZ Em rfl;refine xJ ES (fun ax Z' h => ?_) (IX (X:=(SS.xe SS.CC SS.LL lI 8)) dZ.V dZ.W hC hl fun K=>bLX K L c1 c2 c3 line start at_ x1 x2 x3 x4 x5 k t v ln cl e);obtain ⟨rfl,rfl⟩:=h;show dF lI 8 Az _ _;by_cases he:e=0
 .simp only[aJ he];refine IX (X:=(SS.xe SS.CC SS.LL lI 8)) dZ.V dZ.W hC hl fun K => ?_
  rw[aPD,show (e != 0)=false by simp[he],aC,aX (by simpa using hL)]
 .simp only[aK he];refine IX (X:=(SS.xe SS.CC SS.LL lI 8)) dZ.V dZ.W hC hl fun K => ?_
  rw[aPD,show (e != 0)=true by simp[he],aG]
def bJ8:Code:=qU Tryz.f249
def bJ7:AE:=SS.ae 249 86
def aO1:XE:=SS.xe SS.CC SS.LL bJ7 8
def ZJ:Code:=Code.sub [false,true,true,false,false,false,true,true,true,true,true,true,true,true,false,false] bJ8
theorem bJ9 (l:Nat) (K:AX->ASt->R) (s:ByteArray) (e:Int) (L:bSH) (c1:Int) (c2:Int) (c3:Int) (line:Int) (start:Int) (at_:Int) (k:Int) (t:ByteArray) (v:Int) (a:Int) (b:Int):ji aO1 false (opsOf ZJ) (((opsOf ZJ).toList.drop 0).take 5) (K .normal) ⟨[(0,.func (.yield l) [] []),(1,.cst (.str s)),(3,.ptr 4 0),(4,.ptr 5 0),(5,.ptr 6 0),(8,.func (.func 251) [] [.ptr 4 0,.ptr 6 0,.ptr 5 0]),(12,.ptr 7 0),(13,.int .i64 e)],[some [.sl true 5 L],some [.int .i64 c1],some [.int .i64 c2],some [.int .i64 c3],some [.int .i64 line],some [.int .i64 start],some [.int .i64 at_],some [.int .i64 k,.str t,.int .i64 v,.int .i64 a,.int .i64 b]]⟩=AQ SS.CC 251 [.agg [.int .i64 k,.str t,.int .i64 v,.int .i64 a,.int .i64 b],.ptr 0 0,.ptr 1 0,.ptr 2 0] [some [.int .i64 line],some [.int .i64 at_],some [.int .i64 start]] fun r9 h10=>Jj r9 h10 fun n1 s2 n3 n4 n5 n6 n7 n8=>K .normal ⟨[(0,.func (.yield l) [] []),(1,.cst (.str s)),(3,.ptr 4 0),(4,.ptr 5 0),(5,.ptr 6 0),(8,.func (.func 251) [] [.ptr 4 0,.ptr 6 0,.ptr 5 0]),(12,.ptr 7 0),(13,.int .i64 e),(70,.func (.yield l) [] []),(71,.func (.func 251) [] [.ptr 4 0,.ptr 6 0,.ptr 5 0]),(72,.agg [.int .i64 k,.str t,.int .i64 v,.int .i64 a,.int .i64 b]),(73,.agg [.int .i64 n1,.str s2,.int .i64 n3,.int .i64 n4,.int .i64 n5]),(74,.int .i64 e)],[some [.sl true 5 L],some [.int .i64 c1],some [.int .i64 c2],some [.int .i64 c3],some [.int .i64 n6],some [.int .i64 n8],some [.int .i64 n7],some [.int .i64 k,.str t,.int .i64 v,.int .i64 a,.int .i64 b]]⟩:=by kernel_rfl
def bJC:Code:=qU Tryz.f249
def bJA:AE:=SS.ae 249 86
def bJB:XE:=SS.xe SS.CC SS.LL bJA 8
def bJD:Code:=Code.sub [false,true,true,false,false,false,true,true,true,true,true,true,true,true,true,false] bJC
theorem bJE (l:Nat) (K:AX->ASt->R) (s:ByteArray) (L:bSH) (c1:Int) (c2:Int) (c3:Int) (line:Int) (start:Int) (at_:Int) (k:Int) (t:ByteArray) (v:Int) (a:Int) (b:Int):bH bJB bJD K ⟨[(0,.func (.yield l) [] []),(1,.cst (.str s)),(3,.ptr 4 0),(4,.ptr 5 0),(5,.ptr 6 0),(12,.ptr 7 0)],[some [.sl true 5 L],some [.int .i64 c1],some [.int .i64 c2],some [.int .i64 c3],some [.int .i64 line],some [.int .i64 start],some [.int .i64 at_],some [.int .i64 k,.str t,.int .i64 v,.int .i64 a,.int .i64 b]]⟩=K .normal ⟨[(0,.func (.yield l) [] []),(1,.cst (.str s)),(3,.ptr 4 0),(4,.ptr 5 0),(5,.ptr 6 0),(12,.ptr 7 0),(81,.int .i64 at_),(82,.ptr 7 1),(83,.str t),(84,.int .i64 (t.size:Int)),(85,.int .i64 (i64.wrap (at_+(t.size:Int))))],[some [.sl true 5 L],some [.int .i64 c1],some [.int .i64 c2],some [.int .i64 c3],some [.int .i64 line],some [.int .i64 start],some [.int .i64 (i64.wrap (at_+(t.size:Int)))],some [.int .i64 k,.str t,.int .i64 v,.int .i64 a,.int .i64 b]]⟩:=by kernel_rfl
def k:Code:=Code.sub [] iH
def k0:Code:=Code.sub [false] iH
def k00:Code:=Code.sub [false,false] iH
def k01:Code:=Code.sub [false,true] iH
def aKH:Code:=Code.sub [false,true,false] iH
theorem bDS:aKH = .label 0:=by kernel_rfl
def a4T:Code:=Code.sub [false,true,true] iH
def aKI:Code:=Code.sub [false,true,true,false] iH
def Js:Code:=Code.sub [false,true,true,false,false] iH
def a4U:Code:=Code.sub [false,true,true,false,false,false] iH
def bDT:Code:=Code.sub [false,true,true,false,false,false,false] iH
def Yb:Code:=Code.sub [false,true,true,false,false,false,true] iH
def bDU:Code:=Code.sub [false,true,true,false,false,false,true,false] iH
def Yc:Code:=Code.sub [false,true,true,false,false,false,true,true] iH
def bDV:Code:=Code.sub [false,true,true,false,false,false,true,true,false] iH
def Yd:Code:=Code.sub [false,true,true,false,false,false,true,true,true] iH
def bDW:Code:=Code.sub [false,true,true,false,false,false,true,true,true,false] iH
def OM:Code:=Code.sub [false,true,true,false,false,false,true,true,true,true] iH
def aKJ:Code:=Code.sub [false,true,true,false,false,false,true,true,true,true,false] iH
def bDX:Code:=Code.sub [false,true,true,false,false,false,true,true,true,true,false,false] iH
def Ye:Code:=Code.sub [false,true,true,false,false,false,true,true,true,true,false,true] iH
def aKK:Code:=Code.sub [false,true,true,false,false,false,true,true,true,true,false,true,false] iH
def Jt:Code:=Code.sub [false,true,true,false,false,false,true,true,true,true,false,true,false,false] iH
theorem bE2:Jt = .region 10 (opsOf Jt) false:=by kernel_rfl
def a4W:Code:=Code.sub [false,true,true,false,false,false,true,true,true,true,false,true,false,true] iH
theorem bE3:a4W = .ret:=by kernel_rfl
theorem bE4:aKK = .seq Jt a4W:=by kernel_rfl
def aKL:Code:=Code.sub [false,true,true,false,false,false,true,true,true,true,false,true,true] iH
theorem bE5:aKL = .skip:=by kernel_rfl
theorem aKM:Ye = .cond (.tmp 41) aKK aKL:=by kernel_rfl
theorem aKN:aKJ = .seq bDX Ye:=by kernel_rfl
def Yg:Code:=Code.sub [false,true,true,false,false,false,true,true,true,true,true] iH
def bE6:Code:=Code.sub [false,true,true,false,false,false,true,true,true,true,true,false] iH
def a4X:Code:=Code.sub [false,true,true,false,false,false,true,true,true,true,true,true] iH
def bE7:Code:=Code.sub [false,true,true,false,false,false,true,true,true,true,true,true,false] iH
def a4Y:Code:=Code.sub [false,true,true,false,false,false,true,true,true,true,true,true,true] iH
def aKO:Code:=Code.sub [false,true,true,false,false,false,true,true,true,true,true,true,true,false] iH
def a4Z:Code:=Code.sub [false,true,true,false,false,false,true,true,true,true,true,true,true,true] iH
def aKP:Code:=Code.sub [false,true,true,false,false,false,true,true,true,true,true,true,true,true,false] iH
def xW:Code:=Code.sub [false,true,true,false,false,false,true,true,true,true,true,true,true,true,false,false] iH
theorem bED:xW = .region 19 (opsOf xW) false:=by kernel_rfl
def Yi:Code:=Code.sub [false,true,true,false,false,false,true,true,true,true,true,true,true,true,false,true] iH
def aKQ:Code:=Code.sub [false,true,true,false,false,false,true,true,true,true,true,true,true,true,false,true,false] iH
theorem bEE:aKQ = .ret:=by kernel_rfl
def aKR:Code:=Code.sub [false,true,true,false,false,false,true,true,true,true,true,true,true,true,false,true,true] iH
theorem bEF:aKR = .skip:=by kernel_rfl
theorem aKS:Yi = .cond (.tmp 80) aKQ aKR:=by kernel_rfl
theorem bEG:aKP = .seq xW Yi:=by kernel_rfl
def a5B:Code:=Code.sub [false,true,true,false,false,false,true,true,true,true,true,true,true,true,true] iH
def bEH:Code:=Code.sub [false,true,true,false,false,false,true,true,true,true,true,true,true,true,true,false] iH
def a5C:Code:=Code.sub [false,true,true,false,false,false,true,true,true,true,true,true,true,true,true,true] iH
theorem bEI:a5C = .exit 1:=by kernel_rfl
theorem bEJ:a5B = .seq bEH a5C:=by kernel_rfl
theorem bEK:a4Z = .seq aKP a5B:=by kernel_rfl
theorem bEL:a4Y = .seq aKO a4Z:=by kernel_rfl
theorem bEM:a4X = .seq bE7 a4Y:=by kernel_rfl
theorem bEN:Yg = .seq bE6 a4X:=by kernel_rfl
theorem aKT:OM = .seq aKJ Yg:=by kernel_rfl
theorem bEO:Yd = .seq bDW OM:=by kernel_rfl
theorem bEP:Yc = .seq bDV Yd:=by kernel_rfl
theorem bEQ:Yb = .seq bDU Yc:=by kernel_rfl
theorem bER:a4U = .seq bDT Yb:=by kernel_rfl
theorem a5D:Js = .block 1 a4U:=by kernel_rfl
theorem bES:aKI = .loop Js:=by kernel_rfl
theorem bET:a4T = .block 0 aKI:=by kernel_rfl
theorem bEU:k01 = .seq aKH a4T:=by kernel_rfl
theorem bEV:k0 = .seq k00 k01:=by kernel_rfl
theorem bEW:k = .scope k0:=by kernel_rfl
def Yf:Oper:=(opsOf Jt)[4]!
def a4V:Call:=match Yf.op with | .call c=>c | _=>default
theorem bDY:Yf.op = .call a4V:=by kernel_rfl
theorem bDZ:Yf.guard=none:=by kernel_rfl
theorem bD':a4V.callee = .value (.tmp 42):=by kernel_rfl
theorem bE0:a4V.args = #[(.tmp 45),(.const (.int .i64 0))]:=by kernel_rfl
theorem bE1:(opsOf Jt).toList=((opsOf Jt).toList.drop 0).take 4 ++ Yf::((opsOf Jt).toList.drop 5).take 5:=by kernel_rfl
def Yh:Oper:=(opsOf xW)[5]!
def a5A:Call:=match Yh.op with | .call c=>c | _=>default
theorem bE8:Yh.op = .call a5A:=by kernel_rfl
theorem bE9:Yh.guard=none:=by kernel_rfl
theorem bEA:a5A.callee = .value (.tmp 70):=by kernel_rfl
theorem bEB:a5A.args = #[(.tmp 73),(.tmp 74)]:=by kernel_rfl
theorem bEC:(opsOf xW).toList=((opsOf xW).toList.drop 0).take 5 ++ Yh::((opsOf xW).toList.drop 6).take 5:=by kernel_rfl
def uq:bSI->Nat->Nat×Nat->Nat×Nat
 | [],_,p=>p
 | b::l,i,p=>uq l (i+1) (if b=10 then (p.1+1,i+1) else p)
def bu (l:bSI):Tok×Int:=match l with
 | []=>D5 []
 | b::l=>if eU b.toNat then Ah (b::l) else if isLet b.toNat then yl (b::l) else D5 (b::l)
inductive Gp where
 | ok (ts:List Tok)
 | err (line sS e:Int)
def Tok.at (t:Tok) (line sS:Int):Tok := { t with line:=line,sS:=sS }
def wU:Nat->bSI->Nat->Nat->Nat->List Tok->Gp
 | 0,_,_,_,_,_ => .err 0 0 0
 | f+1,rest,i,line,start,acc =>
  let g:=gW false rest
  let p:=uq (rest.take g) i (line,start)
  match rest.drop g with
  | [] => .ok (acc ++ [(⟨4,[],0,(p.1:Nat),((i+g-p.2+1:Nat):Int)⟩:Tok)])
  | b::r =>
   if (bu (b::r)).2=0 then wU f ((b::r).drop (bu (b::r)).1.text.length) (i+g+(bu (b::r)).1.text.length) p.1 p.2 (acc ++ [(bu (b::r)).1.at (p.1:Nat) ((i+g-p.2+1:Nat):Int)])
   else .err (p.1:Nat) ((i+g-p.2+1:Nat):Int) (bu (b::r)).2
theorem PO:∀ (c:Bool) (l:bSI),gW c l<=l.length
 | _,[]=>by cases ‹Bool› <;> simp[gW]
 | true,b::l=>by have h1:=PO false l;have h2:=PO true l;rw[gW]; split<;>simp<;>omega
 | false,b::l=>by
  have h1:=PO false l;have h2:=PO true l;rw[gW]; split
  .simp; omega
  .split<;>simp<;>omega
theorem a6J:∀ (l:bSI) (i:Nat) (p:Nat×Nat),p.2<=i->(uq l i p).2<=i+l.length/\p.1<=(uq l i p).1/\(uq l i p).1<=p.1+l.length
 | [],i,p,h=>by simp[uq,h]
 | b::l,i,p,h=>by
  rw[uq];split
  .have:=a6J l (i+1) (p.1+1,i+1) (by simp);simp only[aY] at *; omega
  .have:=a6J l (i+1) p (by omega);simp only[aY]; omega
theorem aO' {p:Nat->Bool} {b:UInt8} {l:bSI} (h:p b.toNat=true):0<(fP p (b::l)).length:=by unfold fP; rw[DL,h]; simp
theorem a9' {l x:bSI} (h:GG l=some x):x∈tV/\x.isPrefixOf l=true:=by unfold GG at h;exact ⟨List.mem_of_find?_eq_some h,by have:=List.find?_some h; simpa using this⟩
theorem aA0:∀ x∈tV,0<x.length/\x.length<=2:=by decide
theorem aOB:∀ {x l:bSI},x.isPrefixOf l=true->x.length<=l.length
 | [],_,_=>by simp
 | a::x,[],h=>by simp[List.isPrefixOf] at h
 | a::x,b::l,h=>by simp[List.isPrefixOf] at h; have:=aOB (x:=x) (l:=l) (by simpa using h.2); simp; omega
theorem ZU {b:UInt8} {r:bSI} (h:(bu (b::r)).2=0):0<(bu (b::r)).1.text.length/\(bu (b::r)).1.text.length<=(b::r).length:=by
 rw[show bu (b::r)=if eU b.toNat then Ah (b::r) else if isLet b.toNat then yl (b::r) else D5 (b::r) from rfl] at h ⊢;split
 .rename_i hd;have h1:=aO' (p:=eU) (l:=r) hd;have h2:=a9C eU (b::r);simp only[hd,gV] at h;unfold Ah at h ⊢;split at h
  .cases h
  .rename_i c1;rw[aK c1];split at h
   .cases h
   .rename_i c2;rw[aK c2];split at h
    .cases h
    .rename_i n hn;exact ⟨h1,h2⟩
 .rename_i hd;simp only[hd] at h;split
  .rename_i hw;have h1:=aO' (p:=kQ) (b:=b) (l:=r) (by simp[kQ,hw]);have h2:=a9C kQ (b::r);simp only[hw,gV] at h;unfold yl at h ⊢;by_cases c:32<(fP kQ (b::r)).length
   .simp[c] at h
   .simp only[aK c]; exact ⟨h1,h2⟩
  .rename_i hw;simp only[hw] at h;unfold D5 at h ⊢;cases hs:GG (b::r) with
   | none=>simp[hs] at h
   | some x =>obtain ⟨m1,m2⟩:=a9' hs;have:=aA0 x m1;exact ⟨this.1,aOB m2⟩
def ik (l:Nat) (rc:Loop) (out:Nat->Nat):YC:=⟨KU,lI,l,7,rc,out,[(2,.ptr 0 0),(3,.ptr 1 0),(4,.ptr 2 0),(5,.ptr 3 0)]⟩
structure MQ (rc:Loop):Prop where
 par:rc.params = #[13,14]
 W9:rc.assign=ES
 WO:rc.body=Az
 tm:rc.tmps.size=27
theorem a0O {l:Nat} {rc:Loop} {out:Nat->Nat} (ho:1<=out l):(ik l rc out).OK:=⟨CE,rfl,ho⟩
section
variable {l:Nat} {rc:Loop} {out:Nat->Nat}
theorem pc (ho:1<=out l) {c:Code} {Q:AX->ASt->AX->Prop} {j ax:AX} {Z Zt:ASt} (h:∀ K,bH Ap c K Z=K ax Zt) (hq:Q ax Zt j):Tr (ik l rc out) c Q j Z :=Tr.a6N (a0O ho) (IX (X:=Ap) dZ.V dZ.W (MC CE dZ Em) (Ve CE dZ Em rfl) h) (by rintro e Z' ⟨rfl,rfl⟩; exact hq)
theorem ZG {ops:Array Oper} {os:List Oper} {Z Zt:ASt} (h:∀ K:ASt->R,ji Ap false ops os K Z=K Zt):lG KU ops os (fun Z'=>Z'=Zt) Z:=by
 have h1:ji Ap false ops os (fun Z'=>Ot .normal Zt .normal Z') Z=some (.nilp,[]):=by rw[h]; simp[Ot]
 refine DZ (fun Z' he => ?_) _ (Rf (X:=Ap) dZ.V dZ.W (MC CE dZ Em) os h1);unfold Ot at he;split at he
 .rename_i h; exact h.2
 .cases he
end
abbrev sl5 (l:Nat) (s:ByteArray) (t:fH):fH:=(0,.func (.yield l) [] [])::(1,.cst (.str s))::(3,.ptr 4 0)::(4,.ptr 5 0)::(5,.ptr 6 0)::t
theorem take_drop_succ {α:Type} {l:List α} {i m:Nat} (h:i<l.length):(l.drop i).take (m+1)=l[i]::(l.drop (i+1)).take m:=by rw[DF h,VP]
theorem bFZ (l:Nat) (K:AX->ASt->R) (full:bSI) (L:bSH) (c1 c2 c3:Int) (at_ g:Nat) (hg:at_+g<=full.length) (hf:full.length<=1000000):∀ (m i line start:Nat),i+m=at_+g->line<=i+1 ->
 UO l K (bs full) (g:Int) (i:Int) L c1 c2 c3 (line:Int) (start:Int) (at_:Int) =
  K .normal ⟨sl5 l (bs full) [(6,.int .i64 (g:Int)),(7,.int .i64 ((at_+g:Nat):Int)),(19,.int .i64 ((at_+g:Nat):Int)),(20,.int .i64 (at_:Int)),(21,.int .i64 (g:Int)),(22,.int .i64 ((at_+g:Nat):Int)),(23,.bool false)],
   kL L c1 c2 c3 ((uq ((full.drop i).take m) i (line,start)).1:Nat) ((uq ((full.drop i).take m) i (line,start)).2:Nat) (at_:Int)⟩:=by
 have hw:i64.wrap ((at_:Int)+(g:Int))=((at_+g:Nat):Int):=by rw[wrap64 (by omega) (by omega)]; omega
 intro m;induction m with
 | zero =>
  intro i line start hi hl;rw[aNY,hw,aT (by omega),aC,List.take_zero];have:i=at_+g:=by omega
  subst this;rfl
 | succ m ih =>
  intro i line start hi hl;have hlt:i<full.length:=by omega
  rw[aNY,hw,aO (by omega),aG,Di (b:=full[i]) (by omega) (by rw[Gy]; simp[hlt]),show ((full[i].toNat:Int)==10)=(full[i].toNat==10) from JG _ 10,bV (by omega),bV (by omega),take_drop_succ hlt,uq];by_cases hb:full[i]=10
  .rw[hb,show ((10:UInt8).toNat==10)=true from rfl,aG,aJ rfl];exact ih (i+1) (line+1) (i+1) (by omega) (by omega)
  .have:(full[i].toNat==10)=false:=by rw[vU]; intro e; exact hb (UInt8.toNat_inj.1 (by rw[e]; rfl))
   rw[this,aC,aK hb];exact ih (i+1) line start (by omega) (by omega)
def PH (b:UInt8):Nat:=if eU b.toNat then 306 else if isLet b.toNat then 304 else 252
theorem bL7 (l:Nat) (K:AX->ASt->R) (full:bSI) (L:bSH) (c1 c2 c3 line start:Int) (at_:Nat) (h:at_<full.length) :
 bH Ap a7D K ⟨sl5 l (bs full) [(8,mG),(9,.func (.func 252) [] [])],kL L c1 c2 c3 line start (at_:Int)⟩=K .normal ⟨sl5 l (bs full) [(8,mG),(9,.func (.func (PH full[at_])) [] []),(47,.sl false 2 RL),(48,.int .i64 (RL.length:Int)),(49,.int .i64 2),(50,.bool false)],kL L c1 c2 c3 line start (at_:Int)⟩:=by
 have hb:((bs full)[(at_:Int).toNat]? : Option UInt8)=some full[at_]:=by rw[nX,Gy]; simp[h]
 rw[aS6,aS5,Di (by omega) hb,oZ (c78 _),yg];unfold PH;cases isLet full[at_].toNat
 .rw[aC,aBY,Di (by omega) hb,oZ (c80 _),yg];cases eU full[at_].toNat
  .rw[aC,Vd]; rfl
  .rw[aG,Vd]; rfl
 .rw[aG,aBY,Di (by omega) hb,oZ (c80 _),yg];cases eU full[at_].toNat
  .rw[aC,Vd]; rfl
  .rw[aG,Vd]; rfl
theorem WQ (full:bSI) (i:Nat):(bs full).extract i (bs full).size=bs (full.drop i):=by rw[kG,RG,nZ (by simp)]
section
variable {l:Nat} {rc:Loop} {out:Nat->Nat}
theorem a7I (ho:1<=out l) {full:bSI} {L:bSH} {c1 c2 c3:Int} {i g line start:Nat} {Q:AX->ASt->AX->Prop} (hf:full.length<=1000000) (hi:i<=full.length) (hl:line<=i+1) (hg:gW false (full.drop i)=g)
 (h:Tr (ik l rc out) OM Q .normal ⟨sl5 l (bs full) [(8,mG)],kL L c1 c2 c3 ((uq ((full.drop i).take g) i (line,start)).1:Nat) ((uq ((full.drop i).take g) i (line,start)).2:Nat) ((i+g:Nat):Int)⟩) :
 Tr (ik l rc out) a4U Q .normal ⟨sl5 l (bs full) [],kL L c1 c2 c3 (line:Int) (start:Int) (i:Int)⟩:=by
 have hgl:=PO false (full.drop i);rw[hg,uQ] at hgl;generalize hp:uq ((full.drop i).take g) i (line,start)=p at h;rw[bER];refine Tr.seq (pc (Zt:=⟨sl5 l (bs full) [(6,.int .i64 (g:Int)),(14,.str (bs full)),(15,.int .i64 (i:Int)),(16,.str (bs (full.drop i))),(17,.int .i64 (g:Int))],kL L c1 c2 c3 line start i⟩) (ax := .normal) ho (fun K => ?_) ?_)
 .refine (bI1 l K (bs full) L c1 c2 c3 line start i).trans ?_;rw[aX (by rw[kG]; simp; omega),nX,WQ,oZ (c59 (full.drop i) (by simp; omega)),BB,hg]
 show Tr (ik l rc out) Yb Q .normal _;refine Tr.gc (l := [0,1,3,4,5,6]) (m:=7) (bW _) rfl ?_;show Tr (ik l rc out) Yb Q .normal ⟨sl5 l (bs full) [(6,.int .i64 (g:Int))],kL L c1 c2 c3 line start i⟩;rw[bEQ];refine Tr.seq (pc (Zt:=⟨sl5 l (bs full) [(6,.int .i64 (g:Int)),(7,.int .i64 ((i+g:Nat):Int)),(19,.int .i64 ((i+g:Nat):Int)),(20,.int .i64 (i:Int)),(21,.int .i64 (g:Int)),(22,.int .i64 ((i+g:Nat):Int)),(23,.bool false)],kL L c1 c2 c3 (p.1:Nat) (p.2:Nat) i⟩) (ax := .normal) ho (fun K => ?_) ?_)
 .refine (bI6 l K (bs full) g L c1 c2 c3 line start i).trans ?_;rw[bFZ l K full L c1 c2 c3 i g (by omega) hf g i line start rfl hl,hp]
 show Tr (ik l rc out) Yc Q .normal _;refine Tr.gc (l := [0,1,3,4,5,6]) (m:=7) (bW _) rfl ?_;show Tr (ik l rc out) Yc Q .normal ⟨sl5 l (bs full) [(6,.int .i64 (g:Int))],kL L c1 c2 c3 (p.1:Nat) (p.2:Nat) i⟩;rw[bEP];refine Tr.seq (pc (ax := .normal) ho (fun K=>bIB l K (bs full) g L c1 c2 c3 (p.1:Nat) (p.2:Nat) i) ?_);show Tr (ik l rc out) Yd Q .normal _;refine Tr.gc (l := [0,1,3,4,5]) (m:=7) (bW _) rfl ?_;rw[show i64.wrap ((i:Int)+(g:Int))=((i+g:Nat):Int) by rw[wrap64 (by omega) (by omega)]; omega];show Tr (ik l rc out) Yd Q .normal ⟨sl5 l (bs full) [],kL L c1 c2 c3 (p.1:Nat) (p.2:Nat) ((i+g:Nat):Int)⟩;rw[bEO];refine Tr.seq (pc (ax := .normal) ho (fun K=>bIG l K (bs full) L c1 c2 c3 (p.1:Nat) (p.2:Nat) ((i+g:Nat):Int)) ?_);show Tr (ik l rc out) OM Q .normal _;exact Tr.gc (l := [0,1,3,4,5,8]) (m:=7) (bW _) rfl h
theorem aDE {i start:Nat} (h1:start<=i) (h2:i<=1000000):i64.wrap (i64.wrap ((i:Int)-(start:Int))+1)=((i-start+1:Nat):Int):=by rw[wrap64 (n:=(i:Int)-start) (by omega) (by omega),wrap64 (by omega) (by omega)]; omega
theorem aV7 (ho:1<=out l) (hrc:MQ rc) {full:bSI} {L:bSH} {c1 c2 c3:Int} {i line start:Nat} {Q:AX->ASt->AX->Prop} (hf:full.length<=1000000) (hi:i=full.length) (hs:start<=i) (hL:L.length+1<=aQ)
 (h:∀ Z,Z.h.take 4 = [some [.sl true 5 (L ++ [ay ⟨4,[],0,(line:Int),((i-start+1:Nat):Int)⟩])],some [.int .i64 c1],some [.int .i64 c2],some [.int .i64 c3]]->Q .ret Z .normal) :
 Tr (ik l rc out) OM Q .normal ⟨sl5 l (bs full) [(8,mG)],kL L c1 c2 c3 (line:Int) (start:Int) (i:Int)⟩:=by
 rw[aKT];refine Tr.seq ?_;rw[aKN];refine Tr.seq (pc (ax := .normal) ho (fun K=>aN' l K (bs full) L c1 c2 c3 line start i) ?_);show Tr (ik l rc out) Ye _ .normal _;rw[show ((i:Int)==((bs full).size:Int))=true by rw[kG,hi]; simp,aKM];refine Tr.cond (b:=true) rfl (fun _ => ?_) (fun h=>by cases h);rw[bE4];refine Tr.seq ?_;rw[bE2];refine Tr.gc (l := [0,1,3,4,5,8]) (m:=7) (bW _) rfl ?_;refine Tr.yield (a0O ho) bE1 bDY bDZ bD' bE0 hrc.par (by decide) (show 14<27 by decide) ?_ ?_ hrc.tm (by show oC rc.assign=true; rw[hrc.W9]; exact aPE) (by show oC rc.body=true; rw[hrc.WO]; exact aPF) ?_
 .intro kp hk;simp only[ik,iQ,vP,vV] at hk;rcases hk with rfl | rfl | rfl | rfl<;>decide
 .simp[jE,ik]
 .refine DZ (fun Z1 hZ => ?_) _ (ZG (Zt:=⟨sl5 l (bs full) [(8,mG),(42,.func (.yield l) [] []),(43,mG),(44,.agg [.int .i64 4,.str ⟨#[]⟩,.int .i64 0,.int .i64 0,.int .i64 0]),(45,.agg [.int .i64 4,.str ⟨#[]⟩,.int .i64 0,.int .i64 (line:Int),.int .i64 ((i-start+1:Nat):Int)])],kL L c1 c2 c3 line start i⟩) fun K => ?_)
  .subst hZ;have hr:=bLZ L c1 c2 c3 line start i 4 ⟨#[]⟩ 0 line ((i-start+1:Nat):Int) 0 hL;refine ⟨.agg [.int .i64 4,.str ⟨#[]⟩,.int .i64 0,.int .i64 (line:Int),.int .i64 ((i-start+1:Nat):Int)],.int .i64 0,fun ax Z'=>if (0:Int)=0 then ax = .normal/\Z'=a9O L c1 c2 c3 line start i 4 ⟨#[]⟩ 0 line ((i-start+1:Nat):Int) 0 else ax = .ret/\Z'=a9M L c1 c2 c3 line start i 4 ⟨#[]⟩ 0 line ((i-start+1:Nat):Int) 0,rfl,rfl,rfl,bW _,?_,?_⟩
   .show dF lI 7 rc.assign (Dk (dF lI 7 rc.body _) fun _ _=>False) _;rw[hrc.W9,hrc.WO];exact hr
   .intro ax Z' hq;rw[aJ rfl] at hq;obtain ⟨rfl,rfl⟩:=hq;refine ⟨rfl,?_⟩;show Tr (ik l rc out) a4W _ .normal _;rw[bE3];exact Tr.ret (h _ rfl)
  .refine Eq.trans (b:=ji aO0 false (opsOf ZI) (((opsOf ZI).toList.drop 0).take 4) K ⟨sl5 l (bs full) [(8,mG)],kL L c1 c2 c3 line start i⟩) rfl ?_;refine (bIN l (fun _=>K) (bs full) L c1 c2 c3 line start i).trans ?_;unfold AQ;rw[aGJ,aDE hs (by omega)];rfl
end
abbrev h6 (t:Tok):bSH := [.int .i64 t.kind,.str (bs t.text),.int .i64 t.value,.int .i64 t.line,.int .i64 t.sS]
theorem bKC (l:Nat) (K:AX->ASt->R) (full:bSI) (L:bSH) (c1 c2 c3 line start:Int) (i:Nat) (h:i<full.length) (hf:full.length<=1000000) :
 bH Ap aKO K ⟨sl5 l (bs full) [(8,mG),(9,.func (.func (PH full[i])) [] [])],kL L c1 c2 c3 line start (i:Int)⟩ =
  K .normal ⟨sl5 l (bs full) [(8,mG),(9,.func (.func (PH full[i])) [] []),(12,.ptr 7 0),(13,.int .i64 (bu (full.drop i)).2),(62,rd (bu (full.drop i))),(63,.func (.func (PH full[i])) [] []),(64,.str (bs full)),(65,.int .i64 (i:Int)),(66,.str (bs (full.drop i))),(67,rd (bu (full.drop i))),(68,ay (bu (full.drop i)).1),(69,.int .i64 (bu (full.drop i)).2)],
   kL L c1 c2 c3 line start (i:Int) ++ [some (h6 (bu (full.drop i)).1)]⟩:=by
 have e:full.drop i=full[i]::full.drop (i+1):=DF h;have hc:(decide (0<=(i:Int))&&decide ((i:Int)<=((bs full).size:Int)))=true:=by rw[kG]; simp; omega
 have hl:(full.drop i).length<=1000000:=by simp; omega
 unfold PH;cases hd:eU full[i].toNat with
 | true =>
  have hr:bu (full.drop i)=Ah (full.drop i):=by rw[e]; simp[bu,hd]
  refine (bJ6 l K (bs full) L c1 c2 c3 line start i).trans ?_;rw[aX hc,nX,WQ,oZ (c81 _ hl),hr];rfl
 | false =>
  cases hw:isLet full[i].toNat with
  | true =>
   have hr:bu (full.drop i)=yl (full.drop i):=by rw[e]; simp[bu,hd,hw]
   refine (bJ1 l K (bs full) L c1 c2 c3 line start i).trans ?_;rw[aX hc,nX,WQ,oZ (c79 _ hl),hr];rfl
  | false =>
   have hr:bu (full.drop i)=D5 (full.drop i):=by rw[e]; simp[bu,hd,hw]
   refine (bIX l K (bs full) L c1 c2 c3 line start i).trans ?_;rw[aX hc,nX,WQ,oZ (c61 _),hr];rfl
theorem bJY (l:Nat) (K:ASt->R) (s:ByteArray) (tk Uw:PV) (h:aI):ji Ap false (opsOf xW) (((opsOf xW).toList.drop 6).take 5) K ⟨sl5 l s [(8,mG),(12,.ptr 7 0),(13,.int .i64 0),(70,.func (.yield l) [] []),(71,mG),(72,tk),(73,Uw),(74,.int .i64 0),(75,.bool true)],h⟩=K ⟨sl5 l s [(8,mG),(12,.ptr 7 0),(13,.int .i64 0),(70,.func (.yield l) [] []),(71,mG),(72,tk),(73,Uw),(74,.int .i64 0),(75,.bool true),(76,.bool false),(77,.bool false),(78,.int .i64 0),(79,.bool false),(80,.bool false)],h⟩:=by kernel_rfl
theorem bJX (l:Nat) (K:ASt->R) (s:ByteArray) (e:Int) (tk Uw:PV) (h:aI):ji Ap false (opsOf xW) (((opsOf xW).toList.drop 6).take 5) K ⟨sl5 l s [(8,mG),(12,.ptr 7 0),(13,.int .i64 e),(70,.func (.yield l) [] []),(71,mG),(72,tk),(73,Uw),(74,.int .i64 e),(75,.bool false)],h⟩=K ⟨sl5 l s [(8,mG),(12,.ptr 7 0),(13,.int .i64 e),(70,.func (.yield l) [] []),(71,mG),(72,tk),(73,Uw),(74,.int .i64 e),(75,.bool false),(76,.bool true),(77,.bool true),(78,.tuple []),(79,.tuple []),(80,.bool true)],h⟩:=by kernel_rfl
section
variable {l:Nat} {rc:Loop} {out:Nat->Nat}
theorem aQQ (ho:1<=out l) (hrc:MQ rc) {full:bSI} {L:bSH} {c1 c2 c3:Int} {i line start:Nat} {Q:AX->ASt->AX->Prop} (hf:full.length<=1000000) (hi:i<full.length) (hs:start<=i) (hL:L.length+1<=aQ)
 (h0:(bu (full.drop i)).2=0->∀ Z,Bf [0,1,3,4,5] 7 Z=true->Z.gc [0,1,3,4,5] 7=⟨sl5 l (bs full) [],kL (L ++ [ay ((bu (full.drop i)).1.at (line:Int) ((i-start+1:Nat):Int))]) c1 c2 c3 line start (i64.wrap ((i:Int)+((bu (full.drop i)).1.text.length:Int)))⟩->Q (.exit 1) Z .normal)
 (h1:(bu (full.drop i)).2≠0->∀ Z,Z.h.take 4 = [some [.sl true 0 []],some [.int .i64 (line:Int)],some [.int .i64 ((i-start+1:Nat):Int)],some [.int .i64 (bu (full.drop i)).2]]->Q .ret Z .ret) :
 Tr (ik l rc out) OM Q .normal ⟨sl5 l (bs full) [(8,mG)],kL L c1 c2 c3 (line:Int) (start:Int) (i:Int)⟩:=by
 rw[aKT];refine Tr.seq ?_;rw[aKN];refine Tr.seq (pc (ax := .normal) ho (fun K=>aN' l K (bs full) L c1 c2 c3 line start i) ?_);show Tr (ik l rc out) Ye _ .normal _;rw[show ((i:Int)==((bs full).size:Int))=false by rw[kG,vU]; omega,aKM];refine Tr.cond (b:=false) rfl (fun h=>by cases h) (fun _ => ?_);rw[bE5];refine Tr.skip ?_;show Tr (ik l rc out) Yg Q .normal _;refine Tr.gc (l := [0,1,3,4,5,8]) (m:=7) (bW _) rfl ?_;show Tr (ik l rc out) Yg Q .normal ⟨sl5 l (bs full) [(8,mG)],kL L c1 c2 c3 (line:Int) (start:Int) (i:Int)⟩;rw[bEN];refine Tr.seq (pc (ax := .normal) ho (fun K=>bIS l K (bs full) L c1 c2 c3 line start i) ?_);show Tr (ik l rc out) a4X Q .normal _;rw[bEM];refine Tr.seq (pc (ax := .normal) ho (fun K=>bL7 l K full L c1 c2 c3 line start i hi) ?_);show Tr (ik l rc out) a4Y Q .normal _;refine Tr.gc (l := [0,1,3,4,5,8,9]) (m:=7) (bW _) rfl ?_;rw[bEL];refine Tr.seq (pc (ax := .normal) ho (fun K=>bKC l K full L c1 c2 c3 line start i hi hf) ?_);generalize bu (full.drop i)=te at *;obtain ⟨⟨tk,tt,tv,tl,tc⟩,e⟩:=te;show Tr (ik l rc out) a4Z Q .normal _;refine Tr.gc (l := [0,1,3,4,5,8,12,13]) (m:=8) (show 7<=8 by decide) rfl ?_;rw[bEK];refine Tr.seq ?_;rw[bEG];refine Tr.seq ?_;rw[bED];refine Tr.yield (a0O ho) bEC bE8 bE9 bEA bEB hrc.par (by decide) (show 14<27 by decide) ?_ ?_ hrc.tm (by show oC rc.assign=true; rw[hrc.W9]; exact aPE) (by show oC rc.body=true; rw[hrc.WO]; exact aPF) ?_
 .intro kp hk;simp only[ik,iQ,vP,vV] at hk;rcases hk with rfl | rfl | rfl | rfl<;>decide
 .simp[jE,ik]
 .refine DZ (fun Z1 hZ => ?_) _ (ZG (Zt:=⟨sl5 l (bs full) [(8,mG),(12,.ptr 7 0),(13,.int .i64 e),(70,.func (.yield l) [] []),(71,mG),(72,ay ⟨tk,tt,tv,tl,tc⟩),(73,ay ⟨tk,tt,tv,(line:Int),((i-start+1:Nat):Int)⟩),(74,.int .i64 e)],kL L c1 c2 c3 line start i ++ [some (h6 ⟨tk,tt,tv,tl,tc⟩)]⟩) fun K => ?_)
  .subst hZ;have hr:=bL' L c1 c2 c3 line start i tk (bs tt) tv tl tc tk (bs tt) tv line ((i-start+1:Nat):Int) e hL;refine ⟨ay ⟨tk,tt,tv,(line:Int),((i-start+1:Nat):Int)⟩,.int .i64 e,fun ax Z'=>if e=0 then ax = .normal/\Z'=a9P L c1 c2 c3 line start i tk (bs tt) tv tl tc tk (bs tt) tv line ((i-start+1:Nat):Int) e else ax = .ret/\Z'=a9N L c1 c2 c3 line start i tk (bs tt) tv tl tc tk (bs tt) tv line ((i-start+1:Nat):Int) e,rfl,rfl,rfl,show 7<=8 by decide,?_,?_⟩
   .show dF lI 8 rc.assign (Dk (dF lI 8 rc.body _) fun _ _=>False) _;rw[hrc.W9,hrc.WO];exact hr
   .intro ax Z' hq;by_cases he:e=0
    .rw[aJ he] at hq;obtain ⟨rfl,rfl⟩:=hq;subst he;refine ⟨rfl,?_⟩;show lG KU (opsOf xW) (((opsOf xW).toList.drop 6).take 5) _ _;refine DZ (fun Z3 hZ3 => ?_) _ (ZG fun K=>bJY l K (bs full) _ _ _);subst hZ3;show Tr (ik l rc out) Yi _ .normal _;rw[aKS];refine Tr.cond (b:=false) rfl (fun h=>by cases h) (fun _ => ?_);rw[bEF];refine Tr.skip ?_;show Tr (ik l rc out) a5B Q .normal _;refine Tr.gc (l := [0,1,3,4,5,12]) (m:=8) (show 7<=8 by decide) rfl ?_;rw[bEJ];refine Tr.seq (pc (ax := .normal) ho (fun K=>bJE l K (bs full) (L ++ [ay ⟨tk,tt,tv,(line:Int),((i-start+1:Nat):Int)⟩]) c1 c2 c3 line start i tk (bs tt) tv tl tc) ?_);show Tr (ik l rc out) a5C Q .normal _;rw[bEI];refine Tr.exit (h0 rfl _ rfl ?_);rw[kG];rfl
    .rw[aK he] at hq;obtain ⟨rfl,rfl⟩:=hq;refine ⟨rfl,?_⟩;show lG KU (opsOf xW) (((opsOf xW).toList.drop 6).take 5) _ _;refine DZ (fun Z3 hZ3 => ?_) _ (ZG fun K=>bJX l K (bs full) e _ _ _);subst hZ3;show Tr (ik l rc out) Yi _ .ret _;rw[aKS];refine Tr.cond (b:=true) rfl (fun _ => ?_) (fun h=>by cases h);rw[bEE];exact Tr.ret (h1 he _ rfl)
  .refine Eq.trans (b:=ji aO1 false (opsOf ZJ) (((opsOf ZJ).toList.drop 0).take 5) K ⟨sl5 l (bs full) [(8,mG),(12,.ptr 7 0),(13,.int .i64 e)],kL L c1 c2 c3 line start i ++ [some (h6 ⟨tk,tt,tv,tl,tc⟩)]⟩) rfl ?_;refine (bJ9 l (fun _=>K) (bs full) e L c1 c2 c3 line start i tk (bs tt) tv tl tc).trans ?_;unfold AQ;rw[aGJ,aDE hs (by omega)];rfl
end
def s:Code:=Code.sub [] wM
def s0:Code:=Code.sub [false] wM
def s1:Code:=Code.sub [true] wM
def s10:Code:=Code.sub [true,false] wM
def s11:Code:=Code.sub [true,true] wM
def aP6:Code:=Code.sub [true,true,false] wM
def a9G:Code:=Code.sub [true,true,false,false] wM
def a9H:Code:=Code.sub [true,true,false,true] wM
def aP7:Code:=Code.sub [true,true,false,true,false] wM
theorem bLG:aP7 = .rangeFunc (.tmp 12) #[13,14] ES Az:=by kernel_rfl
theorem bLH:a9H = .block 0 aP7:=by kernel_rfl
theorem bLI:aP6 = .seq a9G a9H:=by kernel_rfl
def a9I:Code:=Code.sub [true,true,true] wM
def aP8:Code:=Code.sub [true,true,true,false] wM
def a9J:Code:=Code.sub [true,true,true,true] wM
theorem bLK:a9J = .ret:=by kernel_rfl
theorem bLL:a9I = .seq aP8 a9J:=by kernel_rfl
theorem bLM:s11 = .seq aP6 a9I:=by kernel_rfl
theorem bLN:s1 = .seq s10 s11:=by kernel_rfl
theorem bLP:s = .seq s0 s1:=by kernel_rfl
def s_E:AE:=SS.ae 99 27
def LD:XE:=SS.xe SS.CC SS.LL s_E 0
abbrev Ie (s:ByteArray) (t:fH):fH:=(0,.str s)::(2,.ptr 0 0)::(3,.ptr 1 0)::(4,.ptr 2 0)::(5,.ptr 3 0)::t
abbrev rW (o:Bool) (z:Nat) (L:bSH) (a b c:Int):aI := [some [.sl o z L],some [.int .i64 a],some [.int .i64 b],some [.int .i64 c]]
theorem c31 (s:ByteArray):SS.CC 195 [.str s] []=some (.func (.func 249) [] [.cst (.str s)],[]):=(tY dZ rfl).trans (by kernel_rfl)
theorem bLE (K:AX->ASt->R) (s:ByteArray):bH LD s0 K ⟨[(0,.str s)],[]⟩=K .normal ⟨Ie s [],rW true 0 [] 0 0 0⟩:=by kernel_rfl
theorem aP5 (K:AX->ASt->R) (s:ByteArray):bH LD s10 K ⟨Ie s [],rW true 0 [] 0 0 0⟩=aA (decide ((65536:Int)<(s.size:Int))) (K .ret ⟨Ie s [],rW true 0 [] 1 1 15⟩) (K .normal ⟨Ie s [(8,.str s),(9,.int .i64 (s.size:Int)),(10,.bool false)],rW true 5 [] 0 0 0⟩):=by kernel_rfl
theorem bLF (K:AX->ASt->R) (s:ByteArray):bH LD a9G K ⟨Ie s [],rW true 5 [] 0 0 0⟩=K .normal ⟨Ie s [(11,.str s),(12,.func (.func 249) [] [.cst (.str s)])],rW true 5 [] 0 0 0⟩:=by
 have:bH LD a9G K ⟨Ie s [],rW true 5 [] 0 0 0⟩=jF SS.CC 195 [.str s] fun r=>SS.W 31 [] r [] fun r' _=>(match PV.flat r' with | true=>K .normal ⟨Ie s [(11,.str s),(12,r')],rW true 5 [] 0 0 0⟩ | false=>none):=by kernel_rfl
 refine this.trans ((oZ (c31 s)).trans ?_);kernel_rfl
theorem bLJ (K:AX->ASt->R) (L:bSH):bH LD aP8 K ⟨[(2,.ptr 0 0),(3,.ptr 1 0),(4,.ptr 2 0),(5,.ptr 3 0)],rW true 5 L 0 0 0⟩=K .normal ⟨[(2,.ptr 0 0),(3,.ptr 1 0),(4,.ptr 2 0),(5,.ptr 3 0),(26,.sl false 5 L)],rW false 5 L 0 0 0⟩:=by kernel_rfl
def MP (c1 c2 c3:Int) (r:Gp):AX->ASt->AX->Prop:=fun ax Z j=>ax = .ret/\match r with
 | .ok ts=>j = .normal/\Z.h.take 4=rW true 5 (ts.map ay) c1 c2 c3
 | .err a b e=>j = .ret/\Z.h.take 4=rW true 0 [] a b e
section
variable {l:Nat} {rc:Loop} {out:Nat->Nat}
theorem walk (ho:1<=out l) (hrc:MQ rc) (full:bSI) (c1 c2 c3:Int) (hf:full.length<=1000000) (r0:Gp):∀ (f i line start:Nat) (acc:List Tok),(full.drop i).length<f->i<=full.length->line<=i+1->start<=i->acc.length<=i->wU f (full.drop i) i line start acc=r0 ->
 ∃ k,Qm (ik l rc out) Js (MP c1 c2 c3 r0) k .normal ⟨sl5 l (bs full) [],kL (acc.map ay) c1 c2 c3 line start i⟩:=by
 intro f;induction f with
 | zero=>intro i line start acc h; omega
 | succ f ih =>
  intro i line start acc hlen hi hl hs ha hr;obtain ⟨g,hg⟩:∃ g,gW false (full.drop i)=g:=⟨_,rfl⟩;have hgl:=PO false (full.drop i);rw[hg,uQ] at hgl;obtain ⟨p,hp⟩:∃ p,uq ((full.drop i).take g) i (line,start)=p:=⟨_,rfl⟩;have hnl:=a6J ((full.drop i).take g) i (line,start) hs;have htl:((full.drop i).take g).length=g:=by simp; omega
  rw[hp,htl] at hnl;simp only at hnl;rw[wU] at hr;simp only[hg,hp,a06] at hr;by_cases he:i+g=full.length
  .rw[Ef (by omega)] at hr;simp only at hr;refine ⟨1,?_⟩;show Tr (ik l rc out) Js _ .normal _;rw[a5D];refine Tr.block (a7I ho hf hi hl hg ?_);rw[hp];refine aV7 ho hrc hf he (by omega) (by simp[aQ]; omega) fun Z hZ => ?_
   show MP c1 c2 c3 r0 .ret Z .normal;subst hr;refine ⟨rfl,rfl,?_⟩;rw[hZ]; simp
  .have hlt:i+g<full.length:=by omega
   have hd:full.drop (i+g)=full[i+g]::full.drop (i+g+1):=DF hlt;rw[hd] at hr;simp only at hr;rw[<- hd] at hr;by_cases h0:(bu (full.drop (i+g))).2=0
   .rw[aJ h0,a06] at hr;have hrl:=ZU (b:=full[i+g]) (r:=full.drop (i+g+1)) (by rw[<- hd]; exact h0);rw[<- hd,uQ] at hrl;simp only[uQ] at hlen;obtain ⟨k,hk⟩:=ih (i+g+(bu (full.drop (i+g))).1.text.length) p.1 p.2 _ (by simp; omega) (by omega) (by omega) (by omega) (by simp; omega) hr;refine ⟨k+1,?_⟩;show Tr (ik l rc out) Js _ .normal _;rw[a5D];refine Tr.block (a7I ho hf hi hl hg ?_);rw[hp];refine aQQ ho hrc hf hlt (by omega) (by simp[aQ]; omega) (fun _ Z hgc hZ => ?_) (fun h=>absurd h0 h);show Qm (ik l rc out) Js (MP c1 c2 c3 r0) k .normal Z;have hZ':Z.gc [0,1,3,4,5] 7=⟨sl5 l (bs full) [],kL ((acc ++ [(bu (full.drop (i+g))).1.at (p.1:Nat) ((i+g-p.2+1:Nat):Int)]).map ay) c1 c2 c3 (p.1:Nat) (p.2:Nat) ((i+g+(bu (full.drop (i+g))).1.text.length:Nat):Int)⟩:=by rw[hZ,show i64.wrap (((i+g:Nat):Int)+((bu (full.drop (i+g))).1.text.length:Int))=((i+g+(bu (full.drop (i+g))).1.text.length:Nat):Int) by rw[wrap64 (by omega) (by omega)]; omega];simp
    cases k with
    | zero=>exact hk.elim
    | succ k =>exact Tr.gc (l := [0,1,3,4,5]) (m:=7) (bW _) hgc (by rw[hZ']; exact hk)
   .rw[aK h0] at hr;refine ⟨1,?_⟩;show Tr (ik l rc out) Js _ .normal _;rw[a5D];refine Tr.block (a7I ho hf hi hl hg ?_);rw[hp];refine aQQ ho hrc hf hlt (by omega) (by simp[aQ]; omega) (fun h=>absurd h h0) (fun _ Z hZ => ?_);show MP c1 c2 c3 r0 .ret Z .ret;subst hr;exact ⟨rfl,rfl,hZ⟩
theorem iter (ho:1<=out l) (hrc:MQ rc) (full:bSI) (hf:full.length<=1000000) :
 Tr (ik l rc out) iH (MP 0 0 0 (wU (full.length+1) full 0 1 0 [])) .normal ⟨[(0,.func (.yield l) [] []),(1,.cst (.str (bs full)))],rW true 5 [] 0 0 0⟩:=by
 have e:iH=k:=by kernel_rfl
 rw[e,bEW];refine Tr.scope ?_;rw[bEV];refine Tr.seq (pc (ax := .normal) (Zt:=⟨sl5 l (bs full) [],kL [] 0 0 0 1 0 0⟩) ho (fun K=>by kernel_rfl) ?_);show Tr (ik l rc out) k01 _ .normal _;rw[bEU];refine Tr.seq ?_;rw[bDS];refine Tr.label ?_;show Tr (ik l rc out) a4T _ .normal _;rw[bET];refine Tr.block ?_;rw[bES];obtain ⟨k,hk⟩:=walk ho hrc full 0 0 0 hf (wU (full.length+1) full 0 1 0 []) (full.length+1) 0 1 0 [] (by simp) (by omega) (by omega) (by omega) (by simp) rfl;refine Tr.mono (Tr.loop hk) fun ax Z j hq => ?_
 obtain ⟨rfl,hq⟩:=hq;exact ⟨rfl,hq⟩
end
def Cc:Gp->PV
 | .ok ts => .tuple [.sl false 5 (ts.map ay),.int .i64 0,.int .i64 0,.int .i64 0]
 | .err a b e => .tuple [.sl false 5 [],.int .i64 a,.int .i64 b,.int .i64 e]
def rX (l:bSI):Gp:=if 65536<l.length then .err 1 1 15 else wU (l.length+1) l 0 1 0 []
theorem aw {c:Code} {Z Zt:ASt} {ax:AX} (h:∀ K,bH LD c K Z=K ax Zt) {n:Nat} {out:Nat->Nat} {M:Mem} {B:aV} {a:Act} {w:World} (hI:Inv 27 M B out Z a.tmps w) :
 c.wpIn Fence.wide n Tryz.prog (fun e a' w'=>e=ax.toExit/\a'.defers=a.defers/\∃ M' B',bz 27 out 0 M B Z a.tmps w M' B' Zt a'.tmps w') a w:=by
 have h1:=IX (X:=LD) dZ.V dZ.W (MC CE dZ Em) (Ve CE dZ Em rfl) h;refine wpIn_wide.2 (vW (xK (E:=s_E) (m0:=0) (out:=out) CE c hI h1) fun e a' w' hl => ?_);obtain ⟨ax',Z',M',B',rfl,⟨rfl,rfl⟩,hd,hG⟩:=hl;exact ⟨rfl,hd,M',B',hG⟩
theorem a1K {Z0:ASt} {t0:Array Value} {out:Nat->Nat} {M:Mem} {B:aV} {w:World} (hheap:qO M B w []) (hfp:∀ b,fp B Z0 t0 w b=aU w [] B b) {M':Mem} {B':aV} {s:fH} {h:aI} {a':Act} {w':World} {o:Bool} {z:Nat} {L:bSH} {a b c:Int}
 (hG:bz 27 out 0 M B Z0 t0 w M' B' ⟨s,h⟩ a'.tmps w') (h2:bU 2 s=some (.ptr 0 0)) (h3:bU 3 s=some (.ptr 1 0)) (h4:bU 4 s=some (.ptr 2 0)) (h5:bU 5 s=some (.ptr 3 0)) (hh:h.take 4=rW o z L a b c) {r:PV} (hr:xP (SS.iI 99).ro (.tuple [.sl false z L,.int .i64 a,.int .i64 b,.int .i64 c])=r) :
 ∃ v,(results Tryz.f99 a'.tmps).run Tryz.prog w' = .ok v w'/\∃ M' B',Post [] B out M w r [] v M' B' w':=by
 have hh0:h[0]? = some (some [.sl o z L]):=by have:=congrArg (fun l=>l[0]?) hh; simpa[iO] using this
 have hh1:h[1]? = some (some [.int .i64 a]):=by have:=congrArg (fun l=>l[1]?) hh; simpa[iO] using this
 have hh2:h[2]? = some (some [.int .i64 b]):=by have:=congrArg (fun l=>l[2]?) hh; simpa[iO] using this
 have hh3:h[3]? = some (some [.int .i64 c]):=by have:=congrArg (fun l=>l[3]?) hh; simpa[iO] using this
 have hres:Tryz.f99.results.toList = [.cell 2 130,.cell 3 3,.cell 4 3,.cell 5 31]:=by kernel_rfl
 have hret:Kw Tryz.prog Tryz.f99.results.toList ([]:aI).length (.tuple [.sl false z L,.int .i64 a,.int .i64 b,.int .i64 c]) [] ⟨s,h⟩:=by
  refine ⟨bW _,rfl,rfl,rfl,?_⟩;rw[hres];have t24:ti Tryz.prog 130=some ⟨1,24,false,[.sl true 0 []]⟩:=by kernel_rfl
  have t3:ti Tryz.prog 3=some ⟨1,8,false,[.int .i64 0]⟩:=by kernel_rfl
  have t25:ti Tryz.prog 31=some ⟨1,8,false,[.int .i64 0]⟩:=by kernel_rfl
  simp only[qm,QC,resV,t24,t3,t25,h2,h3,h4,h5,nM,hh0,hh1,hh2,hh3,uP,tX,List.getElem?_cons_zero,sD,jL,PV.un]
 obtain ⟨v,h6,h7⟩:=bJZ hheap hfp hG hret (SS.iI 99).ro;rw[hr] at h7;exact ⟨v,h6,_,_,h7⟩
abbrev R12 (out:Nat->Nat) (M:Mem) (B:aV) (w:World) (r:PV):Ending->World->Prop:=fun e w'=>∃ v M' B',e = .returned v/\Post [] B out M w r [] v M' B' w'
def sI (l:Nat) (s:ByteArray):fH := [(0,.func (.yield l) [] []),(1,.cst (.str s))]
theorem bDH {l:Nat} {rc:Loop} {out:Nat->Nat} (ho:1<=out l) (hrc:MQ rc) (full:bSI) (hf:full.length<=1000000) {n:Nat} {M:Mem} {B:aV} {vals:Array Value} {w:World}
 (hI:Inv 86 M B out ⟨sI l (bs full),rW true 5 [] 0 0 0⟩ (vals ++ Array.replicate (86-vals.size) undef) w) (hr:w.heap[l]? = some (.loop (zi rc .normal))) (hO:Qk (ik l rc out).sO 27 7 rc.tmps M B) {R:Ending->World->Prop}
 (hR:∀ Z' j M' B' t' w',MP 0 0 0 (wU (full.length+1) full 0 1 0 []) .ret Z' j->qp l 86 out 7 M B ⟨sI l (bs full),rW true 5 [] 0 0 0⟩ (vals ++ Array.replicate (86-vals.size) undef) w M' B' Z' t' w'->w'.heap[l]? = some (.loop (zi rc j))->R (.returned (.tuple #[])) w') :
 CallsIn Fence.wide n Tryz.prog 249 vals w R:=by
 have bCI:Tryz.prog.funcs[249]? = some Tryz.f249:=by kernel_rfl
 have bCD:Tryz.f249.body=some iH:=by kernel_rfl
 have hn:Tryz.f249.ntmps=86:=by kernel_rfl
 have hres:Tryz.f249.results = #[]:=by kernel_rfl
 refine callsIn_of_wp bCI bCD trivial ?_;rw[hn];refine uS (iter ho hrc full hf n M B { tmps:=vals ++ Array.replicate (86-vals.size) undef,defers := [] } w hI hr hO) fun e a' w' hl => ?_
 obtain ⟨ax,Z',j,M',B',rfl,hq,hd,hG,hr'⟩:=hl;obtain ⟨rfl,hq'⟩:=hq;exact ⟨hd,_,results_none hres _ _ _,hR Z' j M' B' _ w' ⟨rfl,hq'⟩ hG hr'⟩
theorem aVM (full:bSI):Ev Tryz.prog 99 [.str (bs full)] [] (Cc (rX full)) []:=by
 refine ⟨by kernel_rfl,fun out M B w vals hmem hheap hcnt hnew hv => ?_⟩;have bCH:Tryz.prog.funcs[99]? = some Tryz.f99:=by kernel_rfl
 have bCC:Tryz.f99.body=some wM:=by kernel_rfl
 have hn:Tryz.f99.ntmps=27:=by kernel_rfl
 have hI0:=aQ7 (n:=27) (args := [.str (bs full)]) (show 1<=27 by decide) hmem hheap hcnt hnew hv;have hfp:=fun b=>aP' (B:=B) (args := [.str (bs full)]) (h := []) (vals ++ Array.replicate (27-vals.size) undef) w b
 refine callsIn_wide.1 (callsIn_of_wp_marks (n:=0) (R:=R12 out M B w (Cc (rX full))) bCH bCC trivial ?_);rw[hn];have e:wM=s:=by kernel_rfl
 rw[e,bLP];refine Lu (uS (aw (fun K=>bLE K (bs full)) (a := { tmps:=vals ++ Array.replicate (27-vals.size) undef,defers := [] }) hI0) ?_);rintro e1 a1 w1 ⟨rfl,hd1,M1,B1,hG1⟩;show s1.wpIn Fence.wide 0 Tryz.prog _ a1 w1;rw[bLN];by_cases hbig:65536<full.length
 .have hT:rX full = .err 1 1 15:=aJ hbig;refine Lu (uS (aw (ax := .ret) (fun K=>by rw[aP5,aO (by rw[kG]; omega),aG]) hG1.inv) ?_);rintro e2 a2 w2 ⟨rfl,hd2,M2,B2,hG2⟩;show LeavesInM Fence.wide 0 Tryz.prog Tryz.f99 a2.tmps _ a2.defers .returning w2;rw[hd2,hd1];obtain ⟨v,h6,M',B',h7⟩:=a1K hheap hfp (hG1.trans hG2) rfl rfl rfl rfl (show _=rW true 0 [] 1 1 15 from rfl) (r:=Cc (rX full)) (by rw[hT]; rfl);exact ⟨v,h6,v,M',B',rfl,h7⟩
 .have hT:rX full=wU (full.length+1) full 0 1 0 []:=aK hbig;rw[hT];refine Lu (uS (aw (ax := .normal) (fun K=>by rw[aP5,aT (by rw[kG]; omega),aC]) hG1.inv) ?_);rintro e2 a2 w2 ⟨rfl,hd2,M2,B2,hG2⟩;show s11.wpIn Fence.wide 0 Tryz.prog _ a2 w2;have hg3:=FC (m0:=0) (l := [0,2,3,4,5]) (m:=4) hG2.inv (by decide) rfl;have bCA:=(hG1.trans hG2).trans hg3;rw[bLM];refine Lu ?_;rw[bLI];refine Lu (uS (aw (fun K=>bLF K (bs full)) hg3.inv) ?_);rintro e4 a4 w4 ⟨rfl,hd4,M4,B4,hG4⟩;show a9H.wpIn Fence.wide 0 Tryz.prog _ a4 w4;have hGa:=bCA.trans hG4;rw[bLH];refine wpIn_block ?_;rw[bLG];have FD:=hG4.inv;obtain ⟨bPP,bPO,h12,hr1,hr2⟩:=zk.1 (FD.slots 12 (.func (.func 249) [] [.cst (.str (bs full))]) rfl).2.1;rw[eu] at hr1;obtain ⟨bx,us,hus,hbx,aJP⟩:=dD.1 hr2;rw[eu] at aJP;subst aJP;have hev:a4.tmps.getD 12 undef = .func (.func 249) #[] #[bx]:=by rw[h12]; congr 1<;>(apply Q3; simp[*])
  refine wpIn_rangeFunc fun fn hfn => ?_
  obtain ⟨rc,YV⟩:∃ rc:Loop,rc = { state := .ready,pending:=none,fn,tmps:=a4.tmps,params := #[13,14],assign:=ES,body:=Az,defers:=w4.heap.size }:=⟨_,rfl⟩;have hrc:MQ rc:=by subst YV; exact ⟨rfl,rfl,rfl,FD.size⟩
  have bCU:zi rc .normal=rc:=by subst YV; rfl
  obtain ⟨hIe,hfe⟩:=aDO FD rc;refine ⟨w4.heap.size+1,[{ target := .collected w4.heap.size,args := #[] }],zI w4 rc,{ target := .fn (.func 249) #[bx],args := #[.func (.yield (w4.heap.size+1)) #[] #[]] },zI w4 rc,249,
   #[.func (.yield (w4.heap.size+1)) #[] #[],bx],zI w4 rc,?_,?_,?_,?_,fun h=>absurd h (by decide),?_⟩
  .subst YV; exact run_enterLoop_outer _ _ _ _ _
  .simp[resolve,go_sem,hev]
  .intro f' hf'; trivial
  .simp[invoke,go_sem]
  .have ho1:1<=Am out w4.heap.size (w4.heap.size+1):=by simp[Am]
   have YU:1<=Am out w4.heap.size w4.heap.size:=by simp[Am]
   have hIi:=aK3 (n':=86) (sr:=sI (w4.heap.size+1) (bs full)) (tr := #[.func (.yield (w4.heap.size+1)) #[] #[],bx] ++ Array.replicate (86-(#[.func (.yield (w4.heap.size+1)) #[] #[],bx]:Array Value).size) undef) hIe (by simp) (by simp[jE,sI]) (fun kp hk=>by
    simp only[sI,iQ,vP,vV] at hk;rcases hk with rfl | rfl
    .exact ⟨show 0<86 by decide,by rw[aSO]; exact zk.2 ⟨#[],#[],rfl,eu.2 rfl,eu.2 rfl⟩,rfl⟩
    .exact ⟨show 1<86 by decide,by rw[aSP]; exact hbx,rfl⟩)
   refine bDH (rc:=rc) (by show 1<=Am out w4.heap.size (w4.heap.size+1)+_; omega) hrc full (by omega) hIi (by rw[bCU]; exact aVA rc) ?_ fun Z' j M' B' t' w' hq hG hr' => ?_
   .intro kp hk;have ht:rc.tmps=a4.tmps:=by subst YV; rfl
    rw[ht];simp only[ik,iQ,vP,vV] at hk;rcases hk with rfl | rfl | rfl | rfl
    .exact ⟨by decide,(FD.slots 2 (.ptr 0 0) rfl).2.1,rfl,rfl⟩
    .exact ⟨by decide,(FD.slots 3 (.ptr 1 0) rfl).2.1,rfl,rfl⟩
    .exact ⟨by decide,(FD.slots 4 (.ptr 2 0) rfl).2.1,rfl,rfl⟩
    .exact ⟨by decide,(FD.slots 5 (.ptr 3 0) rfl).2.1,rfl,rfl⟩
   .have a4L:AP 4 (Z'.h.take 4)=true:=by obtain ⟨_,hq⟩:=hq;split at hq<;>(rw[hq.2]; rfl)
    have hback:=aR9 (m0:=4) hIe ho1 (Zr:=⟨sI (w4.heap.size+1) (bs full),rW true 5 [] 0 0 0⟩) rfl (fun kp hk=>by simp only[sI,iQ,vP,vV] at hk;rcases hk with rfl | rfl<;>rfl) rfl (hG.weak (by decide)) a4L;have hend:=run_endLoop (P:=Tryz.prog) hr' (by unfold zi; cases j.jump<;>simp);have hput:=a7K (m0:=4) hback.inv ho1 hr' { zi rc j with state := .exhausted };have hall:=hback.trans hput;have hDs:w'.heap[w4.heap.size]? = some (.deferred (some [])):=by have:=(hback.blk w4.heap.size (by rw[Wq]; omega) (by omega) (Ro hIe YU)).1;rw[this]; exact aV9 rc
    have hD:(w'.putObj (w4.heap.size+1) (.loop { zi rc j with state := .exhausted })).heap[w4.heap.size]? = some (.deferred (some [])):=(World.putObj_heap_other (by omega)).trans hDs;refine ⟨_,_,hend,?_⟩;obtain ⟨_,hq⟩:=hq;cases hsc:wU (full.length+1) full 0 1 0 [] with
    | ok ts =>
     rw[hsc] at hq;obtain ⟨rfl,hq⟩:=hq;show a9I.wpIn Fence.wide 0 Tryz.prog _ _ _;rw[hq] at hall;have hg5:=FC (m0:=0) (l := [2,3,4,5]) (m:=4) hall.inv (by decide) rfl;rw[bLL];refine Lu (uS (aw (a := { tmps:=a4.tmps,defers := { target := .collected w4.heap.size,args := #[] }::a4.defers }) (fun K=>bLJ K (ts.map ay)) hg5.inv) ?_);rintro e6 a6 w6 ⟨rfl,hd6,M6,B6,hG6⟩;show a9J.wpIn Fence.wide 0 Tryz.prog _ a6 w6;rw[bLK];refine wpIn_ret ?_;show LeavesInM Fence.wide 0 Tryz.prog Tryz.f99 a6.tmps _ a6.defers .returning w6;rw[hd6,hd4,hd2,hd1];have a4I:=hg5.trans hG6;have hD6:w6.heap[w4.heap.size]? = some (.deferred (some [])):=by have hlt:w4.heap.size<(w'.putObj (w4.heap.size+1) (.loop { zi rc .normal with state := .exhausted })).heap.size:=(wu.1 hD).1;rw[(a4I.fr.blk w4.heap.size hlt (Ro hall.inv YU)).1]; exact hD
     refine ⟨by simp,.inl ⟨w4.heap.size,_,rfl,run_takeDeferred hD6,?_⟩⟩;have hsh:=aOG (m0:=0) a4I.inv YU hD6 (.deferred none);have htot:=((hall.weak (show 0<=4 by decide)).trans a4I.gl);have hfin:=hGa.trans (aLT FD htot hsh);obtain ⟨v,h6,M',B',h7⟩:=a1K hheap hfp hfin rfl rfl rfl rfl (show _=rW false 5 (ts.map ay) 0 0 0 from rfl) (r:=Cc (.ok ts)) rfl;exact ⟨v,h6,v,M',B',rfl,h7⟩
    | err a b e =>rw[hsc] at hq;obtain ⟨rfl,hq⟩:=hq;refine wpIn_ret ?_;show LeavesInM Fence.wide 0 Tryz.prog Tryz.f99 a4.tmps _ ({ target := .collected w4.heap.size,args := #[] }::a4.defers) .returning _;rw[hd4,hd2,hd1];refine ⟨by simp,.inl ⟨w4.heap.size,_,rfl,run_takeDeferred hD,?_⟩⟩;rw[hq] at hall;have hsh:=aOG (m0:=0) hall.inv YU hD (.deferred none);have hfin:=hGa.trans (aLT FD (hall.weak (show 0<=4 by decide)) hsh);obtain ⟨v,h6,M',B',h7⟩:=a1K hheap hfp hfin rfl rfl rfl rfl (show _=rW true 0 [] a b e from rfl) (r:=Cc (.err a b e)) rfl;exact ⟨v,h6,v,M',B',rfl,h7⟩
end Go.Proofs.YtcdceiloganlnaaGreatDoor
namespace Go.Proofs
open Go.Shelf
shelf_lay Lays.n105 Nm 105 at Tryz as Tryz.lays105
shelf_lay Lays.n144 Nm 144 at Tryz as Tryz.lays144
end Go.Proofs
namespace Go.Proofs.YtcdceiloganlnaaGreatDoor
open Go.RowKit Go.Shelf
theorem X4 {P:Program} {g:FuncId} {args:bSH} {r:PV} {v:Value} (hc:callable P g=true) (hr:∀ M B,Rep M B r v) (ho:r.own=false)
 (h:∀ (M:Mem) (w:World) (vals:Array Value),zX M w->bC M [] args vals.toList->Calls P g vals w fun e w'=>e = .returned v/\Below w.heap.size w w'):Ev P g args [] r []:=by
 refine ⟨hc,fun out M B w vals hmem hheap hcnt hnew hv => ?_⟩;have hB:B = []:=qK (by have:=hheap.1; simpa using this.symm);subst hB;refine (h M w vals hmem hv).mono ?_;rintro e w' ⟨rfl,hb⟩;have hz:∀ w b,aU w [] [] b=0:=fun w b=>by simp[aU]
 refine ⟨v,M,[],rfl,fun b o u e => ?_,dJ.refl _ _,⟨hb.os,hb.tape,hb.output,hb.size,fun b hlt _=>⟨hb.block b hlt,fun _=>rfl⟩⟩,⟨rfl,fun i cs hi=>by simp at hi⟩,hr M [],fG ho,fun b hb' => ?_,fun b => ?_,fun b hb' => ?_⟩
 .obtain ⟨h1,h2⟩:=hmem b o u e;have:=yB _ _ h1;exact ⟨(Lt (hb.block b this)).trans h1,h2⟩
 .rw[hz,dO ho]; omega
 .have:=hcnt b; rw[hz] at this; rw[hz,dO ho]; omega
 .have:=hnew b (oM hb.size hb'); rw[hz] at this; rw[hz,dO ho]; omega
def strsOf:bSH->Option (List ByteArray)
 | []=>some []
 | .str s::l=>(strsOf l).map (s :: ·)
 | _=>none
theorem aQH:∀ {es:bSH} {xs:List ByteArray},strsOf es=some xs->es=xs.map .str
 | [],xs,h=>by simp[strsOf] at h; subst h; rfl
 | p::es,xs,h=>by
  unfold strsOf at h;split at h
  .rename_i e; cases e
  .rename_i s l e;injection e with e1 e2; subst e1; subst e2
   cases hl:strsOf es with
   | none=>simp[hl] at h
   | some ys=>simp[hl] at h; subst h; rw[aQH hl]; rfl
  .cases h
def FI (xs:List ByteArray) (sep:ByteArray):bSI:=Lib.join (xs.map (·.data.toList)) sep.data.toList
theorem aW8 (xs:List ByteArray):PV.flats (xs.map .str)=true:=by
 induction xs with
 | nil=>rfl
 | cons x xs ih=>rw[qm]; simp[PV.flats,PV.flat,ih]
theorem a02 {M:Mem} {B:aV} {p q:PV} {vals:Array Value} (hv:bC M B [p,q] vals.toList):∃ u v,vals = #[u,v]/\Rep M B p u/\Rep M B q v:=by obtain ⟨u1,us,e1,r1,hv⟩:=dD.1 hv;obtain ⟨u2,us,rfl,r2,hv⟩:=dD.1 hv;rw[eu] at hv; subst hv;exact ⟨u1,u2,by rw[<- oK]; exact e1,r1,r2⟩
theorem aVS (o:Bool) (xs:List ByteArray) (sep:ByteArray) (h1:(FI xs sep).length<=140737488355328) (h2:xs.length<=140737488355328):Ev Tryz.prog 15 [.sl o 1 (xs.map .str),.str sep] [] (.str ⟨(FI xs sep).toArray⟩) []:=by
 refine X4 (v := .string ⟨(FI xs sep).toArray⟩) (by kernel_rfl) (fun _ _=>iT.2 rfl) rfl fun M w vals hmem hv => ?_
 obtain ⟨u,v,rfl,hu,hv⟩:=a02 hv;rw[iT.1 hv];obtain ⟨A,cap,rfl,hle,_,_,hA⟩:=jW.1 hu;rw[bM] at hle ⊢;by_cases hx:xs = []
 .subst hx;refine (bDP A cap sep w).mono ?_;rintro e w' ⟨rfl,rfl⟩;exact ⟨rfl,Below.refl _ _⟩
 .obtain ⟨b,off,rfl,hloc⟩:=hA (by simpa using hx);have hcells:∀ (j:Nat) x,xs[j]? = some x->w.cell? ⟨b,off+j,none⟩=some (.string x):=fun j x hj=>by have hl:=EH hloc (show (xs.map PV.str)[j]? = some (.str x) by rw[iU,hj]; rfl);obtain ⟨u,hu1,hu2⟩:=(Bq rfl).1 hl;rw[VT] at hu1;rw[iT.1 hu2] at hu1;exact (hmem _ _ _ hu1).1
  have hbk:b<w.heap.size:=by
   match xs,hx with
   | x::r,_=>exact yB _ _ (hcells 0 x rfl)
  exact bDQ b off cap xs sep w hcells hbk h2 hle h1
theorem bJ' {h:aI} {B:aV} {out:Nat->Nat} {M:Mem} {w:World} {r:PV} {v:Value} (hmem:zX M w) (hheap:qO M B w h) (hcnt:∀ b,aU w h B b+out b<=1) (hnew:∀ b,w.heap.size<=b->aU w h B b+out b=0)
 (hr:Rep M B r v) (ho:r.own=false):Post h B out M w r h v M B w :=
 ⟨hmem,dJ.refl _ _,Fr.refl _ _ _,hheap,hr,fG ho,fun b _=>by rw[dO ho]; exact bW _,fun b=>by rw[dO ho]; exact hcnt b,fun b hb=>by rw[dO ho]; exact hnew b hb⟩
theorem aNI {M:Mem} {B:aV} {w:World} {o:Option (bSH)} (hheap:qO M B w [o]):∃ c,B = [c]:=by
 have:=hheap.1;match B,this with
 | [c],_=>exact ⟨c,rfl⟩
theorem aR3 {M:Mem} {B:aV} {p:PV} {vals:Array Value} (hv:bC M B [p] vals.toList):∃ u,vals = #[u]/\Rep M B p u:=by obtain ⟨u1,us,e1,r1,hv⟩:=dD.1 hv;rw[eu] at hv; subst hv;exact ⟨u1,by rw[<- oK]; exact e1,r1⟩
theorem aVQ (l:bSI):Ev Tryz.prog 162 [.ptr 0 0] [some [.cZ 119 0,.dB l]] (.tuple []) [some [.cZ 119 0,.dB l]]:=by
 refine ⟨by kernel_rfl,fun out M B w vals hmem hheap hcnt hnew hv => ?_⟩;obtain ⟨c,rfl⟩:=aNI hheap;obtain ⟨u,rfl,hu⟩:=aR3 hv;obtain ⟨c',⟨hc',_⟩,rfl⟩:=wQ.1 hu;simp at hc'; subst hc';obtain ⟨c',hc',vs,ty,o1,⟨o2,o2'⟩,o3,o4,o5⟩:=hheap.2 0 _ rfl;simp at hc'; subst hc';obtain ⟨v0,hv0,hr0,_,_⟩:=o4 0 _ rfl;obtain ⟨c2,hc2,hp⟩:=Fj.1 hr0;simp at hc2; subst hc2;obtain ⟨hc3,hp⟩:=hp.2 (by decide);have hs2:vs.size=2:=by rw[o2,hc3]
 have ht2:ty=119+1:=by rw[o2',hc3]
 subst ht2;obtain ⟨ty,hty,o1⟩:=ER o1 (by decide);have ht2:ty=119:=by injection hty with h; exact h.symm
 have hcell:w.cell? ⟨c.1,0,none⟩=some v0:=by simp[World.cell?,o1,hv0]
 rcases hp with rfl | rfl
 .refine (aUB c.1 w hcell (by simp[World.shape?,o1,hs2,ht2]) (by simp[World.frozen?,o1])).mono ?_;rintro e w' ⟨rfl,rfl⟩;have hI:Inv 0 M [c] out ⟨lY 0 [],[some [.cZ 119 0,.dB l]]⟩ (#[] ++ Array.replicate (0-0) undef) w:=aQ7 (vals := #[]) (args := []) (by simp) hmem hheap hcnt hnew (eu.2 rfl);have hfp:=fun (t:Array Value) (w:World) b=>aP' (B := [c]) (args := []) (h := [some [.cZ 119 0,.dB l]]) t w b
  obtain ⟨g1,g2,g3,_,_⟩:=hI.setCell (i:=0) (j:=0) (p := .cZ 119 0) (v := .pointer (some ⟨c.1,0,none⟩)) rfl rfl (by rw[hc3]; decide) (by simp) (Fj.2 ⟨c,rfl,(fun h=>absurd h (by decide)),fun _=>⟨hc3,.inr rfl⟩⟩) (fG rfl) rfl (fun b=>by rw[hfp,dO rfl]; exact hcnt b) (fun b _=>dO rfl _ _);have k1:Inv 0 M [c] out ⟨lY 0 [],[some [.cZ 119 0,.dB l]]⟩ (#[] ++ Array.replicate (0-0) undef) (w.setCell ⟨c.1,0,none⟩ (.pointer (some ⟨c.1,0,none⟩))):=g1;have k2:∀ b,fp [c] ⟨lY 0 [],[some [.cZ 119 0,.dB l]]⟩ (#[] ++ Array.replicate (0-0) undef) (w.setCell ⟨c.1,0,none⟩ (.pointer (some ⟨c.1,0,none⟩))) b<=fp [c] ⟨lY 0 [],[some [.cZ 119 0,.dB l]]⟩ (#[] ++ Array.replicate (0-0) undef) w b+bI (.cZ 119 0) (.pointer (some ⟨c.1,0,none⟩)) b:=g2;refine ⟨_,M,[c],rfl,⟨k1.mem,dJ.refl _ _,g3.mono fun b hb h0=>by rw[hfp]; exact h0,k1.heap,tJ.2 ⟨_,rfl,eu.2 rfl⟩,fG rfl,fun b hb => ?_,fun b => ?_,fun b hb => ?_⟩⟩
  .have h:=k2 b;rw[hfp,hfp,dO rfl] at h;rw[dO rfl]; exact h
  .have h:=k1.cnt b;rw[hfp] at h;rw[dO rfl]; exact h
  .have h:=k1.new b hb;rw[hfp] at h;rw[dO rfl]; exact h
 .refine (aUD c.1 w hcell).mono ?_;rintro e w' ⟨rfl,rfl⟩;exact ⟨_,M,[c],rfl,bJ' hmem hheap hcnt hnew (tJ.2 ⟨_,rfl,eu.2 rfl⟩) rfl⟩
theorem bMO {c:Nat×Nat×TypeId} {out:Nat->Nat} {M:Mem} {w w2:World} {l:bSI} {v:Value} {vs:Array Value} (hmem:zX M w) (hheap:qO M [c] w [some [.cZ 119 0,.dB l]]) (hcnt:∀ b,aU w [some [.cZ 119 0,.dB l]] [c] b+out b<=1) (hnew:∀ b,w.heap.size<=b->aU w [some [.cZ 119 0,.dB l]] [c] b+out b=0)
 {ty:TypeId} (hrow:w.heap[c.1]? = some (.cells vs ty (0,0))) (hv:vs[1]? = some v) (h1:∀ x,x<w.heap.size->bI (.dB l) v x=0->w2.heap[x]? = w.heap[x]?) (h2:∀ b o u,w.cell? ⟨b,o,none⟩=some u->w2.cell? ⟨b,o,none⟩=some u)
 (hos:w2.os=w.os) (htape:w2.tape=w.tape) (hout:w2.output=w.output) (hsize:w.heap.size<=w2.heap.size) :
 Post [some [.cZ 119 0,.dB l]] [c] out M w (.str ⟨l.toArray⟩) [some [.cZ 119 0,.sl false 1 (mF l)]] (.string ⟨l.toArray⟩) M [c] w2:=by
 obtain ⟨c',hc',vs',ty',o1,o2,o3,o4,o5⟩:=hheap.2 0 _ rfl;simp at hc'; subst hc';rw[CZ hrow] at o1;injection o1 with o1; injection o1 with e1 e2; subst e1; subst e2
 have hcl:gZ w c.1=vs.toList:=by simp[gZ,CZ hrow]
 have hvl:vs.toList[1]? = some v:=by simpa using hv
 have hown:∀ b,(if c.1=b then 1 else 0)+bI (.dB l) v b<=aU w [some [.cZ 119 0,.dB l]] [c] b:=fun b=>by have g1:=kU (w:=w) (h := [some [.cZ 119 0,.dB l]]) (B := [c]) (i:=0) b rfl rfl;have g2:=xh (cs := [.cZ 119 0,.dB l]) (vs:=vs.toList) (j:=1) b rfl hvl;rw[hcl] at g1; omega
 have hc0:bI (.dB l) v c.1=0:=by have:=hown c.1; have:=hcnt c.1;rw[aJ rfl] at *; omega
 have hlt:c.1<w.heap.size:=(wu.1 hrow).1;have hrow2:w2.heap[c.1]? = some (.cells vs ty (0,0)):=(h1 c.1 hlt hc0).trans hrow;have hown2:∀ b,aU w2 [some [.cZ 119 0,.sl false 1 (mF l)]] [c] b<=if c.1=b then 1 else 0:=fun b=>by
  simp only[aU];have:∀ vl,dN [.cZ 119 0,.sl false 1 (mF l)] vl b=0:=fun vl=>by
   match vl with
   | []=>rfl
   | [x]=>simp[dN,bI,PV.own]
   | x::y::r=>simp[dN,bI,PV.own]
  rw[this]; omega
 refine ⟨fun b o u e => ?_,dJ.refl _ _,⟨hos,htape,hout,hsize,fun b hb h0=>⟨h1 b hb (by have:=hown b; omega),fun _=>rfl⟩⟩,⟨rfl,fun i cs hi => ?_⟩,iT.2 rfl,fG rfl,fun b hb => ?_,fun b => ?_,fun b hb => ?_⟩
 .obtain ⟨g1,g2⟩:=hmem b o u e;exact ⟨h2 b o u g1,g2⟩
 .match i,hi with
  | 0,hi =>
   simp at hi; subst hi;refine ⟨c,rfl,vs,ty+1,CZ hrow2,o2,by simpa using o3,fun j p hj => ?_,o5⟩;match j,hj with
   | 0,hj =>simp at hj; subst hj;obtain ⟨u,a1,a2,a3,a4⟩:=o4 0 _ rfl;exact ⟨u,a1,a2,fG rfl,a4⟩
   | 1,hj =>simp at hj; subst hj;obtain ⟨u,a1,a2,a3,a4⟩:=o4 1 _ rfl;exact ⟨u,a1,Uc.2 a2,fG rfl,a4⟩
   | j+2,hj=>simp at hj
  | i+1,hi=>simp at hi
 .rw[dO rfl]; have:=hown2 b; have:=hown b; omega
 .rw[dO rfl]; have:=hown2 b; have:=hown b; have:=hcnt b; omega
 .rw[dO rfl]; have:=hown2 b; have:=hown b; have:=hnew b (oM hsize hb); omega
section
variable {P:Program} {ρ:Ren}
set_option maxHeartbeats 2000000 in
set_option maxRecDepth 100000 in
theorem a9Y (L:Lays.n169 P ρ) (X:Builder.Extra P ρ) (T:TypeId) (b n cap:Nat) (A q:Option Addr) (p:Value) (r:ByteArray) (w w2:World) (hbk:w.heap[b]? = some (.cells #[p,.slice A n cap] T (0,0)))
 (hSD:(Builtin.unsafeSliceData_ #[(ρ.t 37)] (ρ.t 127) #[.slice A n cap]).run P w.drew = .ok (.pointer q) w.drew)
 (hUS:(Builtin.unsafeString_ #[(ρ.t 127),(ρ.t 3)] (ρ.t 9) #[.pointer q,.int .i64 n]).run P w.drew = .ok (.string r) w2) :
 Calls P (ρ.f 169) #[.pointer (some ⟨b,0,none⟩)] w fun e w'=>e = .returned (.string r)/\w'=w2:=by
 have c1:w.drew.cell? ⟨b,1,none⟩=some (.slice A n cap):=by have:w.drew.heap[b]? = some (.cells #[p,.slice A n cap] T (0,0)):=hbk;rw[Lib.cell_of_heap this]; rfl
 have mixed:=L.mixed;have t72:=L.t72; have a72:=L.a72; have z72:=L.z72; have v72:=L.v72; have u72:=ed L.t72;have t70:=L.t70; have a70:=L.a70; have z70:=L.z70; have v70:=L.v70; have u70:=ed L.t70;have t37:=L.t37; have a37:=L.a37; have z37:=L.z37; have v37:=L.v37; have u37:=ed L.t37;have t127:=L.t127; have a127:=L.a127; have z127:=L.z127; have v127:=L.v127; have u127:=ed L.t127;have t3:=L.t3; have a3:=L.a3; have z3:=L.z3; have v3:=L.v3; have u3:=ed L.t3;have t9:=L.t9; have a9:=L.a9; have z9:=L.z9; have v9:=L.v9; have u9:=ed L.t9;have t5:=X.t5; have a5:=X.a5; have z5:=X.z5; have v5:=X.v5; have u5:=ed X.t5;go_enter L.f169,Body.n169_ntmps ρ
 go_wp2
 go_region_o
 all_goals (go_wp2; go_ret; exact ⟨rfl,rfl⟩)
set_option maxHeartbeats 2000000 in
set_option maxRecDepth 100000 in
theorem bMP (L:Lays.n169 P ρ) (X:Builder.Extra P ρ) (T:TypeId) (b g:Nat) (cur:Array Value) (p:Value) (w:World) (hbk:w.heap[b]? = some (.cells #[p,.slice (some ⟨g,0,none⟩) 0 0] T (0,0))) (hg:w.heap[g]? = some (.cells cur (ρ.t 5) (0,0))) :
 Calls P (ρ.f 169) #[.pointer (some ⟨b,0,none⟩)] w fun e w'=>e = .returned (.string ⟨#[]⟩)/\∃ u:World,u.heap=w.heap/\u.os=w.os/\u.tape=w.tape/\u.output=w.output/\w'=u.alloc (.view ⟨g,0,none⟩ (ρ.t 5)):=by
 have hUS:=Any.unsafeString_none L X;have hlt:b<w.heap.size:=(wu.1 hbk).1;have c1:w.drew.cell? ⟨b,1,none⟩=some (.slice (some ⟨g,0,none⟩) 0 0):=by have:w.drew.heap[b]? = some (.cells #[p,.slice (some ⟨g,0,none⟩) 0 0] T (0,0)):=hbk;rw[Lib.cell_of_heap this]; rfl
 have hSD:(Builtin.unsafeSliceData_ #[(ρ.t 37)] (ρ.t 127) #[.slice (some ⟨g,0,none⟩) 0 0]).run P w.drew = .ok (.pointer (some ⟨w.drew.heap.size,0,none⟩)) (w.drew.alloc (.view ⟨g,0,none⟩ (ρ.t 5))) :=Lib.run_unsafeSliceData_zero w.drew _ _ (ρ.t 5) L.t127 ⟨g,0,none⟩ 0 ((ρ.t 5),cur.size) (by have hg':w.drew.heap[g]? = some (.cells cur (ρ.t 5) (0,0)):=hg; simp[World.shape?,hg']);have c2:(w.drew.alloc (.view ⟨g,0,none⟩ (ρ.t 5))).cell? ⟨b,1,none⟩=some (.slice (some ⟨g,0,none⟩) 0 0):=by have:(w.drew.alloc (.view ⟨g,0,none⟩ (ρ.t 5))).heap[b]? = _:=(Lib.alloc_old w.drew _ b hlt).trans hbk;rw[Lib.cell_of_heap this]; rfl
 have c3:(w.alloc (.view ⟨g,0,none⟩ (ρ.t 5))).drew.cell? ⟨b,1,none⟩=some (.slice (some ⟨g,0,none⟩) 0 0):=c2;have c0:w.cell? ⟨b,1,none⟩=some (.slice (some ⟨g,0,none⟩) 0 0):=c1;have mixed:=L.mixed;have t72:=L.t72; have a72:=L.a72; have z72:=L.z72; have v72:=L.v72; have u72:=ed L.t72;have t70:=L.t70; have a70:=L.a70; have z70:=L.z70; have v70:=L.v70; have u70:=ed L.t70;have t37:=L.t37; have a37:=L.a37; have z37:=L.z37; have v37:=L.v37; have u37:=ed L.t37;have t127:=L.t127; have a127:=L.a127; have z127:=L.z127; have v127:=L.v127; have u127:=ed L.t127;have t3:=L.t3; have a3:=L.a3; have z3:=L.z3; have v3:=L.v3; have u3:=ed L.t3;have t9:=L.t9; have a9:=L.a9; have z9:=L.z9; have v9:=L.v9; have u9:=ed L.t9;have t5:=X.t5; have a5:=X.a5; have z5:=X.z5; have v5:=X.v5; have u5:=ed X.t5;go_enter L.f169,Body.n169_ntmps ρ
 go_wp2
 go_region_o
 all_goals (go_wp2; go_ret; exact ⟨rfl,w.drew,rfl,rfl,rfl,rfl,rfl⟩)
end
theorem aEU {w:World} {b g n:Nat} (hb:b≠g):(w.drew.freeze ⟨g,0,none⟩ n).heap[b]? = w.heap[b]? := by
 unfold World.freeze;split
 .rfl
 .show (w.heap.modify g _)[b]? = _;rw[Array.getElem?_modify,aK (Ne.symm hb)]
theorem aWD {w:World} {g n:Nat} {cs:Array Value} {ty:TypeId} (h:w.heap[g]? = some (.cells cs ty (0,0))) (hn:n≠0):(w.drew.freeze ⟨g,0,none⟩ n).heap[g]? = some (.cells cs ty (0,0+n)):=by unfold World.freeze;rw[aK hn];show (w.heap.modify g _)[g]? = _;rw[Array.getElem?_modify,aJ rfl,h];rfl
theorem aVO (l:bSI):Ev Tryz.prog 53 [.ptr 0 0] [some [.cZ 119 0,.dB l]] (.str ⟨l.toArray⟩) [some [.cZ 119 0,.sl false 1 (mF l)]]:=by
 refine ⟨by kernel_rfl,fun out M B w vals hmem hheap hcnt hnew hv => ?_⟩;obtain ⟨c,rfl⟩:=aNI hheap;obtain ⟨u,rfl,hu⟩:=aR3 hv;obtain ⟨c',⟨hc',_⟩,rfl⟩:=wQ.1 hu;simp at hc'; subst hc';obtain ⟨c',hc',vs,ty,o1,⟨o2,o2'⟩,o3,o4,o5⟩:=hheap.2 0 _ rfl;simp at hc'; subst hc';obtain ⟨v0,hv0,hr0,_,_⟩:=o4 0 _ rfl;obtain ⟨c2,hc2,hp⟩:=Fj.1 hr0;simp at hc2; subst hc2;obtain ⟨hc3,_⟩:=hp.2 (by decide);obtain ⟨v1,hv1,hr1,ht1,_⟩:=o4 1 _ rfl;have hs2:vs.size=2:=by rw[o2,hc3]
 have ht2:ty=119+1:=by rw[o2',hc3]
 subst ht2;obtain ⟨ty,hty,o1⟩:=ER o1 (by decide);have ht2:ty=119:=by injection hty with h; exact h.symm
 subst ht2;have hvs:vs = #[v0,v1]:=by
  apply Q3;match hl:vs.toList,(show vs.toList.length=2 by simpa using hs2) with
  | [x,y],_ =>
   have e0:vs.toList[0]? = some v0:=by simpa using hv0
   have e1:vs.toList[1]? = some v1:=by simpa using hv1
   rw[hl] at e0 e1;simp at e0 e1;rw[e0,e1]
 have hrow:w.heap[c.1]? = some (.cells #[v0,v1] 119 (0,0)):=by rw[<- hvs]; exact o1
 obtain ⟨A,cap,rfl,hle,hA⟩:=ZX.1 hr1;obtain ⟨t1,t2⟩:=ht1.t l A _ cap rfl rfl;have hkeep:∀ b o u,w.cell? ⟨b,o,none⟩=some u->w.drew.cell? ⟨b,o,none⟩=some u:=fun _ _ _ h=>h
 have hpost:=fun (w2:World) h1 h2 a1 a2 a3 a4=>bMO (w2:=w2) hmem hheap hcnt hnew o1 hv1 h1 h2 a1 a2 a3 a4
 cases A with
 | none =>have hc0:=t1 rfl;subst hc0;have hl:l = []:=qK (by omega);subst hl;refine (a9Y Tryz.lays169 JI 119 c.1 0 0 none none v0 ⟨#[]⟩ w w.drew hrow rfl (Any.unsafeString_none Tryz.lays169 JI _ _)).mono ?_;rintro e w' ⟨rfl,rfl⟩;exact ⟨_,M,[c],rfl,hpost w.drew (fun _ _ _=>rfl) hkeep rfl rfl rfl (bW _)⟩
 | some a =>
  obtain ⟨cs,g1,g2,g3,g4,g5,g6⟩:=t2 a rfl;obtain ⟨g,off,sp⟩:=a;simp only at g1 g4 g5 g6;subst g5; subst g6;by_cases hl:l = []
  .subst hl;by_cases hc0:cap=0
   .subst hc0;refine (bMP Tryz.lays169 JI 119 c.1 g cs v0 w hrow g1).mono ?_;rintro e w' ⟨rfl,x,x1,x2,x3,x4,rfl⟩;have hold:∀ b,b<w.heap.size->(x.alloc (.view ⟨g,0,none⟩ (Tryz.lays169_ren.t 5))).heap[b]? = w.heap[b]? := fun b hb=>by rw[<- x1]; exact GY _ _ b (by rw[x1]; exact hb)
    refine ⟨_,M,[c],rfl,hpost _ (fun b hb _=>hold b hb) (fun b o u h => ?_) x2 x3 x4 (by rw[World.size_alloc,x1]; omega)⟩;exact (Lt (hold b (yB _ _ h))).trans h
   .refine (a9Y Tryz.lays169 JI 119 c.1 0 cap (some ⟨g,0,none⟩) (some ⟨g,0,none⟩) v0 ⟨#[]⟩ w w.drew hrow (Lib.run_unsafeSliceData_row _ _ _ _ _ _ hc0) (Any.unsafeString_none Tryz.lays169 JI _ _)).mono ?_;rintro e w' ⟨rfl,rfl⟩;exact ⟨_,M,[c],rfl,hpost w.drew (fun _ _ _=>rfl) hkeep rfl rfl rfl (bW _)⟩
  .have hlen:l.length≠0:=fun h=>hl (qK h)
   obtain ⟨b',off',e1,hcells⟩:=hA hl;cases e1;refine (a9Y Tryz.lays169 JI 119 c.1 l.length cap (some ⟨g,0,none⟩) (some ⟨g,0,none⟩) v0 ⟨l.toArray⟩ w (w.drew.freeze ⟨g,0,none⟩ l.length) hrow (Lib.run_unsafeSliceData_row _ _ _ _ _ _ (by omega)) ?_).mono ?_
   .refine Lib.run_unsafeString_row w.drew _ _ _ (Tryz.lays169_ren.t 5) (Lays.n169.t127 Tryz.lays169) (Builder.Extra.cellsByte JI) g cs.size (by have hg':w.drew.heap[g]? = some (.cells cs Gz (0,0)):=g1; simp[World.shape?,hg']; rfl) l hl (by omega) (by unfold maxLen at g3; omega) ?_;intro j x hx;have h:=(hmem g (0+j) _ (hcells j x hx)).1;rw[kW] at h;have e:(⟨g,0,none⟩:Addr).add j=⟨g,j,none⟩:=by
     unfold Addr.add;split
     .rename_i h0; rw[h0]
     .rw[kW]
    rw[e]; exact h
   .rintro e w' ⟨rfl,rfl⟩;refine ⟨_,M,[c],rfl,hpost _ (fun b hb h0 => ?_) (fun b o u h => ?_) ?_ ?_ ?_ ?_⟩
    .have hbg:b≠g:=fun e=>by subst e; simp[bI,PV.own] at h0
     exact aEU hbg
    .by_cases hbg:b=g
     .subst hbg;unfold World.cell? at h ⊢;simp only[aWD g1 hlen];simp only[g1] at h; exact h
     .exact (Lt (aEU hbg)).trans h
    .unfold World.freeze; rw[aK hlen]; rfl
    .unfold World.freeze; rw[aK hlen]; rfl
    .unfold World.freeze; rw[aK hlen]; rfl
    .unfold World.freeze; rw[aK hlen];show w.heap.size<=(w.heap.modify g _).size;simp
def Qi:Int:=4611686018427387904
def CS:Cal:=fun g args h=>match g,args,h with
 | 99,[.str s],h=>some (Cc (rX s.data.toList),h)
 | 35,[.int .i64 n],h=>(match decide (0<=n)&&decide (n<Qi) with | true=>some (.str ⟨(Lib.decDigits n.toNat).toArray⟩,h) | false=>none)
 | 293,[.str s,.int .u8 c],h=>some (.int .i64 (Lib.indexByte s.data.toList c.toNat.toUInt8),h)
 | 30,[.str s,.int .i64 n],h=>(match decide (0<=n)&&(Nat.ble n.toNat 9223372036854775807&&Nat.ble (s.size*n.toNat) 140737488355328) with
  | true=>some (.str ⟨(Lib.repeatL s.data.toList n.toNat).toArray⟩,h)
  | false=>none)
 | 41,[.str s,.str x],h=>(match Nat.ble s.size 1073741824 with
  | true=>some (.bool (Lib.contains s.data.toList x.data.toList),h)
  | false=>none)
 | 15,[.sl _ 1 es,.str sep],h=>(match strsOf es with
  | some xs=>(match Nat.ble (FI xs sep).length 140737488355328&&Nat.ble xs.length 140737488355328 with
   | true=>some (.str ⟨(FI xs sep).toArray⟩,h)
   | false=>none)
  | none=>none)
 | 53,[.ptr 0 0],[some [.cZ 119 0,.dB l]]=>some (.str ⟨l.toArray⟩,[some [.cZ 119 0,.sl false 1 (mF l)]])
 | 162,[.ptr 0 0],[some [.cZ 119 0,.dB l]]=>some (.tuple [],[some [.cZ 119 0,.dB l]])
 | _,_,_=>none
theorem bK0 {M:Mem} {w:World} (hm:zX M w):Gm Tryz.prog Tryz.laysM171_ren w:=fun i hi=>by
 refine (hm _ i _ (M.g _ _ _ ?_)).1;show BI M.m (Tryz.laysM171_ren.g 17) i=_;have e:(aA1 M.m).lookup (Tryz.laysM171_ren.g 17)=some (Lib.pow10Tab.map (Value.int .u64)):=by kernel_rfl
 unfold BI;rw[e,xA,iU];unfold Lib.pow10Tab;simp[hi]
theorem aVR (n:Int) (h0:0<=n) (h1:n<Qi) (h:aI):Ev Tryz.prog 35 [.int .i64 n] h (.str ⟨(Lib.decDigits n.toNat).toArray⟩) h:=by
 unfold Qi at h1;have ev:∀ {M:Mem} {B:aV} {vals:Array Value},bC M B [.int .i64 n] vals.toList->vals = #[.int .i64 n]:=fun hv=>by obtain ⟨u1,us,e1,r1,hv⟩:=dD.1 hv;rw[eu] at hv; subst hv;rw[dS] at r1; subst r1;rw[<- oK]; exact e1
 by_cases hs:n<100
 .refine a1N (v := .string ⟨(Lib.decDigits n.toNat).toArray⟩) (by kernel_rfl) (fun _ _=>iT.2 rfl) rfl (fun M B w vals hv => ?_) h;rw[ev hv];have:=bDL n.toNat (by omega) w;rwa [Lh h0] at this
 .refine (X4 (v := .string ⟨(Lib.decDigits n.toNat).toArray⟩) (by kernel_rfl) (fun _ _=>iT.2 rfl) rfl fun M w vals hm hv => ?_).frame' rfl rfl h;rw[ev hv];have:=bDK Tryz.laysM171 n.toNat (by omega) (by omega) w (bK0 hm);rwa [Lh h0] at this
theorem bO9 {M:Mem} {B:aV} {p q:PV} {vals:Array Value} (hv:bC M B [p,q] vals.toList):∃ u v,vals = #[u,v]/\Rep M B p u/\Rep M B q v:=a02 hv
theorem aTJ:Builder.Extra Tryz.prog Tryz.lays105_ren where
 sizeBuilder:=by kernel_rfl
 liesBuilder:=by kernel_rfl
 t5:=Tryz.underlying5
 a5:=Tryz.isAgg5
 z5:=Tryz.sizeOf5
 v5:=Tryz.zeroValue5
 infoByte:=by kernel_rfl
 cellsByte:=by kernel_rfl
 sizeByte:=by kernel_rfl
 neB5:=by decide
theorem bKP (s:ByteArray) (c:Nat) (w:World) (hc:c<=9223372036854775807) (hlen:s.size*c<=140737488355328) :
 Calls Tryz.prog 30 #[.string s,.int .i64 c] w fun e w'=>e = .returned (.string ⟨(Lib.repeatL s.data.toList c).toArray⟩)/\Below w.heap.size w w' :=
 Any.strings_Repeat Tryz.lays105 aTJ s c w hc hlen
theorem aVU (s:ByteArray) (n:Int) (h0:0<=n) (h1:n.toNat<=9223372036854775807) (h2:s.size*n.toNat<=140737488355328):Ev Tryz.prog 30 [.str s,.int .i64 n] [] (.str ⟨(Lib.repeatL s.data.toList n.toNat).toArray⟩) []:=by
 refine X4 (v := .string ⟨(Lib.repeatL s.data.toList n.toNat).toArray⟩) (by kernel_rfl) (fun _ _=>iT.2 rfl) rfl fun M w vals hmem hv => ?_
 obtain ⟨u,v,rfl,hu,hv⟩:=a02 hv;rw[iT.1 hu,dS.1 hv];have:=bKP s n.toNat w h1 h2;rwa [Lh h0] at this
theorem bGN {M:Mem} {w:World} (hm:zX M w):w.cell? ⟨Tryz.lays144_ren.g 1,0,none⟩=some (.int .i64 M.m):=by refine (hm _ 0 _ (M.g _ _ _ ?_)).1;show BI M.m (Tryz.lays144_ren.g 1) 0=_;rfl
theorem aVP (s x:ByteArray) (h1:s.size<4294967281) (h:aI):Ev Tryz.prog 41 [.str s,.str x] h (.bool (Lib.contains s.data.toList x.data.toList)) h:=by refine (X4 (v := .bool (Lib.contains s.data.toList x.data.toList)) (by kernel_rfl) (fun _ _=>jo.2 rfl) rfl fun M w vals hmem hv => ?_).frame' rfl rfl h;obtain ⟨u,v,rfl,hu,hv⟩:=a02 hv;rw[iT.1 hu,iT.1 hv];refine (Any.strings_Contains Tryz.lays144 s x M.m w h1 (bGN hmem)).mono ?_;rintro e w' ⟨rfl,rfl⟩;exact ⟨rfl,Below.refl _ _⟩
theorem aW9 (ts:List Tok):PV.flats (ts.map ay)=true:=by
 induction ts with
 | nil=>rfl
 | cons t ts ih=>rw[qm]; simp[PV.flats,PV.flat,ay,ih]
theorem aW7 (r:Gp):(Cc r).flat=true:=by
 cases r with
 | ok ts=>simp[Cc,PV.flat,PV.flats,aW9]
 | err a b e=>rfl
theorem aRI:o6 Tryz.prog CS:=by
 intro g args h r h' hv;unfold CS at hv;split at hv
 .rename_i h s;cases hv;have:=aVM s.data.toList;have e:bs s.data.toList=s:=by cases s; simp[bs]
  rw[e] at this;exact this.frame' (aW7 _) rfl _
 .rename_i h n;split at hv
  .rename_i hc;cases hv;simp only[au,iy] at hc;exact aVR n hc.1 hc.2 _
  .cases hv
 .rename_i h s c;cases hv;refine a1N (v := .int .i64 (Lib.indexByte s.data.toList c.toNat.toUInt8)) (by kernel_rfl) (fun _ _=>dS.2 rfl) rfl (fun M B w vals hv => ?_) _;obtain ⟨u,v,rfl,hu,hv⟩:=bO9 hv;rw[iT.1 hu,dS.1 hv];exact Any.stringslite_IndexByte Tryz.lays217 s c w
 .rename_i h s n;split at hv
  .rename_i hc;cases hv;simp only[au,iy] at hc;exact (aVU s n hc.1 (QH hc.2.1) (QH hc.2.2)).frame' rfl rfl _
  .cases hv
 .rename_i h s x;split at hv
  .rename_i hc;cases hv;exact aVP s x (by have:=QH hc; omega) _
  .cases hv
 .rename_i h o es sep;split at hv
  .rename_i xs hx;split at hv
   .rename_i hc;cases hv;simp only[au] at hc;rw[aQH hx];exact (aVS o xs sep (QH hc.1) (QH hc.2)).frame' rfl (by simp[PV.flats,PV.flat,aW8]) _
   .cases hv
  .cases hv
 .rename_i l;cases hv;exact aVO l
 .rename_i l;cases hv;exact aVQ l
 .cases hv
end Go.Proofs.YtcdceiloganlnaaGreatDoor
namespace Go.Proofs.YtcdceiloganlnaaGreatDoor
end Go.Proofs.YtcdceiloganlnaaGreatDoor
namespace Go.Proofs.YtcdceiloganlnaaGreatDoor.W
open Go.RowKit
set_option maxRecDepth 1000000
section
abbrev bSD (n:Int):PV:=.int .i64 n
abbrev bSE (l:bSH):PV:=.sl false 1 l
abbrev bSF:PV:=.ptr 0 0
abbrev bSG:=ByteArray
abbrev S0:List Sh := [.S,.L false 5,.L false 9,.L false 3,.L false 3,.L false 2,.L false 3]
abbrev A0 (u:Sh.V S0):PV := .agg [.str u.1,.sl false 5 u.2.1,.sl false 9 u.2.2.1,.sl false 3 u.2.2.2.1,.sl false 3 u.2.2.2.2.1,.sl false 2 u.2.2.2.2.2.1,.sl false 3 u.2.2.2.2.2.2.1]
abbrev S1:List Sh := [.I .i64,.I .i64,.I .i64,.L false 4]
abbrev A1 (u:Sh.V S1):PV := .agg [.int .i64 u.1,.int .i64 u.2.1,.int .i64 u.2.2.1,.sl false 4 u.2.2.2.1]
abbrev S4:List Sh := [.S,.B,.B,.B,.I .i64]
abbrev A4 (u:Sh.V S4):PV := .agg [.str u.1,.bool u.2.1,.bool u.2.2.1,.bool u.2.2.2.1,.int .i64 u.2.2.2.2.1]
abbrev O4 (u:Sh.V S4):Option (bSH):=some [.str u.1,.bool u.2.1,.bool u.2.2.1,.bool u.2.2.2.1,.int .i64 u.2.2.2.2.1]
abbrev S5:List Sh := [.S,.L false 1,.L false 1,.L false 1,.I .i64,.I .i64,.L false 1,.L false 4,.L false 8]
abbrev A5 (u:Sh.V S5):PV := .agg [.str u.1,.sl false 1 u.2.1,.sl false 1 u.2.2.1,.sl false 1 u.2.2.2.1,.int .i64 u.2.2.2.2.1,.int .i64 u.2.2.2.2.2.1,.sl false 1 u.2.2.2.2.2.2.1,.sl false 4 u.2.2.2.2.2.2.2.1,.sl false 8 u.2.2.2.2.2.2.2.2.1]
abbrev S6:List Sh := [.L false 1,.I .i64,.I .i64,.L false 1,.L false 4,.L false 8]
abbrev A6 (u:Sh.V S6):PV := .agg [.sl false 1 u.1,.int .i64 u.2.1,.int .i64 u.2.2.1,.sl false 1 u.2.2.2.1,.sl false 4 u.2.2.2.2.1,.sl false 8 u.2.2.2.2.2.1]
abbrev O6 (u:Sh.V S6):Option (bSH):=some [.sl false 1 u.1,.int .i64 u.2.1,.int .i64 u.2.2.1,.sl false 1 u.2.2.2.1,.sl false 4 u.2.2.2.2.1,.sl false 8 u.2.2.2.2.2.1]
abbrev S7:List Sh := [.S,.I .i64,.I .i64,.I .i64]
abbrev A7 (u:Sh.V S7):PV := .agg [.str u.1,.int .i64 u.2.1,.int .i64 u.2.2.1,.int .i64 u.2.2.2.1]
abbrev O7 (u:Sh.V S7):Option (bSH):=some [.str u.1,.int .i64 u.2.1,.int .i64 u.2.2.1,.int .i64 u.2.2.2.1]
abbrev S8:List Sh := [.S,.S,.L false 1]
abbrev A8 (u:Sh.V S8):PV := .agg [.str u.1,.str u.2.1,.sl false 1 u.2.2.1]
abbrev O8 (u:Sh.V S8):Option (bSH):=some [.str u.1,.str u.2.1,.sl false 1 u.2.2.1]
abbrev S9:List Sh := [.I .i64,.I .i64,.I .i64,.I .i64,.I .i64,.I .i64,.L false 4,.L false 5]
abbrev A9 (u:Sh.V S9):PV := .agg [.int .i64 u.1,.int .i64 u.2.1,.int .i64 u.2.2.1,.int .i64 u.2.2.2.1,.int .i64 u.2.2.2.2.1,.int .i64 u.2.2.2.2.2.1,.sl false 4 u.2.2.2.2.2.2.1,.sl false 5 u.2.2.2.2.2.2.2.1]
abbrev O9 (u:Sh.V S9):Option (bSH):=some [.int .i64 u.1,.int .i64 u.2.1,.int .i64 u.2.2.1,.int .i64 u.2.2.2.1,.int .i64 u.2.2.2.2.1,.int .i64 u.2.2.2.2.2.1,.sl false 4 u.2.2.2.2.2.2.1,.sl false 5 u.2.2.2.2.2.2.2.1]
abbrev je:List Sh := [.S,.L false 2]
abbrev zB (u:Sh.V je):PV := .agg [.str u.1,.sl false 2 u.2.1]
abbrev yE (u:Sh.V je):Option (bSH):=some [.str u.1,.sl false 2 u.2.1]
abbrev tq:List Sh := [.I .i64,.I .i64,.I .i64,.I .i64,.L false 4]
abbrev A11 (u:Sh.V tq):PV := .agg [.int .i64 u.1,.int .i64 u.2.1,.int .i64 u.2.2.1,.int .i64 u.2.2.2.1,.sl false 4 u.2.2.2.2.1]
abbrev O11 (u:Sh.V tq):Option (bSH):=some [.int .i64 u.1,.int .i64 u.2.1,.int .i64 u.2.2.1,.int .i64 u.2.2.2.1,.sl false 4 u.2.2.2.2.1]
abbrev zG:List Sh := [.S,.S]
abbrev zC (u:Sh.V zG):PV := .agg [.str u.1,.str u.2.1]
abbrev iW:List Sh := [.S,.L false 2,.I .i64]
abbrev uT (u:Sh.V iW):PV := .agg [.str u.1,.sl false 2 u.2.1,.int .i64 u.2.2.1]
abbrev vY (u:Sh.V iW):Option (bSH):=some [.str u.1,.sl false 2 u.2.1,.int .i64 u.2.2.1]
abbrev AC:List Sh := [.S,.I .i64]
abbrev QP (u:Sh.V AC):PV := .agg [.str u.1,.int .i64 u.2.1]
abbrev gY:List Sh := [.L true 5]
abbrev aF (u:Sh.V gY):Option (bSH):=some [.sl true 5 u.1]
abbrev aH:List Sh := [.L false 5,.I .i64,.I .i64,.I .i64]
abbrev aB (u:Sh.V aH):Option (bSH):=some [.sl false 5 u.1,.int .i64 u.2.1,.int .i64 u.2.2.1,.int .i64 u.2.2.2.1]
abbrev MR:List Sh := [.pt 1 0,.I .i64,.L false 1]
abbrev S18:List Sh := [.pt 1 0,.S,.L true 5,.L true 9,.L true 3,.L true 3,.L true 2,.L true 3,.L false 1,.I .i64]
abbrev MS:List Sh := [.I .i64]
abbrev iV (u:Sh.V MS):Option (bSH):=some [.int .i64 u.1]
abbrev S20:List Sh := [.I .u8,.I .u8,.I .u8]
abbrev S21:List Sh := [.I .u8,.I .u8,.I .u8,.I .u8]
abbrev ku:List Sh := [.S,.L true 2]
abbrev kM (u:Sh.V ku):Option (bSH):=some [.str u.1,.sl true 2 u.2.1]
abbrev jS:List Sh := [.S,.L true 5,.L true 9,.L true 3,.L true 3,.L true 2,.L true 3]
abbrev bZ (u:Sh.V jS):Option (bSH):=some [.str u.1,.sl true 5 u.2.1,.sl true 9 u.2.2.1,.sl true 3 u.2.2.2.1,.sl true 3 u.2.2.2.2.1,.sl true 2 u.2.2.2.2.2.1,.sl true 3 u.2.2.2.2.2.2.1]
abbrev jf:List Sh := [.S,.S,.L true 1]
abbrev qQ (u:Sh.V jf):Option (bSH):=some [.str u.1,.str u.2.1,.sl true 1 u.2.2.1]
abbrev S26:List Sh := [.I .u8,.I .u8,.I .u8,.I .u8,.L false 2,.L false 3,.L false 1]
abbrev S27:List Sh := [.I .i8,.I .i8,.I .i8]
abbrev jI:List Sh := [.pt 1 0,.I .i64,.L true 1]
abbrev kE (u:Sh.V jI):Option (bSH):=some [.ptr 1 0,.int .i64 u.1,.sl true 1 u.2.1]
abbrev lS:List Sh := [.I .i64,.S,.I .i64,.I .i64,.I .i64]
abbrev kD (u:Sh.V lS):PV := .agg [.int .i64 u.1,.str u.2.1,.int .i64 u.2.2.1,.int .i64 u.2.2.2.1,.int .i64 u.2.2.2.2.1]
abbrev O30 (u:Sh.V lS):Option (bSH):=some [.int .i64 u.1,.str u.2.1,.int .i64 u.2.2.1,.int .i64 u.2.2.2.1,.int .i64 u.2.2.2.2.1]
abbrev jv:List Sh := [.pt 2 0,.I .i64,.L true 1]
abbrev fB (u:Sh.V jv):Option (bSH):=some [.ptr 2 0,.int .i64 u.1,.sl true 1 u.2.1]
abbrev Vh:List Sh := [.fn 134]
abbrev S33:List Sh := [.M]
abbrev O33 (u:Sh.V S33):Option (bSH):=some [.mp u.1]
abbrev S34:List Sh := [.L false 3,.L false 3]
abbrev A34 (u:Sh.V S34):PV := .agg [.sl false 3 u.1,.sl false 3 u.2.1]
abbrev S35:List Sh := [.B,.B,.B]
abbrev A35 (u:Sh.V S35):PV := .agg [.bool u.1,.bool u.2.1,.bool u.2.2.1]
abbrev lT:List Sh := [.pt 0 0]
abbrev uZ:List Sh := [.bd 119 0,.Y]
abbrev oP (u:Sh.V uZ):Option (bSH):=some [.cZ 119 0,.dB u.1]
abbrev Es:List Sh := [.B]
abbrev vZ (u:Sh.V Es):Option (bSH):=some [.bool u.1]
abbrev MV:List Sh := [.bd 119 1,.Y]
abbrev BJ (u:Sh.V MV):Option (bSH):=some [.cZ 119 1,.dB u.1]
abbrev Ql:List Sh := [.bd 119 0,.L false 1]
abbrev S41:List Sh := [.pt 2 0,.S,.L true 5,.L true 9,.L true 3,.L true 3,.L true 2,.L true 3,.L false 1,.I .i64]
abbrev ve:List Sh := [.L true 1]
abbrev jC (u:Sh.V ve):Option (bSH):=some [.sl true 1 u.1]
abbrev nz:List Sh := [.pt 1 0]
abbrev dA:List Sh := [.pt 1 0,.S,.L true 5,.L true 9,.L true 3,.L true 3,.L true 2,.L true 3,.L true 1,.I .i64]
abbrev bP (u:Sh.V dA):Option (bSH):=some [.ptr 1 0,.str u.1,.sl true 5 u.2.1,.sl true 9 u.2.2.1,.sl true 3 u.2.2.2.1,.sl true 3 u.2.2.2.2.1,.sl true 2 u.2.2.2.2.2.1,.sl true 3 u.2.2.2.2.2.2.1,.sl true 1 u.2.2.2.2.2.2.2.1,.int .i64 u.2.2.2.2.2.2.2.2.1]
abbrev jJ:List Sh := [.S,.L true 1,.L true 1,.L true 1,.I .i64,.I .i64,.L true 1,.L true 4,.L true 8]
abbrev qR (u:Sh.V jJ):Option (bSH):=some [.str u.1,.sl true 1 u.2.1,.sl true 1 u.2.2.1,.sl true 1 u.2.2.2.1,.int .i64 u.2.2.2.2.1,.int .i64 u.2.2.2.2.2.1,.sl true 1 u.2.2.2.2.2.2.1,.sl true 4 u.2.2.2.2.2.2.2.1,.sl true 8 u.2.2.2.2.2.2.2.2.1]
abbrev Vj:List Sh := [.I .i64,.I .i64,.I .i64,.I .i64,.I .i64,.I .i64,.L false 4,.L true 5]
abbrev BL:List Sh := [.pt 4 0,.I .i64,.L true 1]
abbrev mD (u:Sh.V BL):Option (bSH):=some [.ptr 4 0,.int .i64 u.1,.sl true 1 u.2.1]
abbrev kF:List Sh := [.pt 2 0]
abbrev jD:List Sh := [.pt 3 0]
abbrev AL:List Sh := [.pt 2 0,.S,.L true 5,.L true 9,.L true 3,.L true 3,.L true 2,.L true 3,.L true 1,.I .i64]
abbrev BK (u:Sh.V AL):Option (bSH):=some [.ptr 2 0,.str u.1,.sl true 5 u.2.1,.sl true 9 u.2.2.1,.sl true 3 u.2.2.2.1,.sl true 3 u.2.2.2.2.1,.sl true 2 u.2.2.2.2.2.1,.sl true 3 u.2.2.2.2.2.2.1,.sl true 1 u.2.2.2.2.2.2.2.1,.int .i64 u.2.2.2.2.2.2.2.2.1]
abbrev qw:List Sh := [.pt 1 0,.S,.L true 5,.L true 9,.L false 3,.L true 3,.L true 2,.L true 3,.L true 1,.I .i64]
abbrev uV (u:Sh.V qw):Option (bSH):=some [.ptr 1 0,.str u.1,.sl true 5 u.2.1,.sl true 9 u.2.2.1,.sl false 3 u.2.2.2.1,.sl true 3 u.2.2.2.2.1,.sl true 2 u.2.2.2.2.2.1,.sl true 3 u.2.2.2.2.2.2.1,.sl true 1 u.2.2.2.2.2.2.2.1,.int .i64 u.2.2.2.2.2.2.2.2.1]
abbrev qx:List Sh := [.pt 1 0,.S,.L true 5,.L true 9,.L true 3,.L false 3,.L true 2,.L true 3,.L true 1,.I .i64]
abbrev uX (u:Sh.V qx):Option (bSH):=some [.ptr 1 0,.str u.1,.sl true 5 u.2.1,.sl true 9 u.2.2.1,.sl true 3 u.2.2.2.1,.sl false 3 u.2.2.2.2.1,.sl true 2 u.2.2.2.2.2.1,.sl true 3 u.2.2.2.2.2.2.1,.sl true 1 u.2.2.2.2.2.2.2.1,.int .i64 u.2.2.2.2.2.2.2.2.1]
abbrev S56:List Sh := [.I .i8,.I .i8]
abbrev S58:List Sh := [.fn 232]
abbrev MX:List Sh := [.pt 2 0,.I .i64,.L false 1]
abbrev S60:List Sh := [.I .i64,.I .i64,.B]
abbrev uf:List Sh := [.pt 0 0,.S,.L true 5,.L true 9,.L true 3,.L true 3,.L true 2,.L true 3,.L true 1,.I .i64]
abbrev DX (u:Sh.V uf):Option (bSH):=some [.ptr 0 0,.str u.1,.sl true 5 u.2.1,.sl true 9 u.2.2.1,.sl true 3 u.2.2.2.1,.sl true 3 u.2.2.2.2.1,.sl true 2 u.2.2.2.2.2.1,.sl true 3 u.2.2.2.2.2.2.1,.sl true 1 u.2.2.2.2.2.2.2.1,.int .i64 u.2.2.2.2.2.2.2.2.1]
abbrev Vk:List Sh := [.pt 0 0,.S,.L true 5,.L true 9,.L false 3,.L true 3,.L true 2,.L true 3,.L true 1,.I .i64]
abbrev O62 (u:Sh.V Vk):Option (bSH):=some [.ptr 0 0,.str u.1,.sl true 5 u.2.1,.sl true 9 u.2.2.1,.sl false 3 u.2.2.2.1,.sl true 3 u.2.2.2.2.1,.sl true 2 u.2.2.2.2.2.1,.sl true 3 u.2.2.2.2.2.2.1,.sl true 1 u.2.2.2.2.2.2.2.1,.int .i64 u.2.2.2.2.2.2.2.2.1]
abbrev Vl:List Sh := [.pt 0 0,.S,.L true 5,.L true 9,.L true 3,.L false 3,.L true 2,.L true 3,.L true 1,.I .i64]
abbrev O63 (u:Sh.V Vl):Option (bSH):=some [.ptr 0 0,.str u.1,.sl true 5 u.2.1,.sl true 9 u.2.2.1,.sl true 3 u.2.2.2.1,.sl false 3 u.2.2.2.2.1,.sl true 2 u.2.2.2.2.2.1,.sl true 3 u.2.2.2.2.2.2.1,.sl true 1 u.2.2.2.2.2.2.2.1,.int .i64 u.2.2.2.2.2.2.2.2.1]
abbrev S64:List Sh := [.S,.L true 2,.I .i64]
abbrev Vf (u:Sh.V S64):Option (bSH):=some [.str u.1,.sl true 2 u.2.1,.int .i64 u.2.2.1]
abbrev lU:List Sh := [.pt 3 0,.I .i64,.L true 1]
abbrev oQ (u:Sh.V lU):Option (bSH):=some [.ptr 3 0,.int .i64 u.1,.sl true 1 u.2.1]
abbrev tu:List Sh := [.pt 0 0,.I .i64,.L true 1]
abbrev DY (u:Sh.V tu):Option (bSH):=some [.ptr 0 0,.int .i64 u.1,.sl true 1 u.2.1]
abbrev BM:List Sh := [.pt 3 0,.S,.L true 5,.L true 9,.L true 3,.L true 3,.L true 2,.L true 3,.L true 1,.I .i64]
abbrev Gl (u:Sh.V BM):Option (bSH):=some [.ptr 3 0,.str u.1,.sl true 5 u.2.1,.sl true 9 u.2.2.1,.sl true 3 u.2.2.2.1,.sl true 3 u.2.2.2.2.1,.sl true 2 u.2.2.2.2.2.1,.sl true 3 u.2.2.2.2.2.2.1,.sl true 1 u.2.2.2.2.2.2.2.1,.int .i64 u.2.2.2.2.2.2.2.2.1]
abbrev S69:List Sh := [.pt 3 0,.S,.L true 5,.L true 9,.L false 3,.L true 3,.L true 2,.L true 3,.L true 1,.I .i64]
abbrev S70:List Sh := [.pt 3 0,.S,.L true 5,.L true 9,.L true 3,.L false 3,.L true 2,.L true 3,.L true 1,.I .i64]
def vvT (g:TypeId):Option RS:=tl g 97 (tl g 31 (tl g 11 (tl g 5 (tl g 3 (te g 2 (some (.ti .i64)) none) (tl g 4 (te g 3 (some (.ti .i64)) none) (te g 4 (some (.tb)) none))) (tl g 9 (tl g 6 (te g 5 (some (.ti .u8)) none) (te g 6 (some (.ti .u8)) none)) (tl g 10 (te g 9 (some (.ts)) none) (te g 10 (some (.ts)) none)))) (tl g 23 (tl g 21 (tl g 12 (te g 11 (some (.ts)) none) (te g 12 (some (.ti .u64)) none)) (tl g 22 (te g 21 (some (.ti .i32)) none) (te g 22 (some (.tl false 5)) none))) (tl g 25 (tl g 24 (te g 23 (some (.tl false 9)) none) (te g 24 (some (.tl false 3)) none)) (tl g 26 (te g 25 (some (.tl false 2)) none) (te g 26 (some (.tl false 3)) none))))) (tl g 65 (tl g 59 (tl g 40 (tl g 34 (te g 31 (some (.ti .i64)) none) (te g 34 (some (.tl false 1)) none)) (tl g 42 (te g 40 (some (.tl false 4)) none) (te g 42 (some (.g S1)) none))) (tl g 61 (tl g 60 (te g 59 (some (.tl false 7)) none) (te g 60 (some (.tl false 3)) none)) (tl g 62 (te g 61 (some (.tl false 4)) none) (te g 62 (some (.tl false 3)) none)))) (tl g 85 (tl g 83 (tl g 82 (te g 65 (some (.ti .u16)) none) (te g 82 (some (.g S4)) none)) (tl g 84 (te g 83 (some (.tl false 1)) none) (te g 84 (some (.tl false 4)) none))) (tl g 94 (tl g 89 (te g 85 (some (.tl false 8)) none) (te g 89 (some (.g S5)) none)) (tl g 95 (te g 94 (some (.g S7)) none) (te g 95 (some (.tl false 5)) none)))))) (tl g 186 (tl g 112 (tl g 105 (tl g 102 (tl g 99 (te g 97 (some (.g S9)) none) (te g 99 (some (.g tq)) none)) (tl g 103 (te g 102 (some (.g S8)) none) (te g 103 (some (.tl false 2)) none))) (tl g 108 (tl g 107 (te g 105 (some (.g je)) none) (te g 107 (some (.g zG)) none)) (tl g 110 (te g 108 (some (.tl false 2)) none) (te g 110 (some (.g iW)) none)))) (tl g 130 (tl g 122 (tl g 117 (te g 112 (some (.g AC)) none) (te g 117 (some (.tl false 1)) none)) (tl g 126 (te g 122 (some (.z (.ni))) none) (te g 126 (some (.tl false 1)) none))) (tl g 180 (tl g 175 (te g 130 (some (.tl false 5)) none) (te g 175 (some (.ti .u64)) none)) (tl g 182 (te g 180 (some (.tl false 2)) none) (te g 182 (some (.g S26)) none))))) (tl g 263 (tl g 192 (tl g 188 (tl g 187 (te g 186 (some (.g S20)) none) (te g 187 (some (.g S21)) none)) (tl g 189 (te g 188 (some (.ti .i8)) none) (te g 189 (some (.g S27)) none))) (tl g 236 (tl g 219 (te g 192 (some (.g lS)) none) (te g 219 (some (.tl false 1)) none)) (tl g 260 (te g 236 (some (.tl false 1)) none) (te g 260 (some (.ti .u32)) none)))) (tl g 354 (tl g 300 (tl g 288 (te g 263 (some (.ti .u64)) none) (te g 288 (some (.tl false 2)) none)) (tl g 330 (te g 300 (some (.g S56)) none) (te g 330 (some (.g S60)) none))) (tl g 357 (tl g 355 (te g 354 (some (.ti .u8)) none) (te g 355 (some (.ti .u8)) none)) (tl g 358 (te g 357 (some (.ti .i32)) none) (te g 358 (some (.ti .i32)) none))))))
def w0:jg:=([],.tb,[])
def w1:jg:=([],.ti .i64,[])
def w2:jg:=([],.ts,[])
def w3:jg:=([],.tl false 1,[])
def w4:jg:=([],.t [(false,[.S]),(false,[.I .i64])],[])
def w5:jg:=([],.t [(true,S1),(false,[.I .i64]),(false,[.I .i64]),(false,[.I .i64])],[])
def w6:jg:=([],.tl true 1,[])
def w7:jg:=([],.t [(true,S0),(false,[.I .i64]),(false,[.I .i64]),(false,[.I .i64])],[])
def w8:jg:=([.c gY],.t [],[.c gY])
def w9:jg:=([.c MR,.c aH],.g S1,[.c MR,.c aH])
def w10:jg:=([.c jI,.c aH],.g S1,[.c jI,.c aH])
def w11:jg:=([.c aH],.t [],[.c aH])
def w14:jg:=([],.g S1,[])
def w15:jg:=([],.tl false 5,[])
def w16:jg:=([.c aH],.g lS,[.c aH])
def Pj:jg:=([.c jv,.c jS,.c aH],.t [],[.c jv,.c jS,.c aH])
def w18:jg:=([.z Vh],.tb,[.z Vh])
def w19:jg:=([.z S58],.tb,[.z S58])
def w20:jg:=([.c S7],.tb,[.c S7])
def w21:jg:=([.c aH],.tb,[.c aH])
def w26:jg:=([.z nz,.c gY],.t [],[.z nz,.c gY])
def VA:jg:=([.c dA,.c aH],.t [],[.c dA,.c aH])
def Pm:jg:=([.z kF,.z jD,.c BL,.c jS,.c aH],.t [],[.z kF,.z jD,.c BL,.c jS,.c aH])
def w29:jg:=([.z nz,.c AL,.c aH],.tb,[.z nz,.c AL,.c aH])
def w30:jg:=([.c jv,.c jJ,.c aH],.t [],[.c jv,.c jJ,.c aH])
def w31:jg:=([.c jI,.c aH],.ti .i64,[.c jI,.c aH])
def w32:jg:=([.z nz,.c MX,.c aH],.g S1,[.z nz,.c MX,.c aH])
def w33:jg:=([.z nz,.c jv,.c aH],.g S1,[.z nz,.c jv,.c aH])
def w34:jg:=([.c dA,.c aH],.ti .i64,[.c dA,.c aH])
def wwT (g:FuncId):List jg:=tl g 150 (tl g 80 (tl g 50 (tl g 29 (tl g 19 (tl g 15 (tl g 12 (te g 9 [w0] []) (tl g 14 (te g 12 [w0] []) (te g 14 [w1] []))) (tl g 17 (tl g 16 (te g 15 [w2] []) (te g 16 [w3] [])) (tl g 18 (te g 17 [w4] []) (te g 18 [w1] [])))) (tl g 25 (tl g 21 (te g 19 [w2] []) (tl g 23 (te g 21 [w5] []) (te g 23 [w0] []))) (tl g 27 (tl g 26 (te g 25 [w0] []) (te g 26 [w0] [])) (tl g 28 (te g 27 [([],.t [(false,[.I .i64]),(false,[.I .i64])],[])] []) (te g 28 [w4] []))))) (tl g 41 (tl g 35 (tl g 30 (te g 29 [w6] []) (tl g 31 (te g 30 [w2] []) (te g 31 [w0] []))) (tl g 37 (tl g 36 (te g 35 [w2] []) (te g 36 [w7] [])) (tl g 40 (te g 37 [w0] []) (te g 40 [([],.t [(false,[.S]),(false,[.I .i64]),(false,[.I .i64]),(false,[.I .i64])],[])] [])))) (tl g 46 (tl g 43 (te g 41 [w0] []) (tl g 45 (te g 43 [w0] []) (te g 45 [([],.tl true 3,[])] []))) (tl g 48 (tl g 47 (te g 46 [w1] []) (te g 47 [w1] [])) (tl g 49 (te g 48 [w1] []) (te g 49 [w1] [])))))) (tl g 65 (tl g 58 (tl g 54 (tl g 52 (te g 50 [w1] []) (tl g 53 (te g 52 [([.c uZ],.t [(false,[.I .i64]),(false,[.ni])],[.c uZ])] []) (te g 53 [([.c uZ],.ts,[.c Ql])] []))) (tl g 56 (tl g 55 (te g 54 [w3] []) (te g 55 [w3] [])) (tl g 57 (te g 56 [w6] []) (te g 57 [w8] [])))) (tl g 61 (tl g 59 (te g 58 [w4] []) (tl g 60 (te g 59 [w3] []) (te g 60 [w2] []))) (tl g 63 (tl g 62 (te g 61 [w3] []) (te g 62 [w2] [])) (tl g 64 (te g 63 [w3] []) (te g 64 [w2] []))))) (tl g 72 (tl g 68 (tl g 66 (te g 65 [w3] []) (tl g 67 (te g 66 [w2] []) (te g 67 [w1] []))) (tl g 70 (tl g 69 (te g 68 [w1] []) (te g 69 [w1] [])) (tl g 71 (te g 70 [w1] []) (te g 71 [w1] [])))) (tl g 76 (tl g 74 (tl g 73 (te g 72 [w1] []) (te g 73 [w1] [])) (tl g 75 (te g 74 [w1] []) (te g 75 [w1] []))) (tl g 78 (tl g 77 (te g 76 [w1] []) (te g 77 [w1] [])) (tl g 79 (te g 78 [w1] []) (te g 79 [w1] []))))))) (tl g 111 (tl g 94 (tl g 87 (tl g 83 (tl g 81 (te g 80 [w1] []) (tl g 82 (te g 81 [w1] []) (te g 82 [w1] []))) (tl g 85 (tl g 84 (te g 83 [w1] []) (te g 84 [w0] [])) (tl g 86 (te g 85 [w1] []) (te g 86 [w1] [])))) (tl g 90 (tl g 88 (te g 87 [w1] []) (tl g 89 (te g 88 [w1] []) (te g 89 [w1] []))) (tl g 92 (tl g 91 (te g 90 [w1] []) (te g 91 [w0] [])) (tl g 93 (te g 92 [w0] []) (te g 93 [w1] []))))) (tl g 101 (tl g 97 (tl g 95 (te g 94 [w1] []) (tl g 96 (te g 95 [w1] []) (te g 96 [w1] []))) (tl g 99 (tl g 98 (te g 97 [w1] []) (te g 98 [w1] [])) (tl g 100 (te g 99 [([],.t [(false,[.L false 5]),(false,[.I .i64]),(false,[.I .i64]),(false,[.I .i64])],[])] []) (te g 100 [([],.z (.pt 0 0),[.c aH])] [])))) (tl g 106 (tl g 103 (tl g 102 (te g 101 [w6] []) (te g 102 [w9,w10] [])) (tl g 104 (te g 103 [w11] []) (te g 104 [([.c aH],.t [(false,[.I .i64]),(false,[.I .i64]),(false,[.I .i64])],[.c aH])] []))) (tl g 109 (tl g 108 (te g 106 [w0] []) (te g 108 [w1] [])) (tl g 110 (te g 109 [([.c MS],.ti .i64,[.c MS])] []) (te g 110 [w1] [])))))) (tl g 133 (tl g 118 (tl g 114 (tl g 112 (te g 111 [w0] []) (tl g 113 (te g 112 [w0] []) (te g 113 [w8] []))) (tl g 116 (tl g 115 (te g 114 [w4] []) (te g 115 [w1] [])) (tl g 117 (te g 116 [w14] []) (te g 117 [w14] [])))) (tl g 129 (tl g 122 (te g 118 [w2] []) (tl g 128 (te g 122 [w7] []) (te g 128 [w11] []))) (tl g 131 (tl g 130 (te g 129 [([.c aH],.ts,[.c aH])] []) (te g 130 [([.c jI,.c aH],.tb,[.c jI,.c aH])] [])) (tl g 132 (te g 131 [w16] []) (te g 132 [Pj] []))))) (tl g 142 (tl g 138 (tl g 134 (te g 133 [w11] []) (tl g 137 (te g 134 [w0] []) (te g 137 [w18] []))) (tl g 140 (tl g 139 (te g 138 [w0] []) (te g 139 [w0] [])) (tl g 141 (te g 140 [w0] []) (te g 141 [w0,w19] [])))) (tl g 146 (tl g 144 (tl g 143 (te g 142 [w0] []) (te g 143 [w0] [])) (tl g 145 (te g 144 [w18,w0] []) (te g 145 [w0] []))) (tl g 148 (tl g 147 (te g 146 [w0] []) (te g 147 [w0] [])) (tl g 149 (te g 148 [w0] []) (te g 149 [w0] [])))))))) (tl g 227 (tl g 186 (tl g 171 (tl g 164 (tl g 159 (tl g 151 (te g 150 [w0] []) (tl g 158 (te g 151 [w0] []) (te g 158 [w1] []))) (tl g 161 (tl g 160 (te g 159 [w1] []) (te g 160 [w1] [])) (tl g 162 (te g 161 [w1] []) (te g 162 [([.c uZ],.t [],[.c uZ])] [])))) (tl g 167 (tl g 165 (te g 164 [w0] []) (tl g 166 (te g 165 [w8] []) (te g 166 [w8] []))) (tl g 169 (tl g 168 (te g 167 [w8] []) (te g 168 [w8] [])) (tl g 170 (te g 169 [w8] []) (te g 170 [([.c gY,.z lT,.c je],.t [],[.c gY,.z lT,.c je]),([.c gY,.z lT,.c iW],.t [],[.c gY,.z lT,.c iW]),([.c gY,.z lT,.c ve,.c S9],.t [],[.c gY,.z lT,.c ve,.c S9]),([.c gY,.z lT],.t [],[.c gY,.z lT])] []))))) (tl g 178 (tl g 174 (tl g 172 (te g 171 [([.z kF,.c je,.c gY],.t [],[.z kF,.c je,.c gY])] []) (tl g 173 (te g 172 [([.z kF,.c iW,.c gY],.t [],[.z kF,.c iW,.c gY])] []) (te g 173 [([.c Es,.c MV],.t [],[.c Es,.c MV])] []))) (tl g 176 (tl g 175 (te g 174 [([.c uZ],.z (.ni),[.c uZ])] []) (te g 175 [w15] [])) (tl g 177 (te g 176 [w1] []) (te g 177 [w1] [])))) (tl g 182 (tl g 180 (tl g 179 (te g 178 [w1] []) (te g 179 [w1] [])) (tl g 181 (te g 180 [w3] []) (te g 181 [w1] []))) (tl g 184 (tl g 183 (te g 182 [w1] []) (te g 183 [w1] [])) (tl g 185 (te g 184 [w1] []) (te g 185 [w1] [])))))) (tl g 205 (tl g 193 (tl g 189 (tl g 187 (te g 186 [w20,w0] []) (tl g 188 (te g 187 [w0] []) (te g 188 [w1] []))) (tl g 191 (tl g 190 (te g 189 [w1] []) (te g 190 [w1] [])) (tl g 192 (te g 191 [w1] []) (te g 192 [w0] [])))) (tl g 197 (tl g 194 (te g 193 [w1] []) (tl g 196 (te g 194 [w0] []) (te g 196 [w9,w10] []))) (tl g 203 (tl g 202 (te g 197 [w21] []) (te g 202 [([],.t [(false,[.I .i64]),(false,[.B])],[])] [])) (tl g 204 (te g 203 [w0] []) (te g 204 [([.c ve],.tb,[.c ve])] []))))) (tl g 215 (tl g 208 (tl g 206 (te g 205 [w0] []) (tl g 207 (te g 206 [w0] []) (te g 207 [w1] []))) (tl g 210 (tl g 209 (te g 208 [w26] []) (te g 209 [w0] [])) (tl g 214 (te g 210 [w0] []) (te g 214 [([.c dA,.c aH],.tb,[.c dA,.c aH]),([.c S18,.c aH],.tb,[.c S18,.c aH])] [])))) (tl g 223 (tl g 221 (tl g 220 (te g 215 [VA] []) (te g 220 [w16] [])) (tl g 222 (te g 221 [Pm] []) (te g 222 [Pj] []))) (tl g 225 (tl g 224 (te g 223 [Pm] []) (te g 224 [Pj] [])) (tl g 226 (te g 225 [Pm] []) (te g 226 [Pj] []))))))) (tl g 277 (tl g 248 (tl g 241 (tl g 230 (tl g 228 (te g 227 [Pm] []) (tl g 229 (te g 228 [Pm] []) (te g 229 [Pj] []))) (tl g 237 (tl g 231 (te g 230 [Pm] []) (te g 231 [Pj] [])) (tl g 240 (te g 237 [w20] []) (te g 240 [w1] [])))) (tl g 244 (tl g 242 (te g 241 [w6] []) (tl g 243 (te g 242 [([.z jD,.c ve,.c S9,.c gY],.t [],[.z jD,.c ve,.c S9,.c gY])] []) (te g 243 [w26] []))) (tl g 246 (tl g 245 (te g 244 [([.a],.o (.H 0 0 5),[.a]),w15] []) (te g 245 [([],.tl true 5,[])] [])) (tl g 247 (te g 246 [w0] []) (te g 247 [([.c S7],.ti .i64,[.c S7]),w1] []))))) (tl g 263 (tl g 257 (tl g 254 (te g 248 [w1] []) (tl g 255 (te g 254 [w9,w10] []) (te g 255 [([.c MR,.c aH],.t [(false,[.I .i64]),(false,[.B]),(false,[.B])],[.c MR,.c aH]),([.c jI,.c aH],.t [(false,[.I .i64]),(false,[.B]),(false,[.B])],[.c jI,.c aH])] []))) (tl g 261 (tl g 258 (te g 257 [w21] []) (te g 258 [([.z nz,.c S41,.c aH],.ti .i64,[.z nz,.c S41,.c aH]),w1,([.z nz,.c AL,.c aH],.ti .i64,[.z nz,.c AL,.c aH])] [])) (tl g 262 (te g 261 [w29] []) (te g 262 [VA] [])))) (tl g 272 (tl g 265 (tl g 264 (te g 263 [VA] []) (te g 264 [([.c qw,.c aH],.g S8,[.c qw,.c aH]),([.c dA,.c aH],.g S8,[.c dA,.c aH]),([.c qx,.c aH],.g S8,[.c qx,.c aH])] [])) (tl g 266 (te g 265 [VA] []) (te g 266 [VA] []))) (tl g 275 (tl g 273 (te g 272 [([.c jI,.c aH],.ts,[.c jI,.c aH])] []) (te g 273 [w3] [])) (tl g 276 (te g 275 [([.c jI,.c aH],.tl false 1,[.c jI,.c aH])] []) (te g 276 [([.c aH],.ti .i64,[.c aH])] [])))))) (tl g 298 (tl g 284 (tl g 280 (tl g 278 (te g 277 [w2] []) (tl g 279 (te g 278 [([.c lU,.c jJ,.z lT,.c aH],.t [],[.c lU,.c jJ,.z lT,.c aH]),([.c lU,.c jf,.z lT,.c aH],.t [],[.c lU,.c jf,.z lT,.c aH])] []) (te g 279 [([.c jJ,.z kF,.c lU,.c aH],.t [],[.c jJ,.z kF,.c lU,.c aH])] []))) (tl g 282 (tl g 281 (te g 280 [([.c lU,.c jJ,.c Es,.c aH],.t [],[.c lU,.c jJ,.c Es,.c aH])] []) (te g 281 [w30] [])) (tl g 283 (te g 282 [w30] []) (te g 283 [w2] [])))) (tl g 287 (tl g 285 (te g 284 [([.c jf,.z kF,.c lU,.c aH],.t [],[.c jf,.z kF,.c lU,.c aH])] []) (tl g 286 (te g 285 [w2] []) (te g 286 [([.c aH,.c jJ,.z jD,.c uf],.t [],[.c aH,.c jJ,.z jD,.c uf]),([.c aH,.c jf,.z jD,.c Vk],.t [],[.c aH,.c jf,.z jD,.c Vk]),([.c aH,.c jf,.z jD,.c uf],.t [],[.c aH,.c jf,.z jD,.c uf]),([.c aH,.c jf,.z jD,.c Vl],.t [],[.c aH,.c jf,.z jD,.c Vl]),([.c aH,.z jD,.c ku,.c uf],.t [],[.c aH,.z jD,.c ku,.c uf]),([.c aH,.z jD,.c ku,.c tu],.t [],[.c aH,.z jD,.c ku,.c tu]),([.c aH,.z jD,.c Vj,.c uf],.t [],[.c aH,.z jD,.c Vj,.c uf]),([.c aH,.c jJ,.z jD,.c tu],.t [],[.c aH,.c jJ,.z jD,.c tu]),([.c aH,.z jD,.c Vj,.c tu],.t [],[.c aH,.z jD,.c Vj,.c tu]),([.c aH,.c jf,.z jD,.c tu],.t [],[.c aH,.c jf,.z jD,.c tu])] []))) (tl g 289 (tl g 288 (te g 287 [([.z kF,.c ku,.c lU,.c aH],.t [],[.z kF,.c ku,.c lU,.c aH])] []) (te g 288 [w2] [])) (tl g 297 (te g 289 [w31] []) (te g 297 [w6] []))))) (tl g 315 (tl g 308 (tl g 299 (te g 298 [w2] []) (tl g 307 (te g 299 [w1] []) (te g 307 [([.c MX,.z lT,.c aH],.g S1,[.c MX,.z lT,.c aH]),([.c jv,.z lT,.c aH],.g S1,[.c jv,.z lT,.c aH])] []))) (tl g 311 (tl g 310 (te g 308 [w32,w33] []) (te g 310 [w32,w33] [])) (tl g 314 (te g 311 [([.c MR,.c aH],.ti .i64,[.c MR,.c aH]),w31] []) (te g 314 [([.c dA,.c aH],.ts,[.c dA,.c aH]),([.c qw,.c aH],.ts,[.c qw,.c aH]),([.c qx,.c aH],.ts,[.c qx,.c aH])] [])))) (tl g 319 (tl g 317 (tl g 316 (te g 315 [([.c jJ,.z kF,.c BM,.c aH],.t [],[.c jJ,.z kF,.c BM,.c aH])] []) (te g 316 [w34] [])) (tl g 318 (te g 317 [([.c dA,.c aH],.g S9,[.c dA,.c aH])] []) (te g 318 [([.c jf,.z kF,.c S69,.c aH],.t [],[.c jf,.z kF,.c S69,.c aH]),([.c jf,.z kF,.c BM,.c aH],.t [],[.c jf,.z kF,.c BM,.c aH]),([.c jf,.z kF,.c S70,.c aH],.t [],[.c jf,.z kF,.c S70,.c aH])] []))) (tl g 328 (tl g 327 (te g 319 [([.z kF,.c ku,.c BM,.c aH],.t [],[.z kF,.c ku,.c BM,.c aH])] []) (te g 327 [([.z nz,.c jv,.c aH],.tl false 1,[.z nz,.c jv,.c aH])] [])) (tl g 335 (te g 328 [([.z nz,.c jv,.c aH],.tb,[.z nz,.c jv,.c aH])] []) (te g 335 [([.z nz,.c MX,.c aH],.t [],[.z nz,.c MX,.c aH]),([.z nz,.c jv,.c aH],.t [],[.z nz,.c jv,.c aH])] []))))))))
def d0:xE:=⟨[],[],[],[],[],[],[],[],[],[],[],[],false⟩
def jH (a0:List Nat):xE:=⟨a0,[],[],[],[],[],[],[],[],[],[],[],false⟩
def pZ2 (a0:List Nat) (a1:List Nat):xE:=⟨a0,a1,[],[],[],[],[],[],[],[],[],[],false⟩
def IU (a0:List Nat) (a1:List Nat) (a2:List Nat) (a3:List (Nat×List Nat)):xE:=⟨a0,a1,a2,a3,[],[],[],[],[],[],[],[],false⟩
def P5 (a0:List Nat) (a1:List Nat) (a2:List Nat) (a3:List (Nat×List Nat)) (a4:List (Nat×List Nat)):xE:=⟨a0,a1,a2,a3,a4,[],[],[],[],[],[],[],false⟩
def rU (a0:List Nat) (a1:List Nat) (a2:List Nat) (a3:List (Nat×List Nat)) (a4:List (Nat×List Nat)) (a5:List (Nat×List Nat)):xE:=⟨a0,a1,a2,a3,a4,a5,[],[],[],[],[],[],false⟩
def iK (a0:List Nat) (a1:List Nat) (a2:List Nat) (a3:List (Nat×List Nat)) (a4:List (Nat×List Nat)) (a5:List (Nat×List Nat)) (a6:List (Nat×List Nat)):xE:=⟨a0,a1,a2,a3,a4,a5,a6,[],[],[],[],[],false⟩
def jT (a0:List Nat) (a1:List Nat) (a2:List Nat) (a3:List (Nat×List Nat)) (a4:List (Nat×List Nat)) (a5:List (Nat×List Nat)) (a6:List (Nat×List Nat)) (a7:List Nat):xE:=⟨a0,a1,a2,a3,a4,a5,a6,a7,[],[],[],[],false⟩
def qE (a0:List Nat) (a1:List Nat) (a2:List Nat) (a3:List (Nat×List Nat)) (a4:List (Nat×List Nat)) (a5:List (Nat×List Nat)) (a6:List (Nat×List Nat)) (a7:List Nat) (a8:List (List Nat×Bool)):xE:=⟨a0,a1,a2,a3,a4,a5,a6,a7,a8,[],[],[],false⟩
def bJF (a0:List Nat) (a1:List Nat) (a2:List Nat) (a3:List (Nat×List Nat)) (a4:List (Nat×List Nat)) (a5:List (Nat×List Nat)) (a6:List (Nat×List Nat)) (a7:List Nat) (a8:List (List Nat×Bool)) (a9:List (Nat×List Nat)):xE:=⟨a0,a1,a2,a3,a4,a5,a6,a7,a8,a9,[],[],false⟩
def Oz (a0:List Nat) (a1:List Nat) (a2:List Nat) (a3:List (Nat×List Nat)) (a4:List (Nat×List Nat)) (a5:List (Nat×List Nat)) (a6:List (Nat×List Nat)) (a7:List Nat) (a8:List (List Nat×Bool)) (a9:List (Nat×List Nat)) (a10:List Nat):xE:=⟨a0,a1,a2,a3,a4,a5,a6,a7,a8,a9,a10,[],false⟩
def gy (a0:List Nat) (a1:List Nat) (a2:List Nat) (a3:List (Nat×List Nat)) (a4:List (Nat×List Nat)) (a5:List (Nat×List Nat)) (a6:List (Nat×List Nat)) (a7:List Nat) (a8:List (List Nat×Bool)) (a9:List (Nat×List Nat)) (a10:List Nat) (a11:List Nat):xE:=⟨a0,a1,a2,a3,a4,a5,a6,a7,a8,a9,a10,a11,false⟩
def bg:List Nat := [0,1]
def gU:List Nat := [0,0,0,4]
def iZ:List Nat := [0,0,1]
def jl:List Nat := [0,5,9,3,3,2,3]
def kJ:List Nat := [0,1,1,1,0,0,1,4,8]
def qc:List Nat := [0,2]
def qf:List Nat := [1,5,8,9,10]
def qg:List Nat := [0,1,2]
def qh:List Nat := [1,2,15,16,17]
def qi:List Nat := [0,1,7,8]
def tC:List Nat := [0,2,0]
def uK:List Nat := [0,1,12,13]
def xm:List Nat := [0,0,0,0,0,0,4,5]
def xq:List Nat := [1,8,9]
def zh:List Nat := [2,3]
def Aq:List Nat := [0,1,2,3]
def Ar:List Nat := [0,0,5,9,3,3,2,3,1,0]
def CW:List Nat := [5,0,0,0]
def Fh:List Nat := [0,1,5]
def KY:List Nat := [0,1,5,7,8,9,10]
def KZ:List Nat := [0,1,2,7,8,9,15,16,17]
def Ko:List Nat := [0,1,5,7,8]
def P9:List Nat := [0,1,5,12,13]
def PD:List Nat := [0,6,7,8]
def UV:List Nat := [1,0,0,1,4,8]
def UW:List Nat := [0,1,5,6,8,9]
def UX:List Nat := [1,5,6,56]
def ZM:List Nat := [1,3,25,26,27]
def ZN:List Nat := [1,3,116,117,118]
def ZO:List Nat := [1,3,23,24,25]
def ZP:List Nat := [1,3,6,95,96,97]
def ZQ:List Nat := [2,3,27,28,29]
def ZR:List Nat := [2,3,4,5,30,31,32]
def a7M:List Nat := [1,4,49,50,51]
def a7N:List Nat := [0,1,5,39,40,41]
def a7O:List Nat := [1,8,63,64,65]
def a7P:List Nat := [1,3,5,25,26,27,42,43,44]
def a7Q:List Nat := [1,3,72,73,74]
def a7R:List Nat := [1,3,88,89,90]
def a7S:List Nat := [1,3,116,117,118,128,129,130]
def a7T:List Nat := [3,153,154,155]
def a7U:List Nat := [3,18,153,154,155,165,166,167]
def a7V:List Nat := [1,4,26,27,28,32,33,34]
def a7W:List Nat := [1,8,59,60,61]
def a7X:List Nat := [1,8,11,101,102,103]
def a7Y:List Nat := [1,8,11,117,118,119]
def a7Z:List Nat := [1,8,11,17,117,118,119,166,167,168]
def a7':List Nat := [3,14,15,16,37,38,39]
def a81:List Nat := [1,3,15,16,17]
def a88:List Nat := [1,3,15,16,17,38,39,40]
def a8A:List Nat := [3,10,57,58,59]
def a8B:List Nat := [3,10,57,58,59,80,81,82]
def a8C:List Nat := [1,3,6,56,57,58]
def a8D:List Nat := [1,3,6,95,96,97,136,137,138]
def a8E:List Nat := [2,3,5,27,28,29,44,45]
def a8F:List Nat := [2,3,72,73,74]
def a8G:List Nat := [2,3,10,86,87,91,92,93]
def a8H:List Nat := [2,3,123,124,125]
def a8I:List Nat := [2,148,149,150]
def a8J:List Nat := [6,7,8,9,10,23,24,25]
def a8K:List Nat := [1,2,3,87,88,89]
def a8L:List Nat := [0,4,14,15,16]
def a8M:List Nat := [2,3,4,5,60,61,62]
def a8N:List Nat := [2,3,5,97,98,99]
def a8O:List Nat := [3,5,59,60,61]
def a8P:List Nat := [0,2,10,11,12]
def a8Q:List Nat := [1,2,13,14,15,56]
def a8R:List Nat := [1,5,56,234,235]
def a8S:List Nat := [1,2,3,18,19,20]
def a8T:List Nat := [1,2,10,11,12]
def a8U:List Nat := [0,2,12,13,14]
def a7J (g:FuncId):xE:=tl g 150 (tl g 80 (tl g 50 (tl g 29 (tl g 19 (tl g 15 (tl g 12 (te g 9 (rU [0,1,5,6,7,8,9,11,12,13,19,20] [] [] [] [(4,bg),(8,[1,5,6,19,20]),(11,[1,5,6,19,20]),(12,[1,5,6]),(15,[5,6,9]),(18,[6,11,12,13])] [(7,[1,5,6,19,20])]) d0) (tl g 14 (te g 12 (iK [1,2,3,4,5,6,7,10,11,12] [] [] [] [] [] [(1,jl),(7,gU)]) d0) (te g 14 (jT [0,1,3,4,6,7,8,9,49,50,51] [62] [] [(0,jl),(4,[1]),(49,[9])] [(4,[1]),(7,[1]),(9,[1]),(12,a7M),(16,[1,4,6,49,50,51]),(20,a7M),(21,[1]),(24,[1])] [(11,a7M)] [(1,jl),(6,kJ)] [1]) d0))) (tl g 17 (tl g 16 (te g 15 (iK [0,1,5,7,8,10,12,39,40,41,63,64,65] [] [] [(0,[1]),(39,[1]),(63,[1])] [(7,bg),(11,Fh),(12,Fh),(14,a7N),(17,[0,1,5,7,39,40,41]),(18,a7N),(19,Fh),(24,a7O),(27,a7O),(28,[8])] [(13,a7N),(23,a7O)] [(8,bg)]) d0) (te g 16 (gy [0,1,3,5,6,7,9,10,11,12,14,15,16,18,19,20,25,26,27,42,43,44,72,73,74,88,89,90,116,117,118,128,129,130,153,154,155,165,166,167] [31,50,61,67,78,100,122,135,148,159,172,189] [] [(0,jl),(3,[1]),(25,[5]),(42,[1]),(72,[9]),(88,[3]),(116,[2]),(128,[2]),(153,[3]),(165,[2])] [(5,ZM),(9,a7P),(12,a7P),(13,[1,3,5,25,26,27]),(15,ZM),(16,ZM),(17,[1,3]),(19,a7Q),(21,a7Q),(22,[1,3]),(24,a7R),(28,[1,3,11,12,88,89,90]),(29,a7R),(30,[1,3]),(32,ZN),(36,a7S),(38,a7S),(39,ZN),(40,ZN),(41,[1,3]),(43,a7T),(47,a7U),(49,a7U),(50,[3,18,153,154,155]),(51,a7T),(52,[3])] [(4,ZM),(8,a7P),(18,a7Q),(23,a7R),(31,ZN),(35,a7S),(42,a7T),(46,a7U)] [(1,jl),(9,kJ),(11,iZ),(14,qc),(18,tC)] [1] [([1],false)] [] [] [84,87,140,177]) d0)) (tl g 18 (te g 17 (jT [0,1,4,5,6,7] [] [] [(0,jl)] [(5,[1]),(10,[6]),(12,[6])] [] [(1,jl),(5,[5])] [1]) d0) (te g 18 (gy [0,1,3,4,5,6,7] [] [] [(0,jl)] [] [] [(1,jl),(3,[3]),(4,[1]),(5,[1]),(6,[1]),(7,[1])] [1] [] [(7,[9000003,9000004,9000005,9000006,9000007])] [] [9,12]) d0)))) (tl g 25 (tl g 21 (te g 19 (jT [0,1,3,7] [] [] [(0,jl),(3,[5])] [] [] [(1,jl)] [1]) d0) (tl g 23 (te g 21 (gy [0,1,4,5,6,7,8] [] [] [(0,[1])] [(8,[4])] [] [(4,gU)] [] [(gU,true),([],true),([],true),([],true)] [] [10] [10]) d0) (te g 23 (jT Aq [] [] [(0,gU),(1,gU)] [] [] [(2,gU),(3,gU)] zh) d0))) (tl g 27 (tl g 26 (te g 25 (IU bg [] [] [(0,[1])]) d0) (te g 26 (rU [0,3,4,5,7,8] [] [] [] [(4,[0,7,8]),(9,[0,7,8]),(10,[0])] [(3,[0,7,8])]) d0)) (tl g 28 (te g 27 (jT [0,1,2,4,6,7] [] [] [(0,gU)] [(4,[1,2]),(8,[2]),(11,[4])] [] [(2,gU)] [2]) d0) (te g 28 (jT [0,1,3,7,8] [] [] [(0,[1]),(1,gU)] [(4,[0,3]),(7,[0,3])] [] [(3,gU),(8,[5])] [3]) d0))))) (tl g 41 (tl g 35 (tl g 30 (te g 29 (gy [0,1,2,4,7,8,9,32] [95,105] [] [(0,[1]),(1,gU),(9,[1])] [(4,[0,4]),(6,[0,4]),(8,[0,4]),(20,[0,4]),(30,[0,4,7])] [] [(4,gU),(8,gU)] [4] [([1],true)] [] [] [21,25,120,122,125,131,133,138,140,144,150,152]) d0) (tl g 31 (te g 30 (iK [0,1,5,6,7,8,9,10,11,42] [] [] [] [(7,bg),(9,bg),(12,[0,6]),(15,[0,7]),(31,[0,7]),(36,[0,7,8]),(40,[7,8,9]),(42,[9])] [(39,[7,8,9])] [(9,bg)]) d0) (te g 31 (iK [0,3,4,5,6,7,8,9,10,11,12,13,14] [] [] [] [(7,[7,8,9,10,11,12,13,14]),(9,[7,11,12,13,14])] [] [(3,jl),(7,jl)]) d0))) (tl g 37 (tl g 36 (te g 35 (jH [0]) d0) (te g 36 (gy [0,2,3,4,5,6] [] [] [] [(7,[2,6]),(8,[2,6]),(10,[2,6]),(13,[2])] [(6,[2,6])] [(2,jl),(6,iZ)] [] [(jl,true),([],true),([],true),([],true)] [] [8,48] [8]) d0)) (tl g 40 (te g 37 (jT [0,1,2,3,5,6,7] [] [] [(0,jl),(1,jl)] [] [] [(2,jl),(3,jl)] zh) d0) (te g 40 (iK [0,2,3,4,5,6] [] [] [] [(5,[6]),(8,[2])] [] [(6,jl)]) d0)))) (tl g 46 (tl g 43 (te g 41 (jH bg) d0) (tl g 45 (te g 43 (IU bg [] [] [(0,[1])]) d0) (te g 45 (qE [0] [] [] [(0,[3])] [(4,[0])] [] [] [] [([3],true)]) d0))) (tl g 48 (tl g 47 (te g 46 (rU [0,3,5,10,11,12] [] [9] [(0,[5]),(10,[5])] [(4,[0]),(7,[3,10,11,12]),(16,[3,5,10,11,12]),(17,[3,10,11,12]),(18,[])] [(6,[3,10,11,12])]) d0) (te g 47 (P5 bg [] [] [(0,[1])] [(4,bg),(6,[])]) d0)) (tl g 49 (te g 48 (gy [0,1,4,5,6,7,8,9,10,11,12,13,15,17,18,19,20,21,26,27,28,32,33,34,59,60,61,101,102,103,117,118,119,166,167,168] [] [] [(0,kJ),(4,[1]),(26,[1]),(32,[1]),(59,[1]),(101,[4]),(117,[8]),(166,[5])] [(4,[1,26,27,28]),(7,a7V),(11,a7V),(12,[1,26,27,28]),(13,[1]),(16,[1,8]),(18,a7W),(21,a7W),(22,[1,8]),(25,[1,8,11]),(27,[1,8,11]),(30,[1,8,11]),(33,[1,8,11]),(35,a7X),(38,a7X),(39,[1,8,11]),(41,a7Y),(44,[1,8,11,17,117,118,119]),(47,[1,8,11,17,117,118,119]),(49,a7Z),(52,[1,8,11,17,19,20,117,118,119,166,167,168]),(54,[1,8,11,17,20,117,118,119,166,167,168]),(57,a7Z),(58,a7Y),(59,[])] [(3,[1,26,27,28]),(6,a7V),(17,a7W),(34,a7X),(40,a7Y),(48,a7Z)] [(1,kJ),(8,UV),(17,xm),(20,[0,0,0,0,4])] [1] [] [] [] [195]) d0) (te g 49 (gy [0,1,3,5,6,8,14,15,16,37,38,39] [27] [] [(0,jl),(3,[1]),(14,[3]),(37,[1])] [(5,[3,14,15,16]),(9,[3,5,14,15,16]),(12,a7'),(15,a7'),(16,[3,14,15,16]),(17,[])] [(4,[3,14,15,16]),(11,a7')] [(1,jl),(5,iZ)] [1] [] [] [] [10,13]) d0)))))) (tl g 65 (tl g 58 (tl g 54 (tl g 52 (te g 50 (jT [0,1,3,5,6,8,10,11,13,15,16,17,38,39,40,57,58,59,80,81,82] [28,70] [] [(0,jl),(3,[1]),(15,[2]),(38,[2]),(57,[3]),(80,[2])] [(5,a81),(9,[1,3,5,15,16,17]),(12,[1,3,5,15,16,17]),(14,a88),(17,a88),(18,a81),(19,[1]),(22,[3,57,58,59]),(26,a8A),(29,a8A),(31,a8B),(34,[3,10,13,57,58,59,80,81,82]),(36,a8B),(37,a8A),(39,[3,57,58,59]),(40,[])] [(4,a81),(13,a88),(21,[3,57,58,59]),(30,a8B)] [(1,jl),(5,qc),(10,tC)] [1]) d0) (tl g 53 (te g 52 (iK bg [12] [] [] [] [] [(0,bg)]) d0) (te g 53 (iK [0] [] [] [] [] [] [(0,bg)]) d0))) (tl g 56 (tl g 55 (te g 54 (gy [0,1,3,4,5,6,8,10,11,12,23,24,25,56,57,58,95,96,97,136,137,138] [30,39,47,50,62,67,76,83,101,127,143,156,163,167] [] [(0,kJ),(3,[1]),(6,[1]),(23,[1]),(56,[4]),(95,[8]),(136,[5])] [(5,ZO),(9,[1,3,4,23,24,25]),(11,ZO),(12,ZO),(13,[1,3]),(16,a8C),(21,a8C),(22,[1,3,6]),(24,ZP),(28,[1,3,6,10,95,96,97]),(30,a8D),(33,a8D),(34,ZP),(35,ZP),(36,[3])] [(4,ZO),(15,a8C),(23,ZP),(29,a8D)] [(1,kJ),(10,xm),(12,[0,0,0,0,4])] [1] [([1],false)] [] [] [14,17,103,107,109,113,115,119,148,153]) d0) (te g 55 (qE [0,3,4,5,6,7,8] [15,18] [] [(0,[1]),(3,[1]),(6,[1])] [(5,[3,6,7,8]),(8,[3,5,6,7,8]),(9,[3,6,7,8]),(10,[3])] [(4,[3,6,7,8])] [] [] [([1],false)]) d0)) (tl g 57 (te g 56 (qE [0] [] [] [] [(4,[0])] [] [] [] [([1],true)]) d0) (te g 57 (Oz [0,1,2,3,5,6,7,9,10,11,13,15,17,27,28,29,44,45,72,73,74,86,87,91,92,93,123,124,125,148,149,150] [] [] [(1,jl),(11,[3]),(27,[5]),(72,[9]),(86,[3,3]),(91,[3]),(123,[2]),(148,[3])] [(6,ZQ),(10,a8E),(13,a8E),(14,[2,3,5,27,28,29]),(17,ZQ),(18,ZQ),(19,zh),(21,a8F),(23,a8F),(24,zh),(26,[2,3,86,87]),(29,a8G),(35,a8G),(36,[2,3,86,87]),(37,zh),(39,a8H),(44,a8H),(45,zh),(47,a8I),(54,a8I)] [(5,ZQ),(9,a8E),(20,a8F),(25,[2,3,86,87]),(28,a8G),(38,a8H),(46,a8I)] [(0,[5]),(3,jl),(9,kJ),(13,iZ),(15,qc),(17,tC)] [3] [] [] [48,53,55,90,100,104]) d0)))) (tl g 61 (tl g 59 (te g 58 (iK [0,5,6,7,8,9,10,12,23,24,25,67] [] [6] [(0,[5]),(23,[5])] [(5,[0]),(11,a8J),(15,[6,7,8,9,10,12,23,24,25]),(19,[6,7,8,10,12,23,24,25]),(28,a8J),(29,[6,10])] [(10,a8J)] [(6,bg)]) d0) (tl g 60 (te g 59 (qE KY [14] [] [(0,[3]),(5,[1]),(8,[3])] [(5,qf),(7,qf),(8,[5])] [(4,qf)] [(7,iZ)] [] [([1],false)]) d0) (te g 60 (jT bg [] [] [(0,iZ)] [] [] [(1,iZ)] [1]) d0))) (tl g 63 (tl g 62 (te g 61 (qE KY [14] [] [(0,[9]),(5,[1]),(8,[9])] [(5,qf),(7,qf),(8,[5])] [(4,qf)] [(7,kJ)] [] [([1],false)]) d0) (te g 62 (jT bg [] [] [(0,kJ)] [] [] [(1,kJ)] [1]) d0)) (tl g 64 (te g 63 (qE KY [14] [] [(0,[2]),(5,[1]),(8,[2])] [(5,qf),(7,qf),(8,[5])] [(4,qf)] [(7,qc)] [] [([1],false)]) d0) (te g 64 (jT bg [] [] [(0,qc)] [] [] [(1,qc)] [1]) d0))))) (tl g 72 (tl g 68 (tl g 66 (te g 65 (qE KY [14] [] [(0,[3]),(5,[1]),(8,[3])] [(5,qf),(7,qf),(8,[5])] [(4,qf)] [(7,tC)] [] [([1],false)]) d0) (tl g 67 (te g 66 (jT bg [] [] [(0,tC)] [] [] [(1,tC)] [1]) d0) (te g 67 (Oz [0,4,5,6,7,8] [] [] [(0,[1]),(6,[1])] [(4,[6,7,8]),(8,[6,7,8]),(9,[])] [(3,[6,7,8])] [] [] [] [] [2000013]) d0))) (tl g 70 (tl g 69 (te g 68 (jH [0]) d0) (te g 69 (P5 bg [] [] [] [(4,[])]) d0)) (tl g 71 (te g 70 (jH [0]) d0) (te g 71 (jH [0]) d0)))) (tl g 76 (tl g 74 (tl g 73 (te g 72 (jH bg) d0) (te g 73 (rU UW [] [] [(0,[9])] [(4,xq),(8,xq),(9,[])] [(3,xq)]) d0)) (tl g 75 (te g 74 (jT Aq [] [] [] [] [] [] [3]) d0) (te g 75 (jH bg) d0))) (tl g 78 (tl g 77 (te g 76 (P5 [0,3] [] [] [(0,[1])] [(5,[0,3])]) d0) (te g 77 (jH bg) d0)) (tl g 79 (te g 78 (bJF [0,1,3] [] [] [(0,kJ)] [] [] [(1,kJ),(3,UV)] [1] [] [(3,[9000003])]) d0) (te g 79 (jH bg) d0))))))) (tl g 111 (tl g 94 (tl g 87 (tl g 83 (tl g 81 (te g 80 (rU UW [] [] [(0,[3])] [(4,xq),(8,xq),(9,[])] [(3,xq)]) d0) (tl g 82 (te g 81 (jT Aq [] [] [] [] [] [] [3]) d0) (te g 82 (jH bg) d0))) (tl g 85 (tl g 84 (te g 83 (gy [0,1,3] [] [] [(3,[1])] [] [] [] [] [] [] [] [4,5,8,10,11,14]) d0) (te g 84 (IU [0] [] [] [(0,[1])]) d0)) (tl g 86 (te g 85 (jH bg) d0) (te g 86 (rU UW [] [] [(0,[2])] [(4,xq),(8,xq),(9,[])] [(3,xq)]) d0)))) (tl g 90 (tl g 88 (te g 87 (jT Aq [] [] [] [] [] [] [3]) d0) (tl g 89 (te g 88 (jH bg) d0) (te g 89 (jH bg) d0))) (tl g 92 (tl g 91 (te g 90 (jH bg) d0) (te g 91 (IU bg [] [] [(0,[2])]) d0)) (tl g 93 (te g 92 (jT bg [] [] [] [] [] [] [1]) d0) (te g 93 (jH bg) d0))))) (tl g 101 (tl g 97 (tl g 95 (te g 94 (rU UW [] [] [(0,[3])] [(4,xq),(8,xq),(9,[])] [(3,xq)]) d0) (tl g 96 (te g 95 (jT Aq [] [] [] [] [] [] [3]) d0) (te g 96 (jH bg) d0))) (tl g 99 (tl g 98 (te g 97 (jH bg) d0) (te g 98 (jT [0,1,4,10,11,12] [] [] [(0,tC),(10,[2])] [(4,[1]),(6,[1,10,11,12]),(9,[1,4,10,11,12]),(11,[1,10,11,12]),(12,[1])] [(5,[1,10,11,12])] [(1,tC)] [1]) d0)) (tl g 100 (te g 99 (qE [0,2,3,4,5] [22] [] [] [(4,[0]),(10,[2,3,4,5])] [] [(2,[5])] [] [([5],false),([],true),([],true),([],true)]) d0) (te g 100 (IU [0,3,4,5,6] [] [] [(3,[5])]) d0)))) (tl g 106 (tl g 103 (tl g 102 (te g 101 (qE [0] [] [] [(0,[1])] [(4,[0])] [] [] [] [([1],true)]) d0) (te g 102 (gy [0,2,3,4] [] [] [] [(5,[0,2,3])] [] [(0,iZ),(2,gU),(3,gU),(4,gU)] [] [(gU,true)] [] [24] [21,22,1000003,1000004]) d0)) (tl g 104 (te g 103 (iK [0] [] [] [] [] [] [(0,CW)]) d0) (te g 104 (iK [0] [] [] [] [(6,[0])] [] [(0,CW)]) d0))) (tl g 109 (tl g 108 (te g 106 (iK KZ [] [] [(0,[4]),(1,[4]),(15,[4])] [(4,qg),(6,qh),(10,qh),(11,[])] [(5,qh)] [(8,gU),(9,gU)]) d0) (te g 108 (rU Ko [] [] [(0,[1])] [(4,qi),(7,qi),(8,[])] [(3,qi)]) d0)) (tl g 110 (te g 109 (jT [0,1,2,3,4,9,10,12,13,87,88,89] [] [] [(0,gU),(87,[4])] [(4,[1,2,3,4]),(14,[1,2,3,4]),(16,a8K),(20,a8K),(21,[])] [(15,a8K)] [(4,gU),(12,gU)] [4]) d0) (te g 110 (gy [0,1,3,5,6,7,9,10,11,26] [19] [] [(0,gU),(9,[4])] [(5,[1,3,9,10,11]),(9,[1,3,6,9,10,11]),(10,[1,3,9,10,11]),(11,[1,3]),(36,[])] [(4,[1,3,9,10,11])] [(1,gU),(3,[1]),(5,gU)] [1] [] [] [] [54,59,62]) d0)))))) (tl g 133 (tl g 118 (tl g 114 (tl g 112 (te g 111 (jH [0]) d0) (tl g 113 (te g 112 (jH [0]) d0) (te g 113 ⟨[0,1,2,3,4,5,6,8,9,10],[],[],[(1,[1]),(2,gU)],[(6,[4,5,6,8]),(11,[4,5,6,8,9,10])],[],[(0,[5]),(5,[1]),(6,gU)],[5,6],[],[],[25,70],[38,45,64,66,68],true⟩ d0))) (tl g 116 (tl g 115 (te g 114 (rU [0,4,6,7,8,11,14,15,16] [20] [] [(0,[5]),(4,[1]),(8,[5]),(14,[5])] [(6,a8L),(8,a8L),(9,[0,4]),(13,[7])] [(5,a8L)]) d0) (te g 115 (gy [0,1,12] [] [] [(0,gU)] [(4,[1]),(27,[])] [] [(1,gU)] [1] [] [] [] [3,7]) d0)) (tl g 117 (te g 116 (qE [0] [] [] [] [] [] [(0,gU)] [] [(gU,true)]) d0) (te g 117 (qE [0] [] [] [] [] [] [(0,gU)] [] [(gU,true)]) d0)))) (tl g 129 (tl g 122 (te g 118 (P5 [0,3] [] [] [] [(19,[])]) d0) (tl g 128 (te g 122 (gy [0,2,6,7,8,9] [] [] [] [(7,[2,6]),(8,[2,6]),(10,[2,6]),(13,[2,6])] [(6,[2,6])] [(2,jl),(6,Ar)] [] [(jl,true),([],true),([],true),([],true)] [] [11,59] [11]) d0) (te g 128 (iK bg [] [] [] [] [] [(0,CW)]) d0))) (tl g 131 (tl g 130 (te g 129 (iK [0] [] [] [] [(5,[0])] [] [(0,CW)]) d0) (te g 130 (iK [0,5] [] [] [] [] [] [(0,iZ)]) d0)) (tl g 132 (te g 131 (iK qc [] [] [] [(6,qc)] [] [(0,CW)]) d0) (te g 132 (gy [0,1,2,3,4,5,6,7] [] [6000008] [] [] [] [(0,iZ),(1,jl)] [] [] [] [56] [8,11,14,18,21,25,28,32,35,39,42,1000001,1000004]) d0))))) (tl g 142 (tl g 138 (tl g 134 (te g 133 (gy [0,1,4] [] [] [] [(2,bg)] [] [(0,CW)] [] [] [] [] [24,26,1000001]) d0) (tl g 137 (te g 134 (jT Aq [] [] [(0,xm),(1,xm)] [] [] [(2,xm),(3,xm)] zh) d0) (te g 137 (gy [0,1,2,3,4,6,7] [] [] [(0,kJ),(1,kJ)] [] [] [(3,kJ),(4,kJ),(6,UV),(7,UV)] [3,4] [] [] [] [9,11]) d0))) (tl g 140 (tl g 139 (te g 138 (gy P9 [] [] [(0,[1]),(1,[1])] [(4,bg),(6,uK),(9,uK),(10,[])] [(5,uK)] [] [] [] [] [] [19,23]) d0) (te g 139 (gy P9 [] [] [(0,[1]),(1,[1])] [(4,bg),(6,uK),(9,uK),(10,[])] [(5,uK)] [] [] [] [] [] [19,23]) d0)) (tl g 141 (te g 140 (gy P9 [] [] [(0,[4]),(1,[4])] [(4,bg),(6,uK),(9,uK),(10,[])] [(5,uK)] [] [] [] [] [] [19,23]) d0) (te g 141 (iK KZ [] [] [(0,[8]),(1,[8]),(15,[8])] [(4,qg),(6,qh),(10,qh),(11,[])] [(5,qh)] [(8,xm),(9,xm)]) d0)))) (tl g 146 (tl g 144 (tl g 143 (te g 142 (jT Aq [] [] [(0,iZ),(1,iZ)] [] [] [(2,iZ),(3,iZ)] zh) d0) (te g 143 (gy P9 [] [] [(0,[5]),(1,[5])] [(4,bg),(6,uK),(9,uK),(10,[])] [(5,uK)] [] [] [] [] [] [19,23]) d0)) (tl g 145 (te g 144 (iK KZ [] [] [(0,[9]),(1,[9]),(15,[9])] [(4,qg),(6,qh),(10,qh),(11,[])] [(5,qh)] [(8,kJ),(9,kJ)]) d0) (te g 145 (iK KZ [] [] [(0,[3]),(1,[3]),(15,[3])] [(4,qg),(6,qh),(10,qh),(11,[])] [(5,qh)] [(8,iZ),(9,iZ)]) d0))) (tl g 148 (tl g 147 (te g 146 (iK KZ [] [] [(0,[2]),(1,[2]),(15,[2])] [(4,qg),(6,qh),(10,qh),(11,[])] [(5,qh)] [(8,qc),(9,qc)]) d0) (te g 147 (jT Aq [] [] [(0,qc),(1,qc)] [] [] [(2,qc),(3,qc)] zh) d0)) (tl g 149 (te g 148 (gy P9 [] [] [(0,[2]),(1,[2])] [(4,bg),(6,uK),(9,uK),(10,[])] [(5,uK)] [] [] [] [] [] [19,23]) d0) (te g 149 (iK KZ [] [] [(0,[3]),(1,[3]),(15,[3])] [(4,qg),(6,qh),(10,qh),(11,[])] [(5,qh)] [(8,tC),(9,tC)]) d0)))))))) (tl g 227 (tl g 186 (tl g 171 (tl g 164 (tl g 159 (tl g 151 (te g 150 (jT Aq [] [] [(0,tC),(1,tC)] [] [] [(2,tC),(3,tC)] zh) d0) (tl g 158 (te g 151 (gy P9 [] [] [(0,[2]),(1,[2])] [(4,bg),(6,uK),(9,uK),(10,[])] [(5,uK)] [] [] [] [] [] [19,23]) d0) (te g 158 (rU Ko [] [] [(0,[1])] [(4,qi),(7,qi),(8,[])] [(3,qi)]) d0))) (tl g 161 (tl g 160 (te g 159 (rU [0,1,5,6,7,8,9] [] [] [(0,[1]),(7,[1])] [(4,[0,1,7,8,9]),(7,[0,1,5,6,7,8,9]),(9,[0,1,7,8,9]),(10,[])] [(3,[0,1,7,8,9])]) d0) (te g 160 (rU [0,3,4,8,9,10] [] [] [(0,[4]),(8,[4])] [(4,[0]),(6,[0,8,9,10]),(17,[0,8,9,10]),(18,[])] [(5,[0,8,9,10])]) d0)) (tl g 162 (te g 161 (jT [0,1,2,3,7,8] [] [] [(0,gU)] [(5,[8])] [] [(3,gU)] [3]) d0) (te g 162 (iK [0] [] [] [] [] [] [(0,bg)]) d0)))) (tl g 167 (tl g 165 (te g 164 (IU bg [] [] [(0,[1])]) d0) (tl g 166 (te g 165 (iK [0,1,5,6,7,8] [16] [] [(1,[1]),(6,[1])] [(3,PD),(5,PD)] [(2,PD)] [(0,[5])]) d0) (te g 166 (iK [0,1,5,6,7,8] [16] [] [(1,[1]),(6,[1])] [(3,PD),(5,PD)] [(2,PD)] [(0,[5])]) d0))) (tl g 169 (tl g 168 (te g 167 (iK bg [15] [] [] [(4,bg)] [] [(0,[5])]) d0) (te g 168 (gy [0,1,2,3,4,5,6,7,9,11,30,31,32,60,61,62,97,98,99] [] [] [(1,kJ),(30,[1]),(60,[4]),(97,[8])] [(9,ZR),(13,[2,3,4,5,6,30,31,32]),(15,ZR),(16,ZR),(17,[2,3,4,5]),(19,a8M),(28,a8M),(29,[2,3,4,5]),(31,a8N),(36,[2,3,5,11,97,98,99]),(38,[2,3,5,11,97,98,99]),(40,a8N),(41,[2])] [(8,ZR),(18,a8M),(30,a8N)] [(0,[5]),(3,kJ),(4,UV),(5,[1]),(11,xm)] [3] [] [] [123] [105,109,111,115,117,121]) d0)) (tl g 170 (te g 169 (jT Aq [] [] [(1,[1])] [] [] [(0,[5]),(3,[1])] [3]) d0) (te g 170 (iK [0,1,2,3,8,9,10] [] [] [] [(3,[0,2,3,9,10]),(6,[0,2,3,8,9,10]),(7,[0,2,3,9,10])] [(2,[0,2,3,9,10])] [(0,[5])]) d0))))) (tl g 178 (tl g 174 (tl g 172 (te g 171 (gy qg [] [] [] [] [] [] [] [] [] [18] [10,16]) d0) (tl g 173 (te g 172 (gy qg [] [] [] [] [] [] [] [] [] [11,23] [10,21]) d0) (te g 173 (jH bg) d0))) (tl g 176 (tl g 175 (te g 174 (iK bg [11] [] [] [] [] [(0,bg)]) d0) (te g 175 (Oz [0] [] [4] [(0,[5])] [] [] [] [] [([5],false)] [(0,[1000002])] [5]) d0)) (tl g 177 (te g 176 (jH [0]) d0) (te g 177 (rU [0,3,4,5,6,7] [] [] [(0,[1]),(5,[1])] [(4,[0,5,6,7]),(7,[0,3,4,5,6,7]),(9,[0,5,6,7]),(10,[])] [(3,[0,5,6,7])]) d0)))) (tl g 182 (tl g 180 (tl g 179 (te g 178 (jH [0]) d0) (te g 179 (gy bg [] [] [] [] [] [] [] [] [] [] [4,6]) d0)) (tl g 181 (te g 180 (qE [0,3,4,5,6] [9] [] [(3,[1])] [(5,[3,5,6]),(7,[3,5,6]),(8,[3])] [(4,[3,5,6])] [] [] [([1],false)]) d0) (te g 181 (jH bg) d0))) (tl g 184 (tl g 183 (te g 182 (jH [0]) d0) (te g 183 (jH [0]) d0)) (tl g 185 (te g 184 (jH [0]) d0) (te g 185 (jH [0]) d0)))))) (tl g 205 (tl g 193 (tl g 189 (tl g 187 (te g 186 (IU bg [] [] [(0,[4])]) d0) (tl g 188 (te g 187 (jT bg [] [] [] [] [] [] [1]) d0) (te g 188 (jH bg) d0))) (tl g 191 (tl g 190 (te g 189 (rU UW [] [] [(0,[8])] [(4,xq),(8,xq),(9,[])] [(3,xq)]) d0) (te g 190 (gy qg [] [] [] [] [] [] [] [] [] [] [5,7,10]) d0)) (tl g 192 (te g 191 (gy [0,1,2,3,5,6,7,8,9,59,60,61] [] [] [(0,kJ),(1,xm),(59,[5])] [(5,[3,5]),(8,[3,5]),(10,a8O),(13,[3,5,7,8,59,60,61]),(15,[3,5,8,59,60,61]),(18,a8O),(19,[])] [(9,a8O)] [(2,kJ),(3,xm),(8,[0,0,0,0,4])] zh [] [] [] [81,86]) d0) (te g 192 (jH [0]) d0)))) (tl g 197 (tl g 194 (te g 193 (rU Ko [] [] [(0,[2])] [(4,qi),(7,qi),(8,[])] [(3,qi)]) d0) (tl g 196 (te g 194 (jH [0]) d0) (te g 196 (gy [0,1,4,5,6,7,8,9] [] [38] [(9,[4])] [(4,[0,1,4]),(8,[0,1,4,5,6,7]),(12,[0,1,4,5,6,9])] [(5,[0,1,4,5])] [(0,iZ),(4,gU),(5,gU)] [] [(gU,true)] [(12,[1000009])] [37,41] [33,1000003]) d0))) (tl g 203 (tl g 202 (te g 197 (iK Fh [] [] [] [(5,[5])] [] [(0,CW)]) d0) (te g 202 (P5 [0,4] [] [] [] [(21,[])]) d0)) (tl g 204 (te g 203 (jH bg) d0) (te g 204 (jT qg [] [] [] [] [] [] [2]) d0))))) (tl g 215 (tl g 208 (tl g 206 (te g 205 (IU bg [] [] [(0,[1])]) d0) (tl g 207 (te g 206 (jH bg) d0) (te g 207 (gy bg [] [] [(0,gU)] [(6,[1])] [] [(1,gU)] [1] [] [] [24] [4,8]) d0))) (tl g 210 (tl g 209 (te g 208 (gy [0,1,2,3,4] [] [] [] [] [] [] [] [] [] [15] [8,10,13]) d0) (te g 209 (rU KZ [] [] [(0,[5]),(1,[5]),(15,[5])] [(4,qg),(6,qh),(10,qh),(11,[])] [(5,qh)]) d0)) (tl g 214 (te g 210 (jT Aq [] [] [] [] [] [] zh) d0) (te g 214 (iK [0,5] [] [] [] [] [] [(0,Ar)]) d0)))) (tl g 223 (tl g 221 (tl g 220 (te g 215 (gy qg [54,82] [] [] [] [] [(0,Ar)] [] [] [] [56,84] [49,50,55,77,78,83,1000002]) d0) (te g 220 (iK [0,2,3] [] [] [] [(5,zh)] [] [(0,CW)]) d0)) (tl g 222 (te g 221 (jH bg) d0) (te g 222 (gy [0,1,4,5] [49] [] [(5,[1])] [(6,[0,1,4])] [] [(0,iZ),(1,jl)] [] [] [] [] [19,22,25]) d0))) (tl g 225 (tl g 224 (te g 223 (jH bg) d0) (te g 224 (gy [0,1,2,4,5] [81] [] [] [(8,[1,2,4,5]),(14,[1,2,4])] [(6,[1,2,4,5])] [(0,iZ),(1,jl),(4,kJ)] [] [] [] [12] [4,6,10,1000001,1000003]) d0)) (tl g 226 (te g 225 (Oz bg [] [] [] [] [] [] [] [] [] [7]) d0) (te g 226 (gy [0,1,2,3,6] [43] [] [] [] [] [(0,iZ),(1,jl),(2,[3]),(6,iZ)] [] [] [] [19] [6,7,11,16,1000001,1000003]) d0))))))) (tl g 277 (tl g 248 (tl g 241 (tl g 230 (tl g 228 (te g 227 (Oz bg [] [] [] [] [] [] [] [] [] [7]) d0) (tl g 229 (te g 228 (jH bg) d0) (te g 229 (gy [0,1,2,4] [33] [] [] [] [] [(0,iZ),(1,jl),(4,qc)] [] [] [] [11] [4,5,9,1000001,1000003]) d0))) (tl g 237 (tl g 231 (te g 230 (jH bg) d0) (te g 231 (iK [0,1,4,5,6] [45,67] [] [] [(6,[0,1,4]),(5,[0,1,4]),(10,[0,1,4])] [(4,[0,1,4,5])] [(0,iZ),(1,jl),(4,tC)]) d0)) (tl g 240 (te g 237 (jT qg [] [] [] [] [] [] [2]) d0) (te g 240 (rU Ko [] [] [(0,[1])] [(4,qi),(7,qi),(8,[])] [(3,qi)]) d0)))) (tl g 244 (tl g 242 (te g 241 (qE [0] [] [] [(0,[4])] [] [] [] [] [([1],true)]) d0) (tl g 243 (te g 242 (gy Aq [] [] [] [] [] [] [] [] [] [16,28] [12,14,27]) d0) (te g 243 (gy qg [] [] [] [] [] [] [] [] [] [10] [5,8]) d0))) (tl g 246 (tl g 245 (te g 244 (gy [0,1,5,6,7] [] [] [(0,[5])] [(5,Fh),(8,[0,1,5,6]),(7,[0,1,5,6]),(12,[0,5])] [(6,[0,1,5,6])] [] [] [([5],false)] [] [24,33] [10]) d0) (te g 245 (qE [0] [] [] [(0,[5])] [(4,[0])] [] [] [] [([5],true)]) d0)) (tl g 247 (te g 246 (jT bg [] [] [] [] [] [] [1]) d0) (te g 247 (rU Ko [] [] [(0,[4])] [(4,qi),(7,qi),(8,[])] [(3,qi)]) d0))))) (tl g 263 (tl g 257 (tl g 254 (te g 248 (jT [0,1,2,3,7,8] [] [] [(0,gU)] [(5,[2,7])] [] [(3,gU)] [3]) d0) (tl g 255 (te g 254 (Oz qg [] [] [] [(14,[1,2])] [] [(0,iZ),(2,gU)] [] [(gU,true)] [] [72]) d0) (te g 255 (iK [0,1,7,8,9,10] [] [] [] [(5,[1,7])] [] [(0,iZ)]) d0))) (tl g 261 (tl g 258 (te g 257 (iK Fh [] [] [] [] [] [(0,CW)]) d0) (te g 258 (rU Ko [] [] [(0,[1])] [(4,qi),(7,qi),(8,[])] [(3,qi)]) d0)) (tl g 262 (te g 261 (P5 qg [] [] [] [(4,qg)]) d0) (te g 262 (iK [0,2,4,5,10,11,12] [16,65] [] [(2,[1]),(10,[5])] [(4,a8P),(6,a8P),(7,qc),(13,[0,5])] [(3,a8P)] [(0,Ar)]) d0)))) (tl g 272 (tl g 265 (tl g 264 (te g 263 (gy [0,1,2,4,5,6,7,8,13,14,15,56,234,235] [19,82,119,196,205,219,240,252] [] [(2,[1]),(13,[9])] [(5,a8Q),(7,a8Q),(8,[1,2,56]),(12,[1,5,56]),(18,UX),(23,[1,5,56]),(26,UX),(28,UX),(32,UX),(44,[1,5,56]),(47,a8R),(49,a8R),(50,[1,5,56])] [(4,a8Q),(16,UX),(46,a8R)] [(0,Ar),(4,kJ),(5,kJ),(56,Ar)] [] [] [] [86,161,222] [7,83,85,156,157,220,221,1000002,1000003]) d0) (te g 264 (qE [0,1,2,3,5,6,18,19,20] [24] [] [(3,[1]),(18,[3])] [(5,a8S),(7,a8S),(8,[1,2,3]),(14,[1,2,6])] [(4,a8S)] [(0,Ar),(2,iZ),(5,iZ),(6,iZ)] [] [(iZ,true)]) d0)) (tl g 266 (te g 265 (iK [0,1,2,4,5,10,11,12] [16,47] [] [(2,[1]),(10,[2])] [(5,a8T),(7,a8T),(8,[1,2])] [(4,a8T)] [(0,Ar),(4,qc),(5,qc)]) d0) (te g 266 (iK [0,2,4,5,6,7,12,13,14] [18,59,82] [] [(2,[1]),(12,[3])] [(4,a8U),(6,a8U),(7,qc),(12,[0,5]),(11,[0,5]),(16,[0,5])] [(3,a8U),(10,[0,5,6])] [(0,Ar),(4,tC),(5,tC)]) d0))) (tl g 275 (tl g 273 (te g 272 (iK Fh [] [] [(1,[1])] [(5,[0])] [] [(0,iZ)]) d0) (te g 273 (qE KY [14] [] [(0,[5]),(5,[1]),(8,[5])] [(5,qf),(7,qf),(8,[5])] [(4,qf)] [] [] [([1],false)]) d0)) (tl g 276 (te g 275 (qE qg [] [] [(1,[1])] [] [] [(0,iZ)] [] [([1],false)]) d0) (te g 276 (iK [0,1,2,7,8,9,10] [] [] [] [(7,[0,1,2,7]),(11,[0,1,2,7,9]),(15,[0,10])] [] [(0,CW)]) d0)))))) (tl g 298 (tl g 284 (tl g 280 (tl g 278 (te g 277 (jT bg [] [] [(0,kJ)] [] [] [(1,kJ)] [1]) d0) (tl g 279 (te g 278 (iK bg [] [] [] [(4,[0])] [] [(0,iZ)]) d0) (te g 279 (gy bg [3] [] [] [] [] [] [] [] [] [7] [4,6,1000000,1000001]) d0))) (tl g 282 (tl g 281 (te g 280 (gy [0,1,2,6] [11,65] [] [] [(5,[0,1,2,6]),(7,[0,1,6]),(9,[0])] [] [(0,iZ),(1,kJ)] [] [] [] [17] [16,1000001]) d0) (te g 281 (iK [0,1,4,5] [67] [] [] [(4,bg)] [] [(0,iZ),(1,kJ)]) d0)) (tl g 283 (te g 282 (gy [0,1,2,4] [66] [] [] [(7,[1,2,4]),(9,[1,2,4])] [] [(0,iZ),(1,kJ),(4,xm)] [] [] [] [12,18,24] [7,11,13,17,19,23,1000001,1000003]) d0) (te g 283 (jT bg [] [] [(0,iZ)] [] [] [(1,iZ)] [1]) d0)))) (tl g 287 (tl g 285 (te g 284 (gy bg [3] [] [] [] [] [] [] [] [] [8] [4,7,1000001,1000002]) d0) (tl g 286 (te g 285 (jT bg [] [] [(0,qc)] [] [] [(1,qc)] [1]) d0) (te g 286 (iK bg [] [] [] [(2,bg),(4,bg)] [(3,bg)] [(0,CW)]) d0))) (tl g 289 (tl g 288 (te g 287 (pZ2 qg [16]) d0) (te g 288 (jT bg [] [] [(0,tC)] [] [] [(1,tC)] [1]) d0)) (tl g 297 (te g 289 (iK [0] [] [] [] [] [] [(0,iZ)]) d0) (te g 297 (qE KY [14,21] [] [(0,[4]),(5,[1]),(8,[4])] [(5,qf),(7,qf),(8,[5])] [(4,qf)] [] [] [([1],true)]) d0))))) (tl g 315 (tl g 308 (tl g 299 (te g 298 (jT bg [] [] [] [] [] [] [1]) d0) (tl g 307 (te g 299 (rU Ko [] [] [(0,[5])] [(4,qi),(7,qi),(8,[])] [(3,qi)]) d0) (te g 307 ⟨[0,1,2,4],[],[],[],[(5,[1,2,4])],[],[(0,iZ),(4,gU)],[],[(gU,true)],[],[],[],true⟩ d0))) (tl g 311 (tl g 310 (te g 308 (qE bg [] [] [] [] [] [(1,gU)] [] [(gU,true)]) d0) (te g 310 (qE qg [] [] [] [] [] [(1,gU),(2,gU)] [] [(gU,true)]) d0)) (tl g 314 (te g 311 (iK Fh [] [] [(1,[1])] [(5,[0,5])] [] [(0,iZ)]) d0) (te g 314 (iK Fh [] [] [(1,[1])] [(5,[0])] [] [(0,Ar)]) d0)))) (tl g 319 (tl g 317 (tl g 316 (te g 315 (gy bg [3] [] [] [] [] [] [] [] [] [7] [4,6,1000000,1000001]) d0) (te g 316 (iK [0] [] [] [] [] [] [(0,Ar)]) d0)) (tl g 318 (te g 317 (qE [0,1,2,3,4,5] [] [] [(1,kJ)] [(8,[2,4,5]),(10,[2,4,5])] [] [(0,Ar),(3,kJ),(4,xm),(5,xm)] [3] [(xm,true)]) d0) (te g 318 (gy bg [3] [] [] [] [] [] [] [] [] [8] [4,7,1000001,1000002]) d0))) (tl g 328 (tl g 327 (te g 319 (gy qg [9] [] [] [] [] [] [] [] [] [15] [11,14,1000000,1000002]) d0) (te g 327 (qE KY [14] [] [(0,[1]),(5,[1]),(8,[1])] [(5,qf),(7,qf),(8,[5])] [(4,qf)] [] [] [([1],false)]) d0)) (tl g 335 (te g 328 (jH bg) d0) (te g 335 (jH [0]) d0))))))))
noncomputable def SS:SE:=⟨Tryz.prog,a7J,VVt vvT,WWt wwT,CS⟩
theorem dZ:SS.OK:=⟨aS9 _,aSE _⟩
abbrev cG (r:RS) (g:FuncId) (a:bSH) (K:RS.F r R):R:=jF SS.CC g a fun p=>PI r p K
abbrev cH (r:RS) (o:List OS) (g:FuncId) (a:bSH) (h:aI) (K:RS.F r (fD o)):R:=AQ SS.CC g a h fun p h=>hv r o p h K
theorem cc {g:FuncId} {a:bSH} {h:aI} {v:R} (h0:SS.C0 g a h=none:=by rfl) (e:SS.run SS.CC SS.LL g a h=v:=by kernel_rfl):SS.CC g a h=v:=CCk dZ h0 e
theorem ll {E:AE} {m0:Nat} {l:List Nat} {m:Nat} {x:Code} {K:KT} {Z:ASt} {v:R} (hm:m0<=m:=by decide) (hg:Dz l m Z=true:=by kernel_rfl) (hP:SS.wp E=E:=by kernel_rfl) (e:chk (Fa l m Z) (bH (SS.xe SS.CC SS.LL E m0) x (wX (fun Z'=>SS.LL E m0 l m x K (Z'.gc l m)) K) (Z.gc l m))=v:=by kernel_rfl):SS.LL E m0 l m x K Z=v:=LLk dZ hm hg hP e
abbrev G0:=cG (.t [(false,[.S]),(false,[.I .i64])])
abbrev G1:=cG (.ti .i64)
abbrev G2:=cG (.ts)
abbrev G3:=cG (.tb)
abbrev G4:=cG (.tl false 1)
abbrev G6:=cG (.t [(false,[.I .i64]),(false,[.I .i64])])
abbrev G7:=cG (.tl true 1)
abbrev G9:=cG (.t [(true,S0),(false,[.I .i64]),(false,[.I .i64]),(false,[.I .i64])])
abbrev G10:=cG (.t [(false,[.S]),(false,[.I .i64]),(false,[.I .i64]),(false,[.I .i64])])
abbrev En:=cG (.tl true 3)
abbrev ah:=cH (.t []) [.c gY]
abbrev VW:=cG (.t [(false,[.L false 5]),(false,[.I .i64]),(false,[.I .i64]),(false,[.I .i64])])
abbrev H14:=cH (.z (.pt 0 0)) [.c aH]
abbrev cO:=cH (.t []) [.c aH]
abbrev QZ:=cH (.t [(false,[.I .i64]),(false,[.I .i64]),(false,[.I .i64])]) [.c aH]
abbrev H19:=cH (.ti .i64) [.c MS]
abbrev zD:=cG (.g S1)
abbrev QX:=cG (.tl false 5)
abbrev Qa:=cH (.tb) [.c jI,.c aH]
abbrev nH:=cH (.g lS) [.c aH]
abbrev J9:=cH (.t []) [.c jv,.c jS,.c aH]
abbrev sJ:=cH (.ts) [.c aH]
abbrev H27:=cH (.tb) [.z Vh]
abbrev H28:=cH (.t []) [.c gY,.z lT,.c je]
abbrev H29:=cH (.t []) [.c gY,.z lT,.c iW]
abbrev MK:=cH (.t []) [.c Es,.c MV]
abbrev H31:=cH (.ts) [.c Ql]
abbrev H32:=cH (.t [(false,[.I .i64]),(false,[.ni])]) [.c uZ]
abbrev H33:=cH (.z (.ni)) [.c uZ]
abbrev kK:=cH (.tb) [.c aH]
abbrev G37:=cG (.t [(false,[.I .i64]),(false,[.B])])
abbrev zF:=cH (.tb) [.c ve]
abbrev eY:=cH (.t []) [.z nz,.c gY]
abbrev Qc:=cH (.tb) [.c dA,.c aH]
abbrev ML:=cH (.t []) [.c dA,.c aH]
abbrev JB:=cH (.t []) [.z kF,.z jD,.c BL,.c jS,.c aH]
abbrev H44:=cH (.tb) [.c S7]
abbrev H45:=cH (.t []) [.c gY,.z lT,.c ve,.c S9]
abbrev H46:=cH (.t []) [.c gY,.z lT]
abbrev H47:=cH (.t []) [.z kF,.c je,.c gY]
abbrev H48:=cH (.t []) [.z kF,.c iW,.c gY]
abbrev G49:=cG (.tl true 5)
abbrev H50:=cH (.o (.H 0 0 5)) [.a]
abbrev H51:=cH (.t []) [.c uZ]
abbrev MM:=cH (.tb) [.z nz,.c AL,.c aH]
abbrev kL:=cH (.g S8) [.c qw,.c aH]
abbrev Ep:=cH (.g S8) [.c dA,.c aH]
abbrev H60:=cH (.g S8) [.c qx,.c aH]
abbrev H63:=cH (.ti .i64) [.c S7]
abbrev H64:=cH (.t []) [.z jD,.c ve,.c S9,.c gY]
abbrev H67:=cH (.ti .i64) [.c aH]
abbrev JC:=cH (.ts) [.c dA,.c aH]
abbrev H70:=cH (.t []) [.c aH,.c jJ,.z jD,.c uf]
abbrev H71:=cH (.g S9) [.c dA,.c aH]
abbrev H72:=cH (.ti .i64) [.c dA,.c aH]
abbrev H73:=cH (.ts) [.c qw,.c aH]
abbrev H74:=cH (.t []) [.c aH,.c jf,.z jD,.c Vk]
abbrev H75:=cH (.t []) [.c aH,.c jf,.z jD,.c uf]
abbrev H76:=cH (.ts) [.c qx,.c aH]
abbrev H77:=cH (.t []) [.c aH,.c jf,.z jD,.c Vl]
abbrev H78:=cH (.t []) [.c aH,.z jD,.c ku,.c uf]
abbrev H80:=cH (.t []) [.c lU,.c jJ,.c Es,.c aH]
abbrev H81:=cH (.t []) [.c jv,.c jJ,.c aH]
abbrev MN:=cH (.ts) [.c jI,.c aH]
abbrev H83:=cH (.t []) [.c lU,.c jJ,.z lT,.c aH]
abbrev H84:=cH (.t []) [.c lU,.c jf,.z lT,.c aH]
abbrev H85:=cH (.ti .i64) [.c jI,.c aH]
abbrev H86:=cH (.t []) [.c aH,.z jD,.c ku,.c tu]
abbrev H96:=cH (.t []) [.z kF,.c ku,.c BM,.c aH]
abbrev H97:=cH (.t []) [.c aH,.c jJ,.z jD,.c tu]
abbrev aRN:=cH (.t []) [.c aH,.c jf,.z jD,.c tu]
abbrev a0J:=cH (.t []) [.z kF,.c ku,.c lU,.c aH]
end
end Go.Proofs.YtcdceiloganlnaaGreatDoor.W
end

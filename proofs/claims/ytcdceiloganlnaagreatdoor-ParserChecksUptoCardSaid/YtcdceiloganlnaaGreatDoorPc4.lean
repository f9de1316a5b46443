/- A part of the proof: PD17a, D52i, PD17p, QD16, QB16, QT16a, QL16, QC16a, QT16p, QC16b, QC16c, QT16q, QT16u, QC16d, QC16e, QT16s, QC16f, QPS16, QC16g, QC16h, QC16i, QC16j, QC16k, QC16l, QC16m, PD17c, W17i0, W17. -/
import Derived.Test.YtcdceiloganlnaaGreatDoorPc3
import Derived.Shelf.Lay
import Derived.Shelf.Strings.Builder1
import Derived.Shelf.Strings.OnBuilder
import Derived.Shelf.Strconv.Itoa3
import Derived.Test.YtcdceiloganlnaaGreatDoorChecked
import Derived.Shelf.LaysM
import Derived.Shelf.Strings.Split
import Derived.Shelf.Strings.Search1
import Derived.Shelf.Strings.Shaped
import Derived.Shelf.Strings.Repeat
set_option linter.unusedVariables false
set_option linter.unusedSimpArgs false
set_option linter.unnecessarySimpa false
set_option linter.unusedSectionVars false
noncomputable section
open Go.IntKind (i64)
namespace Go.Proofs
open Go.Shelf
def Tryz.lays171_ren:Go.Shelf.Ren:=⟨fun|171=>35|243=>127|246=>219|283=>268|284=>269|285=>270|286=>271|129=>323|317=>322|318=>324|319=>325|320=>326|337=>341|338=>342|n=>n,fun|171=>305|53=>263|37=>117|173=>308|212=>336|51=>260|213=>337|46=>175|232=>347|233=>348|n=>n,fun|17=>1|18=>4|19=>5|n=>n⟩
theorem Tryz.lays171 : Lays.n171 Tryz.prog Tryz.lays171_ren:=by constructor<;>first|kernel_rfl|(intro w;kernel_rfl)
def Tryz.lays156_ren:Go.Shelf.Ren:=⟨fun|156=>15|165=>51|166=>52|169=>53|240=>162|241=>163|276=>238|277=>239|n=>n,fun|31=>34|72=>119|76=>123|70=>116|37=>117|75=>122|127=>223|164=>276|80=>125|n=>n,id⟩
theorem Tryz.lays156 : Lays.n156 Tryz.prog Tryz.lays156_ren:=by constructor<;>first|kernel_rfl|(intro w;kernel_rfl)
def Tryz.lays169_ren:Go.Shelf.Ren:=⟨fun|169=>53|n=>n,fun|70=>116|72=>119|37=>117|127=>223|n=>n,id⟩
theorem Tryz.lays169 : Lays.n169 Tryz.prog Tryz.lays169_ren:=by constructor<;>first|kernel_rfl|(intro w;kernel_rfl)
end Go.Proofs
namespace Go.Proofs.YtcdceiloganlnaaGreatDoor
open Go.RowKit Go.Shelf
theorem TB:Builder.Extra Tryz.prog Tryz.lays156_ren where
 sizeBuilder:=by kernel_rfl
 liesBuilder:=by kernel_rfl
 t5:=Tryz.underlying5
 a5:=Tryz.isAgg5
 z5:=Tryz.sizeOf5
 v5:=Tryz.zeroValue5
 infoByte:=by kernel_rfl
 cellsByte:=by kernel_rfl
 sizeByte:=by kernel_rfl
 neB5:=by decide
theorem GX:Builder.Extra Tryz.prog Tryz.lays169_ren where
 sizeBuilder:=by kernel_rfl
 liesBuilder:=by kernel_rfl
 t5:=Tryz.underlying5
 a5:=Tryz.isAgg5
 z5:=Tryz.sizeOf5
 v5:=Tryz.zeroValue5
 infoByte:=by kernel_rfl
 cellsByte:=by kernel_rfl
 sizeByte:=by kernel_rfl
 neB5:=by decide
theorem lays240:Lays.n240 Tryz.prog Tryz.lays156_ren := { Tryz.lays156 with }
theorem b3M (i:Nat) (hi:i<100) (w:World):Calls Tryz.prog 35 #[.int .i64 i] w fun e w'=>e = .returned (.string ⟨(Lib.decDigits i).toArray⟩)/\w'=w:=Any.strconv_Itoa_small Tryz.lays171 i hi w
theorem b3S (bk o c:Nat) (xs:List ByteArray) (sep:ByteArray) (w:World) (hcells:∀ (j:Nat) x,xs[j]? = some x->w.cell? ⟨bk,o+j,none⟩=some (.string x)) (hbk:bk<w.heap.size) (hN:xs.length<=140737488355328) (hcap:xs.length<=c)
 (hlen:(Lib.join (xs.map (·.data.toList)) sep.data.toList).length<=140737488355328) :
 Calls Tryz.prog 15 #[.slice (some ⟨bk,o,none⟩) xs.length c,.string sep] w fun e w'=>e = .returned (.string ⟨(Lib.join (xs.map (·.data.toList)) sep.data.toList).toArray⟩)/\Below w.heap.size w w' :=
 Any.strings_Join Tryz.lays156 TB bk o c xs sep w hcells hbk hN hcap hlen
theorem b3R (a:Option Addr) (c:Nat) (sep:ByteArray) (w:World):Calls Tryz.prog 15 #[.slice a 0 c,.string sep] w fun e w'=>e = .returned (.string ⟨#[]⟩)/\w'=w :=Any.strings_Join_none Tryz.lays156 TB a c sep w
theorem aNW (b:Nat) (w:World) (h0:w.cell? ⟨b,0,none⟩=some (.pointer (some ⟨b,0,none⟩))):Calls Tryz.prog 162 #[.pointer (some ⟨b,0,none⟩)] w fun e w'=>e = .returned (.tuple #[])/\w'=w :=Any.Builder_copyCheck_used lays240 TB.toX72 b w h0
section
variable {P:Program} {ρ:Ren}
set_option maxHeartbeats 1000000 in
set_option maxRecDepth 100000 in
theorem aNV (L:Lays.n240 P ρ) (X:Builder.X72 P ρ) (T:TypeId) (b:Nat) (w:World) (h0:w.cell? ⟨b,0,none⟩=some (.pointer none)) (hsh:w.shape? b=some (T,2)) (hfz:w.frozen? ⟨b,0,none⟩=false)
 (hlies:liesAt P P.depth T (2 / P.cellsOf T) 0 (ρ.t 72) 1=true) :
 Calls P (ρ.f 240) #[.pointer (some ⟨b,0,none⟩)] w fun e w'=>e = .returned (.tuple #[])/\w'=w.setCell ⟨b,0,none⟩ (.pointer (some ⟨b,0,none⟩)):=by
 obtain ⟨j,hj,hjs⟩:=G8.1 X.sizeBuilder;have mixed:=L.mixed;have t72:=L.t72; have a72:=L.a72; have z72:=L.z72; have v72:=L.v72; have u72:=dm L.t72;have t70:=L.t70; have a70:=L.a70; have z70:=L.z70; have v70:=L.v70; have u70:=dm L.t70;have t9:=L.t9; have a9:=L.a9; have z9:=L.z9; have v9:=L.v9; have u9:=dm L.t9;have t4:=L.t4; have a4:=L.a4; have z4:=L.z4; have v4:=L.v4; have u4:=dm L.t4;have t164:=L.t164; have a164:=L.a164; have z164:=L.z164; have v164:=L.v164; have u164:=dm L.t164;go_enter L.f240,Body.n240_ntmps ρ
 go_wp2
 rw[Lib.run_to_unsafe w ⟨b,0,none⟩ L.t70 L.t164 hj (by rw[hjs]; decide) hsh (Nat.zero_lt_succ 1)];simp only[Result.andThen];rw[XA];go_wp2
 rw[run_callFunc_extern L.f276 (by kernel_rfl) (by kernel_rfl) (by kernel_rfl) (e:=Extern.AbiNoEscape.same) (by kernel_rfl)];rw[Lib.run_noEscape];simp only[Result.andThen];rw[XA];go_wp2
 rw[Lib.run_from_unsafe w ⟨b,0,none⟩ L.t164 L.t70 hj hsh hlies];simp only[Result.andThen];rw[XA];go_wp2
 go_end0
 exact ⟨rfl,rfl⟩
end
theorem aNU (b:Nat) (w:World) (h0:w.cell? ⟨b,0,none⟩=some (.pointer none)) (hsh:w.shape? b=some (119,2)) (hfz:w.frozen? ⟨b,0,none⟩=false) :
 Calls Tryz.prog 162 #[.pointer (some ⟨b,0,none⟩)] w fun e w'=>e = .returned (.tuple #[])/\w'=w.setCell ⟨b,0,none⟩ (.pointer (some ⟨b,0,none⟩)) :=
 aNV lays240 TB.toX72 119 b w h0 hsh hfz (by kernel_rfl)
end Go.Proofs.YtcdceiloganlnaaGreatDoor
namespace Go.Proofs
open Go.Shelf Go.RowKit Go.Sort Go.Lib
def Tryz.laysM171_ren:Go.Shelf.Ren:=⟨fun|171=>35|243=>127|246=>219|283=>268|284=>269|285=>270|286=>271|129=>323|317=>322|318=>324|319=>325|320=>326|337=>341|338=>342|n=>n,fun|171=>305|53=>263|37=>117|173=>308|212=>336|51=>260|213=>337|46=>175|232=>347|233=>348|n=>n,fun|17=>1|18=>4|19=>5|n=>n⟩
theorem Tryz.laysM171 : LaysM.n171 Tryz.prog Tryz.laysM171_ren:=by constructor<;>first|kernel_rfl|(intro w;kernel_rfl)|(constructor<;>first|kernel_rfl|(intro w;kernel_rfl))
namespace YtcdceiloganlnaaGreatDoor
section
variable {P:Program} {ρ:Ren}
theorem below_grown (w:World) (k:Nat) (os:Array Obj):Below w.heap.size w (grow (w.drewN k) os) :=⟨rfl,rfl,rfl,by show w.heap.size<=(w.heap ++ os).size; simp,fun i hi=>by show (w.heap ++ os)[i]? = _; rw[Iw hi]⟩
def Dv (P:Program) (ρ:Ren) (w:World):Prop:=∀ i,i<20->w.cell? ⟨ρ.g 17,i,none⟩=some (.int .u64 ((10 ^ i:Nat):Int))
theorem Dv.alloc {w:World} (h:Dv P ρ w) (o:Obj):Dv P ρ (w.alloc o):=fun i hi=>by have hb:=rQ _ _ (h i hi);rw[a4W _ _ _ (Nat.ne_of_lt hb)]; exact h i hi
set_option maxHeartbeats 2000000 in
set_option maxRecDepth 100000 in
theorem aPD (L:LaysM.n284 P ρ) (u:Nat) (h1:1<=u) (h2:u<18446744073709551616) (w:World) (htab:Dv P ρ w) :
 Calls P (ρ.f 284) #[.int .u64 u] w fun e w'=>e = .returned (.int .i64 (Lib.nDigits u))/\w'=w:=by
 have mixed:=L.mixed;have t53:=L.t53; have a53:=L.a53; have z53:=L.z53; have v53:=L.v53;have t3:=L.t3; have a3:=L.a3; have z3:=L.z3; have v3:=L.v3;have t212:=L.t212; have a212:=L.a212; have z212:=L.z212; have v212:=L.v212;have t0:=L.t0; have a0:=L.a0; have z0:=L.z0; have v0:=L.v0;have t4:=L.t4; have a4:=L.a4; have z4:=L.z4; have v4:=L.v4;have e129:∀ args w,(callFunc (ρ.f 129) args).run P w = .ok (.enter (ρ.f 129) args) w:=enters_of L.f129 (by kernel_rfl) rfl;have e317:∀ args w,(callFunc (ρ.f 317) args).run P w = .ok (.enter (ρ.f 317) args) w:=enters_of L.f317 (by kernel_rfl) rfl;have e318:∀ args w,(callFunc (ρ.f 318) args).run P w = .ok (.enter (ρ.f 318) args) w:=enters_of L.f318 (by kernel_rfl) rfl;obtain ⟨hnd,h19⟩:=Lib.numDigits_eq u h1 h2;have hL:Lib.bitLen u<=64:=Lib.bitLen_le u 64 (bQ _) h2;have hcell:=htab (Lib.l10 (Lib.bitLen u)) (by omega);have hto:((u:Int)).toNat=u:=by omega
 generalize hq:Lib.l10 (Lib.bitLen u)=q at hnd h19 hcell;generalize hT:10 ^ q=T at hnd hcell;have h20:q<20:=by omega
 have Hnd:=Lib.hid hnd;clear hnd htab;go_enter L.f284,Body.n284_ntmps ρ
 go_wp2_with (first
  | (go_at_fn (ρ.f 129); refine (Any.bits_Len64 { L with } _ _ (by omega) (by omega)).mono ?_; rintro e w' ⟨rfl,rfl⟩)
  | (go_at_fn (ρ.f 317); refine (Any.internal_strconv_log10Pow2 { L with } _ (by first | exact hL | (rw[hto]; exact hL)) _).mono ?_; rintro e w' ⟨rfl,rfl⟩)
  | (go_at_fn (ρ.f 318); refine (Any.internal_strconv_bool2_int { L with } _ _).mono ?_; rintro e w' ⟨rfl,rfl⟩))
 all_goals go_ret
 all_goals (
  refine ⟨?_,rfl⟩;have hnd:=Hnd.out;congr 2
  split at hnd<;>simp_all<;>omega)
set_option maxHeartbeats 6400000 in
set_option maxRecDepth 100000 in
theorem aQP (L:LaysM.n246 P ρ) (u:Nat) (hu1:100<=u) (hu:u<9223372036854775808) (w:World) (htab:Dv P ρ w) :
 Calls P (ρ.f 246) #[.int .i64 u,.int .i64 10] w fun e w'=>e = .returned (.string ⟨(Lib.decDigits u).toArray⟩)/\Below w.heap.size w w':=by
 have mixed:=L.mixed;have t2:=L.t2; have a2:=L.a2; have z2:=L.z2; have v2:=L.v2;have t3:=L.t3; have a3:=L.a3; have z3:=L.z3; have v3:=L.v3;have t9:=L.t9; have a9:=L.a9; have z9:=L.z9; have v9:=L.v9;have t4:=L.t4; have a4:=L.a4; have z4:=L.z4; have v4:=L.v4;have t171:=L.t171; have a171:=L.a171; have z171:=L.z171; have v171:=L.v171;have t0:=L.t0; have a0:=L.a0; have z0:=L.z0; have v0:=L.v0;have t53:=L.t53; have a53:=L.a53; have z53:=L.z53; have v53:=L.v53;have t37:=L.t37; have a37:=L.a37; have z37:=L.z37; have v37:=L.v37;have t5:=L.t5; have a5:=L.a5; have z5:=L.z5; have v5:=L.v5;have t173:=L.t173; have a173:=L.a173; have z173:=L.z173; have v173:=L.v173;have e283:∀ args w,(callFunc (ρ.f 283) args).run P w = .ok (.enter (ρ.f 283) args) w:=enters_of L.f283 (by kernel_rfl) rfl;have e284:∀ args w,(callFunc (ρ.f 284) args).run P w = .ok (.enter (ρ.f 284) args) w:=enters_of L.f284 (by kernel_rfl) rfl;have e285:∀ args w,(callFunc (ρ.f 285) args).run P w = .ok (.enter (ρ.f 285) args) w:=enters_of L.f285 (by kernel_rfl) rfl;have hu64:u<18446744073709551616:=by omega
 have hnd20:Lib.nDigits u<=20:=by have:=Lib.numDigits_eq u (by omega) hu64; split at this<;>omega
 have hb3:Lib.nDigits u<=23:=by omega
 have hal:P.arrayLen (ρ.t 171)=24:=by simp[Program.arrayLen,L.t171]
 have hsl1:∀ W,(Instr.sliceAt (ρ.t 171) (.pointer (some ⟨w.heap.size,0,none⟩)) (some (.int .i64 1)) (some (.int .i64 (1+(Lib.nDigits u:Int)))) none).run P W = .ok (.slice (some ⟨w.heap.size,1,none⟩) (Lib.nDigits u) 23) W:=fun W=>by
  rw[run_sliceAt_array_lh W (ρ.t 171) ⟨w.heap.size,0,none⟩ (by simp[Program.arrayLen,Program.elem,L.t171]) .i64 .i64 1 (1+(Lib.nDigits u:Int)) (by omega) (by omega) (by rw[hal]; omega)];go_simp
  omega
 have hH0:=Lib.holds_zero w (ρ.t 171) (Lib.nDigits u) (by omega);have hfmt:=Any.internal_strconv_formatBase10 { L with } w.heap.size 1 23 u (Array.replicate (Lib.nDigits u) 0) (w.alloc (.cells Lib.zeros24 (ρ.t 171))) hH0 (by rw[a4N]; exact Lib.lt_pow_nDigits u) hu64 (by rw[a4N]; omega);rw[a4N] at hfmt;have HH0:=Lib.hid hH0;clear hH0 hal;go_enter L.f246,Body.n246_ntmps ρ
 go_wp2_with (first
  | (go_at_fn (ρ.f 284); refine (aPD { L with } u (by omega) hu64 _ (htab.alloc _)).mono ?_; rintro e w' ⟨rfl,rfl⟩))
 go_at_fn (ρ.f 285)
 refine hfmt.mono ?_;rintro e w' ⟨rfl,k,v',dk,rfl,hF⟩;have hcv:(convert (ρ.t 37) (ρ.t 9) (.slice (some ⟨w.heap.size,1,none⟩) (Lib.nDigits u) 23)).run P ((putRow (fun (b:UInt8)=>Value.int .u8 (b.toNat:Int)) (w.alloc (.cells Lib.zeros24 (ρ.t 171))) w.heap.size 1 dk).drewN k) = .ok (.string ⟨(Lib.decDigits u).toArray⟩) ((putRow (fun (b:UInt8)=>Value.int .u8 (b.toNat:Int)) (w.alloc (.cells Lib.zeros24 (ρ.t 171))) w.heap.size 1 dk).drewN k):=by have h:=run_convert_bytes_back (P:=P) ((putRow (fun (b:UInt8)=>Value.int .u8 (b.toNat:Int)) (w.alloc (.cells Lib.zeros24 (ρ.t 171))) w.heap.size 1 dk).drewN k) (ρ.t 37) (ρ.t 9) (ρ.t 5) ⟨w.heap.size,1,none⟩ 23 (Lib.decDigits u) L.t37 L.t5 L.t9 (fun j hj=>by rw[Lib.row_is_numeral hF j hj,Lib.add_plain,World.cell?_drewN];exact cell?_putRow (fun (b:UInt8)=>Value.int .u8 (b.toNat:Int)) _ w.heap.size 1 _ dk HH0.out (by rw[hF.size,a4N]) j (by rw[hF.size]; rw[Lib.decDigits_length] at hj; exact hj));rw[Lib.decDigits_length] at h;exact h
 go_wp2
 go_ret
 obtain ⟨os,eo⟩:=Lib.fin_pos w (.cells Lib.zeros24 (ρ.t 171)) dk k;refine ⟨rfl,?_⟩;rw[eo];exact below_grown w k os
set_option maxRecDepth 100000 in
theorem b3J (L:LaysM.n243 P ρ) (u:Nat) (hu1:100<=u) (hu:u<9223372036854775808) (w:World) (htab:Dv P ρ w) :
 Calls P (ρ.f 243) #[.int .i64 u] w fun e w'=>e = .returned (.string ⟨(Lib.decDigits u).toArray⟩)/\Below w.heap.size w w':=by
 have mixed:=L.mixed;have t3:=L.t3; have a3:=L.a3; have z3:=L.z3; have v3:=L.v3;have t9:=L.t9; have a9:=L.a9; have z9:=L.z9; have v9:=L.v9;have t2:=L.t2; have a2:=L.a2; have z2:=L.z2; have v2:=L.v2;have e246:∀ args w,(callFunc (ρ.f 246) args).run P w = .ok (.enter (ρ.f 246) args) w:=enters_of L.f246 (by kernel_rfl) rfl;go_enter L.f243,Body.n243_ntmps ρ
 go_wp2_with (go_at_fn (ρ.f 246); refine (aQP { L with } u hu1 hu _ htab).mono ?_; rintro e w' ⟨rfl,hb⟩)
 go_ret
 exact ⟨rfl,hb⟩
set_option maxRecDepth 100000 in
theorem b3L (L:LaysM.n171 P ρ) (u:Nat) (hu1:100<=u) (hu:u<9223372036854775808) (w:World) (htab:Dv P ρ w) :
 Calls P (ρ.f 171) #[.int .i64 u] w fun e w'=>e = .returned (.string ⟨(Lib.decDigits u).toArray⟩)/\Below w.heap.size w w':=by
 have mixed:=L.mixed;have t3:=L.t3; have a3:=L.a3; have z3:=L.z3; have v3:=L.v3;have t9:=L.t9; have a9:=L.a9; have z9:=L.z9; have v9:=L.v9;have e243:∀ args w,(callFunc (ρ.f 243) args).run P w = .ok (.enter (ρ.f 243) args) w:=enters_of L.f243 (by kernel_rfl) rfl;go_enter L.f171,Body.n171_ntmps ρ
 go_wp2_with (go_at_fn (ρ.f 243); refine (b3J { L with } u hu1 hu _ htab).mono ?_; rintro e w' ⟨rfl,hb⟩)
 go_ret
 exact ⟨rfl,hb⟩
end
end YtcdceiloganlnaaGreatDoor
end Go.Proofs
namespace Go.Proofs
open Go.Shelf
def Tryz.lays146_ren:Go.Shelf.Ren:=⟨fun|146=>39|221=>156|268=>234|138=>235|143=>157|195=>290|197=>291|218=>292|219=>236|260=>330|217=>293|225=>294|224=>295|267=>296|266=>331|314=>332|n=>n,fun|31=>34|105=>320|46=>175|119=>343|139=>346|138=>345|146=>261|51=>260|n=>n,fun|1=>0|3=>2|4=>3|n=>n⟩
theorem Tryz.lays146 : Lays.n146 Tryz.prog Tryz.lays146_ren:=by constructor<;>first|kernel_rfl|(intro w;kernel_rfl)
end Go.Proofs
namespace Go.Proofs.YtcdceiloganlnaaGreatDoor
open Go.RowKit Go.Shelf
def zZ (c:UInt8):List UInt8->List (List UInt8)
 | [] => [[]]
 | x::l=>if x=c then []::zZ c l else (x::(zZ c l).headD [])::(zZ c l).tail
theorem b3O (c:UInt8) (l:List UInt8):Lib.indexByte (c::l) c=0:=by simp[Lib.indexByte]
theorem b3P {b c:UInt8} {l:List UInt8} (h:b≠c) (hi:Lib.indexByte l c = -1):Lib.indexByte (b::l) c = -1:=by simp[Lib.indexByte,h,hi]
theorem b3N {b c:UInt8} {l:List UInt8} (h:b≠c) (hi:Lib.indexByte l c ≠ -1):Lib.indexByte (b::l) c=Lib.indexByte l c+1:=by simp[Lib.indexByte,h,hi]
theorem bCT (sep:List UInt8) (l:List UInt8):Lib.splitK sep 0 0 l = [l]:=rfl
theorem aK1 {c:UInt8} {k:Nat} {l:List UInt8} (h:Lib.indexByte l c = -1):Lib.splitK [c] 0 (k+1) l = [l]:=by rw[Lib.splitK,Lib.index_one,h]; rfl
theorem a2U {c:UInt8} {k i:Nat} {l:List UInt8} (h:Lib.indexByte l c=i):Lib.splitK [c] 0 (k+1) l=l.take i::Lib.splitK [c] 0 k (l.drop (i+1)):=by
 rw[Lib.splitK,Lib.index_one,h];have:¬ ((i:Int) == -1)=true:=fun e=>by have:=kF.1 e; omega
 rw[aI this];simp
theorem aK2 (c:UInt8):∀ l:List UInt8,Lib.splitK [c] 0 (l.count c) l=zZ c l
 | []=>rfl
 | b::l=>by
  have ih:=aK2 c l;by_cases h:b=c
  .subst h;rw[List.count_cons_self,a2U (i:=0) (b3O b l),zZ,aH rfl,<- ih];rfl
  .rw[List.count_cons_of_ne (by simpa using h),zZ,aI h];cases hk:l.count c with
   | zero =>rw[hk,bCT] at ih;rw[<- ih]; rfl
   | succ k =>
    rw[hk] at ih;by_cases hi:Lib.indexByte l c = -1
    .rw[aK1 hi] at ih;rw[aK1 (b3P h hi),<- ih]; rfl
    .have h0:=Lib.indexByte_ge l c;obtain ⟨i,he⟩:∃ i:Nat,Lib.indexByte l c=i:=⟨(Lib.indexByte l c).toNat,by omega⟩;rw[a2U he] at ih;rw[a2U (i:=i+1) (by rw[b3N h hi,he]; rfl),<- ih];rfl
theorem aJZ (c:UInt8) (s:ByteArray):Lib.splitB ⟨#[c]⟩ 0 (s.data.toList.count c) s=(zZ c s.data.toList).map fun l=>⟨l.toArray⟩:=by
 have h:=Lib.splitB_data ⟨#[c]⟩ 0 (s.data.toList.count c) s;rw[show (ByteArray.mk #[c]).data.toList = [c] from rfl,aK2] at h;rw[<- h,Bi];have:∀ x:ByteArray,((fun l:List UInt8=>(⟨l.toArray⟩:ByteArray)) ∘ fun x=>x.data.toList) x=x:=fun x=>by simp
 rw[show ((fun l:List UInt8=>(⟨l.toArray⟩:ByteArray)) ∘ fun x=>x.data.toList)=id from funext this,List.map_id]
section
variable {P:Program} {ρ:Ren}
set_option maxHeartbeats 1000000 in
theorem bCU (L:Lays.n146 P ρ) (hi9:(P.info? (ρ.t 9)).map (fun i=>(i.zero,i.size,i.bytes))=some (some (.string ByteArray.empty),1,16)) (s:ByteArray) (c:UInt8) (n:Nat) (hc:Lib.countB s ⟨#[c]⟩=n) (w:World) (hs:s.size<4294967281) :
 Calls P (ρ.f 146) #[.string s,.string ⟨#[c]⟩] w fun e w' =>e = .returned (.slice (some ⟨w.heap.size,0,none⟩) (n+1) (n+1))/\w'=w.alloc (.cells ((Lib.splitB ⟨#[c]⟩ 0 (n) s).map Value.string).toArray (ρ.t 9)):=by
 have h1:1<=(ByteArray.mk #[c]).size:=bQ 1;have hle:=Lib.countB_le ⟨#[c]⟩ h1 s.size s (bQ _);have hlen:=Lib.splitB_all ⟨#[c]⟩ h1 0 _ s rfl;have k:=Any.strings_genSplit_core { L with } hi9 s ⟨#[c]⟩ 0 (-1) (Lib.countB s ⟨#[c]⟩+1) w hs h1 (uA _)
  (fun x d _=>(Any.strings_Index_one { L with } x c _).mono fun e w' ⟨h1,h2⟩=>⟨by rw[h1,<- Lib.index_one],h2⟩)
  ((Any.strings_Count_one { L with } s c w).mono fun e w' ⟨h1,h2⟩=>⟨by rw[h1]; show _=Ending.returned (Value.int .i64 ((Lib.count s.data.toList [c]:Nat):Int)); rw[Lib.count_one]; rfl,h2⟩) (by decide) (by decide) (by rw[aH (by decide)]; omega)
 rw[Nat.add_sub_cancel,hlen] at k;have e2:Lib.cellsOf (Lib.splitB ⟨#[c]⟩ 0 (Lib.countB s ⟨#[c]⟩) s) (Lib.countB s ⟨#[c]⟩+1)=((Lib.splitB ⟨#[c]⟩ 0 (Lib.countB s ⟨#[c]⟩) s).map Value.string).toArray:=by rw[<- hlen]; exact Lib.cellsOf_full _
 rw[e2,hc] at k;have t3:=L.t3; have t9:=L.t9; have t31:=L.t31;have a3:=L.a3; have a9:=L.a9; have a31:=L.a31;have z3:=L.z3; have v3:=L.v3; have z9:=L.z9; have v9:=L.v9; have z31:=L.z31; have v31:=L.v31;have e221:∀ args w,(callFunc (ρ.f 221) args).run P w = .ok (.enter (ρ.f 221) args) w:=enters_of L.f221 (by kernel_rfl) rfl;go_enter L.f146,Body.n146_ntmps ρ
 go_wp2_with (go_at_fn (ρ.f 221); refine k.mono ?_; rintro e w' ⟨rfl,hw⟩; rw[hw])
 go_ret
 exact ⟨rfl,rfl⟩
end
def DY (l:List (List UInt8)):List PV:=l.map fun x => .str ⟨x.toArray⟩
theorem aQ0 (s:ByteArray) (c:UInt8) (hs:s.size<4294967281):Ev Tryz.prog 39 [.str s,.str ⟨#[c]⟩] [] (.sl false 1 (DY (zZ c s.data.toList))) []:=by
 refine Ev.b7D (by kernel_rfl) rfl rfl fun M w vals hmem hv => ?_
 obtain ⟨u1,us,e1,r1,hv⟩:=bY.1 hv;obtain ⟨u2,us,rfl,r2,hv⟩:=bY.1 hv;rw[dC] at hv; subst hv;have:vals = #[.string s,.string ⟨#[c]⟩]:=by rw[<- lN,e1,gJ.1 r1,gJ.1 r2]
 subst this;refine (bCU Tryz.lays146 (by kernel_rfl) s c _ (Lib.count_one c _) w hs).mono ?_;rintro e w' ⟨rfl,rfl⟩;refine ⟨_,rfl,?_,(Below.refl _ _).alloc (bQ _) _⟩;have hl:(zZ c s.data.toList).length=s.data.toList.count c+1:=by have h:=congrArg List.length (aJZ c s);rw[bW] at h;rw[<- h];have:=Lib.splitB_all ⟨#[c]⟩ (bQ 1) 0 (s.data.toList.count c) s (Lib.count_one c _);exact this
 refine iF.2 ⟨_,_,by rw[show (DY (zZ c s.data.toList)).length=s.data.toList.count c+1 by simp[DY,hl]],by simp[DY,hl],fun e he => ?_,fun h=>absurd h (by decide),fun _=>⟨_,_,rfl,?_⟩⟩
 .obtain ⟨x,_,rfl⟩:=kP.1 he; rfl
 .rw[aJZ];have key:∀ (l:List (List UInt8)) (vs:List Value) (o:Nat),(∀ j,j<l.length->vs[o+j]? =(l[j]?).map fun x=>Value.string ⟨x.toArray⟩)->ig (news M w.heap.size (w.alloc (.cells vs.toArray (Tryz.lays146_ren.t 9)))) [] 1 (DY l) w.heap.size o:=by
   intro l;induction l with
   | nil=>intro vs o _; exact Eu
   | cons x l ih =>
    intro vs o h;refine Et.2 ⟨(sS rfl (fun _ h=>by cases h)).2 ⟨.string ⟨x.toArray⟩,?_,gJ.2 rfl⟩,ih vs (o+1) fun j hj => ?_⟩
    .have h0:=h 0 (by simp);simp only[zt,List.getElem?_cons_zero,o9] at h0;exact b6Z hmem (bQ _) (by rw[World.cell?_alloc_new]; simpa using h0) rfl
    .have:=h (j+1) (by simp; omega);rw[show o+1+j=o+(j+1) by omega,this]; simp
  exact key _ _ 0 fun j hj=>by simp[gV,Function.comp_def]
end Go.Proofs.YtcdceiloganlnaaGreatDoor
namespace Go.Proofs
open Go.Shelf
def Tryz.lays217_ren:Go.Shelf.Ren:=⟨fun|217=>293|266=>331|n=>n,id,id⟩
theorem Tryz.lays217 : Lays.n217 Tryz.prog Tryz.lays217_ren:=by constructor<;>first|kernel_rfl|(intro w;kernel_rfl)
end Go.Proofs
namespace Go.Proofs.YtcdceiloganlnaaGreatDoor
open Go.RowKit Go.Shelf
theorem b33 (s:ByteArray) (c:Int) (w:World):Calls Tryz.prog 293 #[.string s,.int .u8 c] w fun e w'=>e = .returned (.int .i64 (Lib.indexByte s.data.toList c.toNat.toUInt8))/\w'=w:=Any.stringslite_IndexByte Tryz.lays217 s c w
def XF:Cal:=fun g args h=>match g,args with
 | 293,[.str s,.int .u8 c]=>some (.int .i64 (Lib.indexByte s.data.toList c.toNat.toUInt8),h)
 | _,_=>none
theorem YD {P:Program} {g:FuncId} {args:List PV} {r:PV} {v:Value} (hc:callable P g=true) (hr:∀ M B,Rep M B r v) (ho:r.own=false)
 (h:∀ (M:Mem) (B:aQ) (w:World) (vals:Array Value),ag M B args vals.toList->Calls P g vals w fun e w'=>e = .returned v/\w'=w) (hh:aF):Ev P g args hh r hh:=by
 refine ⟨hc,fun out M B w vals hmem hheap hcnt hnew hv=>(h M B w vals hv).mono ?_⟩;rintro e w' ⟨rfl,rfl⟩;refine ⟨v,M,B,rfl,hmem,cu.refl _ _,Fr.refl _ _ _,hheap,hr M B,dn ho,fun b _ => ?_,fun b => ?_,fun b hb => ?_⟩
 .rw[bu ho]; exact bQ _
 .rw[bu ho]; exact hcnt b
 .rw[bu ho]; exact hnew b hb
theorem Bv:lU Tryz.prog XF:=by
 intro g args h r h' hv;unfold XF at hv;split at hv
 .rename_i s c;injection hv with hv; injection hv with h1 h2; subst h1; subst h2
  refine YD (v := .int .i64 (Lib.indexByte s.data.toList c.toNat.toUInt8)) (by kernel_rfl) (fun _ _=>dF.2 rfl) rfl (fun M B w vals hv => ?_) h;obtain ⟨u1,us,e1,r1,hv⟩:=bY.1 hv;obtain ⟨u2,us,rfl,r2,hv⟩:=bY.1 hv;rw[dC] at hv;subst hv;rw[gJ] at r1; rw[dF] at r2;subst r1; subst r2;have:vals = #[.string s,.int .u8 c]:=by rw[<- lN]; exact e1
  rw[this];exact b33 s c w
 .cases hv
end Go.Proofs.YtcdceiloganlnaaGreatDoor
namespace Go.Proofs.YtcdceiloganlnaaGreatDoor
open Go.RowKit
set_option maxRecDepth 1000000
def Ig (p:PV) (K:Int->ByteArray->Int->Int->Int->R):R:=match p with | .agg [.int .i64 x0,.str x1,.int .i64 x2,.int .i64 x3,.int .i64 x4]=>K x0 x1 x2 x3 x4 | _=>none
theorem a4E (p:PV):(∀ K:PV->R,Ig p (fun x0 x1 x2 x3 x4=>K (.agg [.int .i64 x0,.str x1,.int .i64 x2,.int .i64 x3,.int .i64 x4]))=K p)\/(∀ K:PV->R,Ig p (fun x0 x1 x2 x3 x4=>K (.agg [.int .i64 x0,.str x1,.int .i64 x2,.int .i64 x3,.int .i64 x4]))=none):=by
 unfold Ig; split
 .exact .inl fun _=>rfl
 .exact .inr fun _=>rfl
@[simp] theorem bII (x0 : Int) (x1 : ByteArray) (x2 : Int) (x3 : Int) (x4 : Int) (K : Int -> ByteArray -> Int -> Int -> Int -> R) : Ig (.agg [.int .i64 x0, .str x1, .int .i64 x2, .int .i64 x3, .int .i64 x4]) K = K x0 x1 x2 x3 x4 := rfl
def VV (t:TypeId) (p:PV) (K:PV->R):R :=
 aA (Nat.beq t 2) (vI .i64 p fun n1=>K (.int .i64 n1))
  (aA (Nat.beq t 3) (vI .i64 p fun n1=>K (.int .i64 n1))
  (aA (Nat.beq t 4) (vB p fun b1=>K (.bool b1))
  (aA (Nat.beq t 5) (vI .u8 p fun n1=>K (.int .u8 n1))
  (aA (Nat.beq t 6) (vI .u8 p fun n1=>K (.int .u8 n1))
  (aA (Nat.beq t 9) (vS p fun s1=>K (.str s1))
  (aA (Nat.beq t 10) (vS p fun s1=>K (.str s1))
  (aA (Nat.beq t 11) (vS p fun s1=>K (.str s1))
  (aA (Nat.beq t 12) (vI .u64 p fun n1=>K (.int .u64 n1))
  (aA (Nat.beq t 21) (vI .i32 p fun n1=>K (.int .i32 n1))
  (aA (Nat.beq t 22) (vL false 5 p fun l1=>K (.sl false 5 l1))
  (aA (Nat.beq t 31) (vI .i64 p fun n1=>K (.int .i64 n1))
  (aA (Nat.beq t 34) (vL false 1 p fun l1=>K (.sl false 1 l1))
  (aA (Nat.beq t 65) (vI .u16 p fun n1=>K (.int .u16 n1))
  (aA (Nat.beq t 83) (vL false 1 p fun l1=>K (.sl false 1 l1))
  (aA (Nat.beq t 95) (vL false 5 p fun l1=>K (.sl false 5 l1))
  (aA (Nat.beq t 117) (vL false 1 p fun l1=>K (.sl false 1 l1))
  (aA (Nat.beq t 126) (vL false 1 p fun l1=>K (.sl false 1 l1))
  (aA (Nat.beq t 130) (vL false 5 p fun l1=>K (.sl false 5 l1))
  (aA (Nat.beq t 175) (vI .u64 p fun n1=>K (.int .u64 n1))
  (aA (Nat.beq t 188) (vI .i8 p fun n1=>K (.int .i8 n1))
  (aA (Nat.beq t 191) (Ig p fun n1 s2 n3 n4 n5=>K (.agg [.int .i64 n1,.str s2,.int .i64 n3,.int .i64 n4,.int .i64 n5]))
  (aA (Nat.beq t 192) (Ig p fun n1 s2 n3 n4 n5=>K (.agg [.int .i64 n1,.str s2,.int .i64 n3,.int .i64 n4,.int .i64 n5]))
  (aA (Nat.beq t 219) (vL false 1 p fun l1=>K (.sl false 1 l1))
  (aA (Nat.beq t 236) (vL false 1 p fun l1=>K (.sl false 1 l1))
  (aA (Nat.beq t 260) (vI .u32 p fun n1=>K (.int .u32 n1))
  (aA (Nat.beq t 263) (vI .u64 p fun n1=>K (.int .u64 n1))
  (aA (Nat.beq t 354) (vI .u8 p fun n1=>K (.int .u8 n1))
  (aA (Nat.beq t 355) (vI .u8 p fun n1=>K (.int .u8 n1))
  (aA (Nat.beq t 357) (vI .i32 p fun n1=>K (.int .i32 n1))
  (aA (Nat.beq t 358) (vI .i32 p fun n1=>K (.int .i32 n1))
  (K p)))))))))))))))))))))))))))))))
theorem aLX:vz VV:=fun t p =>jL (oZ .i64 p) (jL (oZ .i64 p) (jL (FY p) (jL (oZ .u8 p) (jL (oZ .u8 p) (jL (Qv p) (jL (Qv p) (jL (Qv p) (jL (oZ .u64 p) (jL (oZ .i32 p) (jL (yJ false 5 p) (jL (oZ .i64 p) (jL (yJ false 1 p) (jL (oZ .u16 p) (jL (yJ false 1 p) (jL (yJ false 5 p) (jL (yJ false 1 p) (jL (yJ false 1 p) (jL (yJ false 5 p) (jL (oZ .u64 p) (jL (oZ .i8 p) (jL (a4E p) (jL (a4E p) (jL (yJ false 1 p) (jL (yJ false 1 p) (jL (oZ .u32 p) (jL (oZ .u64 p) (jL (oZ .u8 p) (jL (oZ .u8 p) (jL (oZ .i32 p) (jL (oZ .i32 p) (.inl fun _=>rfl)))))))))))))))))))))))))))))))
def Qw (p:PV) (K:List PV->Int->Int->Int->R):R:=match p with | .tuple [.sl false 5 l1,.int .i64 n2,.int .i64 n3,.int .i64 n4]=>K l1 n2 n3 n4 | _=>none
theorem bEW (p:PV) (h:aF):(∀ K:PV->aF->R,Qw p (fun l1 n2 n3 n4=>K (.tuple [.sl false 5 l1,.int .i64 n2,.int .i64 n3,.int .i64 n4]) h)=K p h)\/(∀ K:PV->aF->R,Qw p (fun l1 n2 n3 n4=>K (.tuple [.sl false 5 l1,.int .i64 n2,.int .i64 n3,.int .i64 n4]) h)=none):=by
 unfold Qw; split
 .exact .inl fun _=>rfl
 .exact .inr fun _=>rfl
@[simp] theorem bIK (l1 : List PV) (n2 : Int) (n3 : Int) (n4 : Int) (K : List PV -> Int -> Int -> Int -> R) : Qw (.tuple [.sl false 5 l1, .int .i64 n2, .int .i64 n3, .int .i64 n4]) K = K l1 n2 n3 n4 := rfl
def Be (p:PV) (K:Int->ByteArray->Int->Int->Int->Int->R):R:=match p with | .tuple [.agg [.int .i64 n1,.str s2,.int .i64 n3,.int .i64 n4,.int .i64 n5],.int .i64 n6]=>K n1 s2 n3 n4 n5 n6 | _=>none
theorem a4F (p:PV) (h:aF):(∀ K:PV->aF->R,Be p (fun n1 s2 n3 n4 n5 n6=>K (.tuple [.agg [.int .i64 n1,.str s2,.int .i64 n3,.int .i64 n4,.int .i64 n5],.int .i64 n6]) h)=K p h)\/(∀ K:PV->aF->R,Be p (fun n1 s2 n3 n4 n5 n6=>K (.tuple [.agg [.int .i64 n1,.str s2,.int .i64 n3,.int .i64 n4,.int .i64 n5],.int .i64 n6]) h)=none):=by
 unfold Be; split
 .exact .inl fun _=>rfl
 .exact .inr fun _=>rfl
@[simp] theorem bIL (n1 : Int) (s2 : ByteArray) (n3 : Int) (n4 : Int) (n5 : Int) (n6 : Int) (K : Int -> ByteArray -> Int -> Int -> Int -> Int -> R) : Be (.tuple [.agg [.int .i64 n1, .str s2, .int .i64 n3, .int .i64 n4, .int .i64 n5], .int .i64 n6]) K = K n1 s2 n3 n4 n5 n6 := rfl
def H9 (p:PV) (h:aF) (K:Int->ByteArray->Int->Int->Int->Int->Int->Int->R):R:=match p,h with | .agg [.int .i64 n1,.str s2,.int .i64 n3,.int .i64 n4,.int .i64 n5],[some [.int .i64 n6],some [.int .i64 n7],some [.int .i64 n8]]=>K n1 s2 n3 n4 n5 n6 n7 n8 | _,_=>none
theorem b2B (p:PV) (h:aF):(∀ K:PV->aF->R,H9 p h (fun n1 s2 n3 n4 n5 n6 n7 n8=>K (.agg [.int .i64 n1,.str s2,.int .i64 n3,.int .i64 n4,.int .i64 n5]) [some [.int .i64 n6],some [.int .i64 n7],some [.int .i64 n8]])=K p h)\/(∀ K:PV->aF->R,H9 p h (fun n1 s2 n3 n4 n5 n6 n7 n8=>K (.agg [.int .i64 n1,.str s2,.int .i64 n3,.int .i64 n4,.int .i64 n5]) [some [.int .i64 n6],some [.int .i64 n7],some [.int .i64 n8]])=none):=by
 unfold H9; split
 .exact .inl fun _=>rfl
 .exact .inr fun _=>rfl
@[simp] theorem bGI (n1 : Int) (s2 : ByteArray) (n3 : Int) (n4 : Int) (n5 : Int) (n6 : Int) (n7 : Int) (n8 : Int) (K : Int -> ByteArray -> Int -> Int -> Int -> Int -> Int -> Int -> R) : H9 (.agg [.int .i64 n1, .str s2, .int .i64 n3, .int .i64 n4, .int .i64 n5]) [some [.int .i64 n6], some [.int .i64 n7], some [.int .i64 n8]] K = K n1 s2 n3 n4 n5 n6 n7 n8 := rfl
def Ry (h0:aF) (r:PV) (h:aF) (K:PV->aF->R):R:=match h0 with
 | [some [.int .i64 _],some [.int .i64 _],some [.int .i64 _]]=>H9 r h (fun n1 s2 n3 n4 n5 n6 n7 n8=>K (.agg [.int .i64 n1,.str s2,.int .i64 n3,.int .i64 n4,.int .i64 n5]) [some [.int .i64 n6],some [.int .i64 n7],some [.int .i64 n8]])
 | []=>Ig r fun n1 s2 n3 n4 n5=>K (.agg [.int .i64 n1,.str s2,.int .i64 n3,.int .i64 n4,.int .i64 n5]) h
 | _=>K r h
theorem aLZ (h0:aF) (r:PV) (h:aF):(∀ K:PV->aF->R,Ry h0 r h K=K r h)\/(∀ K:PV->aF->R,Ry h0 r h K=none):=by
 unfold Ry; split
 .exact b2B r h
 .exact xA (a4E r) h
 .exact .inl fun _=>rfl
def Xd (g:FuncId) (h0:aF) (r:PV) (h:aF) (K:PV->aF->R):R :=
 aA (Nat.beq g 303) (vB r fun b1=>K (.bool b1) h)
  (aA (Nat.beq g 304) (Be r fun n1 s2 n3 n4 n5 n6=>K (.tuple [.agg [.int .i64 n1,.str s2,.int .i64 n3,.int .i64 n4,.int .i64 n5],.int .i64 n6]) h)
  (aA (Nat.beq g 305) (vB r fun b1=>K (.bool b1) h)
  (aA (Nat.beq g 306) (Be r fun n1 s2 n3 n4 n5 n6=>K (.tuple [.agg [.int .i64 n1,.str s2,.int .i64 n3,.int .i64 n4,.int .i64 n5],.int .i64 n6]) h)
  (aA (Nat.beq g 333) (vS r fun s1=>K (.str s1) h)
  (aA (Nat.beq g 334) (vB r fun b1=>K (.bool b1) h)
  (K r h))))))
theorem aM1 (g:FuncId) (h0:aF) (r:PV) (h:aF):(∀ K:PV->aF->R,Xd g h0 r h K=K r h)\/(∀ K:PV->aF->R,Xd g h0 r h K=none) :=pU (xA (FY r) h) (pU (a4F r h) (pU (xA (FY r) h) (pU (a4F r h) (pU (xA (Qv r) h) (pU (xA (FY r) h) (.inl fun _=>rfl))))))
def Xc (g:FuncId) (h0:aF) (r:PV) (h:aF) (K:PV->aF->R):R :=
 aA (Nat.beq g 99) (Qw r fun l1 n2 n3 n4=>K (.tuple [.sl false 5 l1,.int .i64 n2,.int .i64 n3,.int .i64 n4]) h)
  (aA (Nat.beq g 120) (vB r fun b1=>K (.bool b1) h)
  (aA (Nat.beq g 213) (vB r fun b1=>K (.bool b1) h)
  (aA (Nat.beq g 249) (w0 r (K (.tuple []) h))
  (aA (Nat.beq g 250) (vI .i64 r fun n1=>K (.int .i64 n1) h)
  (aA (Nat.beq g 251) (Ry h0 r h K)
  (aA (Nat.beq g 252) (Be r fun n1 s2 n3 n4 n5 n6=>K (.tuple [.agg [.int .i64 n1,.str s2,.int .i64 n3,.int .i64 n4,.int .i64 n5],.int .i64 n6]) h)
  (aA (Nat.beq g 253) (vL false 2 r fun l1=>K (.sl false 2 l1) h)
  (aA (Nat.beq g 293) (vI .i64 r fun n1=>K (.int .i64 n1) h)
  (aA (Nat.beq g 300) (vB r fun b1=>K (.bool b1) h)
  (aA (Nat.beq g 301) (vI .i64 r fun n1=>K (.int .i64 n1) h)
  (aA (Nat.beq g 302) (vL false 1 r fun l1=>K (.sl false 1 l1) h)
  (Xd g h0 r h K))))))))))))
theorem aM0 (g:FuncId) (h0:aF) (r:PV) (h:aF):(∀ K:PV->aF->R,Xc g h0 r h K=K r h)\/(∀ K:PV->aF->R,Xc g h0 r h K=none) :=pU (bEW r h) (pU (xA (FY r) h) (pU (xA (FY r) h) (pU (bEV r h) (pU (xA (oZ .i64 r) h) (pU (aLZ h0 r h) (pU (a4F r h) (pU (xA (yJ false 2 r) h) (pU (xA (oZ .i64 r) h) (pU (xA (FY r) h) (pU (xA (oZ .i64 r) h) (pU (xA (yJ false 1 r) h) (aM1 g h0 r h))))))))))))
def WW:FuncId->aF->PV->aF->(PV->aF->R)->R:=Xc
theorem aL':qG WW:=aM0
def a1H (g:FuncId):Rq:=match g with
 | 99=>⟨[0,2,3,4,5],[22],[],[],[(4,[0]),(10,[2,3,4,5])],[],[(2,[5])],[],[([5],false),([],true),([],true),([],true)],[],[],[],false⟩
 | 120=>⟨[0,1],[],[],[],[],[],[],[],[],[],[],[],false⟩
 | 195=>⟨[0,1],[],[],[],[],[],[],[1],[],[],[],[],false⟩
 | 213=>⟨[0,1],[],[],[],[],[],[],[],[],[],[],[],false⟩
 | 249=>⟨[0,1,3,4,5,6,7,8,9,11,12,13,47,48,49],[],[],[(47,[2])],[(2,[0,1,3,4,5]),(6,[0,1,3,4,5,6,7]),(5,[0,1,3,4,5,6,7]),(8,[0,1,3,4,5,6]),(12,[0,1,3,4,5,8]),(15,[0,1,3,4,5,8,9,47,48,49]),(18,[0,1,3,4,5,8,9,47,48,49]),(19,[0,1,3,4,5,8,9]),(21,[0,1,3,4,5,12])],[(2,[0,1,3,4,5]),(4,[0,1,3,4,5,6,7]),(14,[0,1,3,4,5,8,9,47,48,49])],[],[],[],[],[],[],false⟩
 | 250=>⟨[0,3,4],[],[],[],[(5,[0,3]),(11,[0,3,4]),(12,[3])],[(3,[0,3])],[],[],[],[],[],[],false⟩
 | 251=>⟨[0,1,2,3,4,5],[],[],[],[],[],[],[],[],[],[],[6,7,8,1000000,1000001,1000002],false⟩
 | 252=>⟨[0,2,5,6,7,8],[],[],[(6,[1])],[(4,[0,2,6,7,8]),(7,[0,2,6,7,8]),(8,[2])],[(3,[0,2,6,7,8])],[],[],[],[],[],[],false⟩
 | 253=>⟨[],[],[],[],[],[],[],[],[([2],false)],[],[],[],false⟩
 | 293=>⟨[0,1],[],[],[],[],[],[],[],[],[],[],[],false⟩
 | 300=>⟨[0],[],[],[],[],[],[],[],[],[],[],[],false⟩
 | 301=>⟨[0,1],[],[],[],[],[],[],[],[],[],[],[],false⟩
 | 302=>⟨[],[],[],[],[],[],[],[],[([1],false)],[],[],[],false⟩
 | 303=>⟨[0],[],[],[],[],[],[],[],[],[],[],[],false⟩
 | 304=>⟨[0,2,4],[],[],[],[(5,[2,4])],[],[],[],[],[],[],[],false⟩
 | 305=>⟨[0],[],[],[],[],[],[],[],[],[],[],[],false⟩
 | 306=>⟨[0,2,4,5,6,27,28],[],[],[],[(5,[2,4]),(8,[2,4,5,27,28]),(12,[2,4,5,27,28]),(13,[2,4,5])],[(7,[2,4,5,27,28])],[],[],[],[],[],[],false⟩
 | 333=>⟨[0,1,5,7,8],[],[],[],[(4,[0,1,7,8]),(7,[0,1,7,8]),(8,[0])],[(3,[0,1,7,8])],[],[],[],[],[],[],false⟩
 | 334=>⟨[0],[],[],[],[],[],[],[],[],[],[],[],false⟩
 | _=>⟨[],[],[],[],[],[],[],[],[],[],[],[],false⟩
noncomputable def SS:SE:=⟨Tryz.prog,a1H,VV,WW,XF⟩
theorem dO:SS.OK:=⟨aLX,aL'⟩
def aB4:Code:=nX Tryz.f250
def Yc:AE:=SS.ae 250 34
def aX5:XE:=SS.xe SS.CC SS.LL Yc 0
def aB3:AX->ASt->R:=DT SS.P Tryz.f250.results.toList (SS.gU 250).ro 0 []
def aB5:Code:=Code.sub [true,true,true] aB4
def aX3:AX->ASt->R:=tK (qj Yc 0 aB5 (bI aX5 aB5 aB3)) aB3
def aX4:AX->ASt->R:=au 0 aX3
def aX6:Code:=Code.sub [true,true,false,false,false] aB4
def Ou (x0:ByteArray) (x3:Int):R:=SS.LL Yc 0 [0,3] 0 aX6 aX4 ⟨[(0,.str x0),(3,.int .i64 x3)],[]⟩
theorem Yd (x0:ByteArray) (x3:Int):Ou x0 x3 =
 aA (decide (x3<(x0.size:Int))) (ry x0 x3 fun c1=>iI SS.CC 300 [.int .u8 c1] fun r3=>vB r3 fun b2=>aA b2 (Ou x0 (i64.wrap (x3+1))) (chk (decide (0<=x3)&&decide (x3<=(x0.size:Int))) (iI SS.CC 120 [.str (x0.extract x3.toNat x0.size),.str ⟨#[47,47]⟩] fun r5=>vB r5 fun b4=>aA b4 (chk (decide (0<=x3)&&decide (x3<=(x0.size:Int))) (iI SS.CC 301 [.str (x0.extract x3.toNat x0.size),.int .u8 10] fun r7=>vI .i64 r7 fun n6=>aA (decide (n6<0)) (some (.int .i64 (x0.size:Int),[])) (Ou x0 (i64.wrap (x3+n6))))) (some (.int .i64 x3,[]))))) (some (.int .i64 x3,[])):=(AC dO (by decide) (by kernel_rfl) (by kernel_rfl)).trans (by kernel_rfl)
theorem aX7 (a0:ByteArray):SS.CC 250 [.str a0] [] =
 Ou a0 0:=(pg dO rfl).trans (by kernel_rfl)
def aB9:Code:=nX Tryz.f252
def Ye:AE:=SS.ae 252 19
def aXA:XE:=SS.xe SS.CC SS.LL Ye 0
def aB7:AX->ASt->R:=DT SS.P Tryz.f252.results.toList (SS.gU 252).ro 0 []
def aBA:Code:=Code.sub [true,true] aB9
def aX8:AX->ASt->R:=tK (qj Ye 0 aBA (bI aXA aBA aB7)) aB7
def aX9:AX->ASt->R:=au 0 aX8
def aXB:Code:=Code.sub [true,false,true,false,false] aB9
def UW (x0:ByteArray) (x6:List PV) (x8:Int):R:=SS.LL Ye 0 [0,2,6,7,8] 1 aXB aX9 ⟨[(0,.str x0),(2,.ptr 0 0),(6,.sl false 1 x6),(7,.int .i64 (x6.length:Int)),(8,.int .i64 x8)],[some [.int .i64 0,.str ⟨#[]⟩,.int .i64 0,.int .i64 0,.int .i64 0]]⟩
theorem aB8 (x0:ByteArray) (x6:List PV) (x8:Int):UW x0 x6 x8 =
 aA (decide (x8<(x6.length:Int))) (dH x6 x8 fun e1=>vS e1 fun s2=>iI SS.CC 120 [.str x0,.str s2] fun r4=>vB r4 fun b3=>aA b3 (some (.tuple [.agg [.int .i64 3,.str s2,.int .i64 0,.int .i64 0,.int .i64 0],.int .i64 0],[])) (UW x0 x6 (i64.wrap (x8+1)))) (some (.tuple [.agg [.int .i64 0,.str ⟨#[]⟩,.int .i64 0,.int .i64 0,.int .i64 0],.int .i64 14],[])):=(AC dO (by decide) (by kernel_rfl) (by kernel_rfl)).trans (by kernel_rfl)
theorem aXC (a0:ByteArray):SS.CC 252 [.str a0] [] =
 iI SS.CC 302 [] fun r2=>vL false 1 r2 fun l1=>UW a0 l1 0:=(pg dO rfl).trans (by kernel_rfl)
theorem aY3 (a0:ByteArray):SS.CC 304 [.str a0] [] =
 iI SS.CC 333 [.str a0,.func (.func 334) [] []] fun r2=>vS r2 fun s1=>aA (decide (32<(s1.size:Int))) (some (.tuple [.agg [.int .i64 0,.str ⟨#[]⟩,.int .i64 0,.int .i64 0,.int .i64 0],.int .i64 15],[])) (some (.tuple [.agg [.int .i64 1,.str s1,.int .i64 0,.int .i64 0,.int .i64 0],.int .i64 0],[])):=(pg dO rfl).trans (by kernel_rfl)
def Yh:Code:=nX Tryz.f306
def Yf:AE:=SS.ae 306 46
def aBH:XE:=SS.xe SS.CC SS.LL Yf 0
def Yg:AX->ASt->R:=DT SS.P Tryz.f306.results.toList (SS.gU 306).ro 0 []
def aY8:Code:=Code.sub [true,true,true] Yh
def aBI:Code:=Code.sub [true,true,true,true,true] Yh
def aY6:AX->ASt->R:=tK (qj Yf 0 aBI (bI aBH aBI Yg)) Yg
def aY7:AX->ASt->R:=au 0 aY6
def aY9:Code:=Code.sub [true,true,true,true,false,true,false,false] Yh
def Ua (x4:ByteArray):R:=bI aBH aY8 Yg ⟨[(2,.ptr 0 0),(4,.str x4)],[some [.int .i64 0,.str ⟨#[]⟩,.int .i64 0,.int .i64 0,.int .i64 0]]⟩
def Ub (x4:ByteArray) (x5:Int) (x28:Int):R:=SS.LL Yf 0 [2,4,5,27,28] 1 aY9 aY7 ⟨[(2,.ptr 0 0),(4,.str x4),(5,.int .i64 x5),(27,.int .i64 (x4.size:Int)),(28,.int .i64 x28)],[some [.int .i64 0,.str ⟨#[]⟩,.int .i64 0,.int .i64 0,.int .i64 0]]⟩
theorem aY5 (x4:ByteArray):Ua x4 =
 Ub x4 0 0:=by kernel_rfl
theorem aBG (x4:ByteArray) (x5:Int) (x28:Int):Ub x4 x5 x28 =
 aA (decide (x28<(x4.size:Int))) (ry x4 x28 fun c1=>aA (decide (65536<(i64.wrap ((i64.wrap (10*x5))+(i64.wrap (IntKind.u8.wrap (c1-48))))))) (some (.tuple [.agg [.int .i64 0,.str ⟨#[]⟩,.int .i64 0,.int .i64 0,.int .i64 0],.int .i64 2],[])) (Ub x4 (i64.wrap ((i64.wrap (10*x5))+(i64.wrap (IntKind.u8.wrap (c1-48))))) (i64.wrap (x28+1)))) (some (.tuple [.agg [.int .i64 2,.str x4,.int .i64 x5,.int .i64 0,.int .i64 0],.int .i64 0],[])):=(AC dO (by decide) (by kernel_rfl) (by kernel_rfl)).trans (by kernel_rfl)
theorem aYA (a0:ByteArray):SS.CC 306 [.str a0] [] =
 iI SS.CC 333 [.str a0,.func (.func 305) [] []] fun r2=>vS r2 fun s1=>iI SS.CC 333 [.str a0,.func (.func 334) [] []] fun r4=>vS r4 fun s3=>aA (decide ((s1.size:Int)<(s3.size:Int))) (some (.tuple [.agg [.int .i64 0,.str ⟨#[]⟩,.int .i64 0,.int .i64 0,.int .i64 0],.int .i64 6],[])) (aA (decide (1<(s1.size:Int))) (ry s1 0 fun c5=>aA (c5==48) (some (.tuple [.agg [.int .i64 0,.str ⟨#[]⟩,.int .i64 0,.int .i64 0,.int .i64 0],.int .i64 6],[])) (Ua s1)) (Ua s1)):=(pg dO rfl).trans (by kernel_rfl)
theorem aXD:SS.CC 253 [] [] =
 some (.sl false 2 [.agg [.func (.func 303) [] [],.func (.func 304) [] []],.agg [.func (.func 305) [] [],.func (.func 306) [] []]],[]):=(pg dO rfl).trans (by kernel_rfl)
theorem aX' (a0:Int):SS.CC 300 [.int .u8 a0] [] =
 aA (a0==32) (some (.bool true,[])) (aA (a0==9) (some (.bool true,[])) (aA (a0==13) (some (.bool true,[])) (some (.bool (a0==10),[])))):=(pg dO rfl).trans (by kernel_rfl)
theorem aRQ (a0:ByteArray) (a1:ByteArray):SS.CC 120 [.str a0,.str a1] [] =
 iI SS.CC 213 [.str a0,.str a1] fun r2=>vB r2 fun b1=>some (.bool b1,[]):=(pg dO rfl).trans (by kernel_rfl)
theorem aY0 (a0:ByteArray) (a1:Int):SS.CC 301 [.str a0,.int .u8 a1] [] =
 iI SS.CC 293 [.str a0,.int .u8 a1] fun r2=>vI .i64 r2 fun n1=>some (.int .i64 n1,[]):=(pg dO rfl).trans (by kernel_rfl)
theorem aY1:SS.CC 302 [] [] =
 some (.sl false 1 [.str ⟨#[45,62]⟩,.str ⟨#[58,61]⟩,.str ⟨#[61,61]⟩,.str ⟨#[33,61]⟩,.str ⟨#[60,61]⟩,.str ⟨#[62,61]⟩,.str ⟨#[46,46]⟩,.str ⟨#[38,38]⟩,.str ⟨#[124,124]⟩,.str ⟨#[123]⟩,.str ⟨#[125]⟩,.str ⟨#[40]⟩,.str ⟨#[41]⟩,.str ⟨#[91]⟩,.str ⟨#[93]⟩,.str ⟨#[44]⟩,.str ⟨#[59]⟩,.str ⟨#[58]⟩,.str ⟨#[61]⟩,.str ⟨#[60]⟩,.str ⟨#[62]⟩,.str ⟨#[43]⟩,.str ⟨#[45]⟩,.str ⟨#[42]⟩,.str ⟨#[33]⟩,.str ⟨#[63]⟩],[]):=(pg dO rfl).trans (by kernel_rfl)
def aBP:Code:=nX Tryz.f333
def Yj:AE:=SS.ae 333 22
def aYI:XE:=SS.xe SS.CC SS.LL Yj 0
def aBN:AX->ASt->R:=DT SS.P Tryz.f333.results.toList (SS.gU 333).ro 0 []
def aBQ:Code:=Code.sub [true,true] aBP
def aYG:AX->ASt->R:=tK (qj Yj 0 aBQ (bI aYI aBQ aBN)) aBN
def aYH:AX->ASt->R:=au 0 aYG
def aYJ:Code:=Code.sub [true,false,true,false,false] aBP
def Ud (x0:ByteArray) (x8:Int):R:=SS.LL Yj 0 [0,1,7,8] 0 aYJ aYH ⟨[(0,.str x0),(1,.func (.func 334) [] []),(7,.int .i64 (x0.size:Int)),(8,.int .i64 x8)],[]⟩
theorem aBO (x0:ByteArray) (x8:Int):Ud x0 x8 =
 aA (decide (x8<(x0.size:Int))) (ry x0 x8 fun c1=>iI SS.CC 334 [.int .u8 c1] fun r3=>vB r3 fun b2=>aA (!b2) (chk (decide (0<=x8)&&decide (x8<=(x0.size:Int))) (some (.str (x0.extract 0 x8.toNat),[]))) (Ud x0 (i64.wrap (x8+1)))) (some (.str x0,[])):=(AC dO (by decide) (by kernel_rfl) (by kernel_rfl)).trans (by kernel_rfl)
theorem aYK (a0:ByteArray):SS.CC 333 [.str a0,.func (.func 334) [] []] [] =
 Ud a0 0:=(pg dO rfl).trans (by kernel_rfl)
def aBL:Code:=nX Tryz.f333
def Yi:AE:=SS.ae 333 22
def aYD:XE:=SS.xe SS.CC SS.LL Yi 0
def aBJ:AX->ASt->R:=DT SS.P Tryz.f333.results.toList (SS.gU 333).ro 0 []
def aBM:Code:=Code.sub [true,true] aBL
def aYB:AX->ASt->R:=tK (qj Yi 0 aBM (bI aYD aBM aBJ)) aBJ
def aYC:AX->ASt->R:=au 0 aYB
def aYE:Code:=Code.sub [true,false,true,false,false] aBL
def Uc (x0:ByteArray) (x8:Int):R:=SS.LL Yi 0 [0,1,7,8] 0 aYE aYC ⟨[(0,.str x0),(1,.func (.func 305) [] []),(7,.int .i64 (x0.size:Int)),(8,.int .i64 x8)],[]⟩
theorem aBK (x0:ByteArray) (x8:Int):Uc x0 x8 =
 aA (decide (x8<(x0.size:Int))) (ry x0 x8 fun c1=>iI SS.CC 305 [.int .u8 c1] fun r3=>vB r3 fun b2=>aA (!b2) (chk (decide (0<=x8)&&decide (x8<=(x0.size:Int))) (some (.str (x0.extract 0 x8.toNat),[]))) (Uc x0 (i64.wrap (x8+1)))) (some (.str x0,[])):=(AC dO (by decide) (by kernel_rfl) (by kernel_rfl)).trans (by kernel_rfl)
theorem aYF (a0:ByteArray):SS.CC 333 [.str a0,.func (.func 305) [] []] [] =
 Uc a0 0:=(pg dO rfl).trans (by kernel_rfl)
theorem aWD (a0:ByteArray) (a1:ByteArray):SS.CC 213 [.str a0,.str a1] [] =
 aA (decide ((a1.size:Int)<=(a0.size:Int))) (chk (decide (0<=(a1.size:Int))&&decide ((a1.size:Int)<=(a0.size:Int))) (some (.bool ((a0.extract 0 (a1.size:Int).toNat).toList==a1.toList),[]))) (some (.bool false,[])):=(pg dO rfl).trans (by kernel_rfl)
theorem aYL (a0:Int):SS.CC 334 [.int .u8 a0] [] =
 iI SS.CC 303 [.int .u8 a0] fun r2=>vB r2 fun b1=>aA b1 (some (.bool true,[])) (iI SS.CC 305 [.int .u8 a0] fun r4=>vB r4 fun b3=>some (.bool b3,[])):=(pg dO rfl).trans (by kernel_rfl)
theorem aY4 (a0:Int):SS.CC 305 [.int .u8 a0] [] =
 aA (decide (48<=a0)) (some (.bool (decide (a0<=57)),[])) (some (.bool false,[])):=(pg dO rfl).trans (by kernel_rfl)
theorem aY2 (a0:Int):SS.CC 303 [.int .u8 a0] [] =
 aA (decide (97<=a0)) (aA (decide (a0<=122)) (some (.bool true,[])) (aA (decide (65<=a0)) (aA (decide (a0<=90)) (some (.bool true,[])) (some (.bool (a0==95),[]))) (some (.bool (a0==95),[])))) (aA (decide (65<=a0)) (aA (decide (a0<=90)) (some (.bool true,[])) (some (.bool (a0==95),[]))) (some (.bool (a0==95),[]))):=(pg dO rfl).trans (by kernel_rfl)
theorem aB6 (a0:Int) (E5:ByteArray) (E8:Int) (a5Q:Int) (a5R:Int) (ay:Int) (lD:Int) (mQ:Int):SS.CC 251 [.agg [.int .i64 a0,.str E5,.int .i64 E8,.int .i64 a5Q,.int .i64 a5R],.ptr 0 0,.ptr 1 0,.ptr 2 0] [some [.int .i64 ay],some [.int .i64 lD],some [.int .i64 mQ]] =
 some (.agg [.int .i64 a0,.str E5,.int .i64 E8,.int .i64 ay,.int .i64 (i64.wrap ((i64.wrap (lD-mQ))+1))],[some [.int .i64 ay],some [.int .i64 lD],some [.int .i64 mQ]]):=(show SS.CC 251 [.agg [.int .i64 a0,.str E5,.int .i64 E8,.int .i64 a5Q,.int .i64 a5R],.ptr 0 0,.ptr 1 0,.ptr 2 0] [some [.int .i64 ay],some [.int .i64 lD],some [.int .i64 mQ]]=nG (nG (some (.agg [.int .i64 a0,.str E5,.int .i64 E8,.int .i64 ay,.int .i64 (i64.wrap ((i64.wrap (lD-mQ))+1))],[some [.int .i64 ay],some [.int .i64 lD],some [.int .i64 mQ]])) (some (.agg [.int .i64 a0,.str E5,.int .i64 E8,.int .i64 ay,.int .i64 (i64.wrap ((i64.wrap (lD-mQ))+1))],[some [.int .i64 ay],some [.int .i64 lD],some [.int .i64 mQ]]))) (nG (nG (some (.agg [.int .i64 a0,.str E5,.int .i64 E8,.int .i64 ay,.int .i64 (i64.wrap ((i64.wrap (lD-mQ))+1))],[some [.int .i64 ay],some [.int .i64 lD],some [.int .i64 mQ]])) (some (.agg [.int .i64 a0,.str E5,.int .i64 E8,.int .i64 ay,.int .i64 (i64.wrap ((i64.wrap (lD-mQ))+1))],[some [.int .i64 ay],some [.int .i64 lD],some [.int .i64 mQ]]))) (some (.agg [.int .i64 a0,.str E5,.int .i64 E8,.int .i64 ay,.int .i64 (i64.wrap ((i64.wrap (lD-mQ))+1))],[some [.int .i64 ay],some [.int .i64 lD],some [.int .i64 mQ]]))) from (pg dO rfl).trans (by kernel_rfl)).trans (by simp only[Xg])
abbrev jQ (p:PV):R:=some (p,[])
theorem aN {p:Prop} [Decidable p] (h:p):decide p=true:=by simp[h]
theorem aT {p:Prop} [Decidable p] (h:¬ p):decide p=false:=by simp[h]
def bs (l:List UInt8):ByteArray:=⟨l.toArray⟩
@[simp] theorem jR (l : List UInt8) : (bs l).size = l.length := by simp [bs, ByteArray.size]
theorem EG (l:List UInt8) (i:Nat):(bs l)[i]? = l[i]? := by
 by_cases h:i<l.length
 .rw[fJ h];have:i<(bs l).size:=by simpa using h
  rw[getElem?_pos (bs l) i this];rfl
 .rw[rO (by omega),getElem?_neg (bs l) i (by simpa using h)]
theorem EH (l:List UInt8):(bs l).toList=l:=by rw[Wy];rfl
theorem Ny (l:List UInt8) (a b:Nat):(bs l).extract a b=bs ((l.drop a).take (b-a)):=by apply ByteArray.ext;rw[ByteArray.data_extract];simp[bs,List.extract]
theorem oK (s:ByteArray):bs s.data.toList=s:=by apply ByteArray.ext;simp[bs]
def isLet (n:Nat):Bool:=(decide (97<=n)&&decide (n<=122))||((decide (65<=n)&&decide (n<=90))||n==95)
def fB (n:Nat):Bool:=decide (48<=n)&&decide (n<=57)
def lW (n:Nat):Bool:=isLet n||fB n
def wX (n:Nat):Bool:=n==32||(n==9||(n==13||n==10))
theorem GU (n k:Nat):((n:Int)==(k:Int))=(n==k):=by rw[N8,kF,kF]; omega
theorem Hy (k n:Nat):decide ((k:Int)<=(n:Int))=decide (k<=n):=by
 by_cases h:k<=n
 .rw[aN h,aN (by omega)]
 .rw[aT h,aT (by omega)]
theorem c78 (n:Nat):SS.CC 303 [.int .u8 n] []=jQ (.bool (isLet n)):=by
 rw[aY2,show decide ((97:Int)<=n)=decide (97<=n) from Hy 97 n,show decide ((n:Int)<=122)=decide (n<=122) from Hy n 122,show decide ((65:Int)<=n)=decide (65<=n) from Hy 65 n,show decide ((n:Int)<=90)=decide (n<=90) from Hy n 90,
  show ((n:Int)==95)=(n==95) from GU n 95]
 simp only[JW,isLet];cases decide (97<=n)<;>cases decide (n<=122)<;>cases decide (65<=n)<;>cases decide (n<=90)<;>rfl
theorem c80 (n:Nat):SS.CC 305 [.int .u8 n] []=jQ (.bool (fB n)):=by rw[aY4,show decide ((48:Int)<=n)=decide (48<=n) from Hy 48 n,show decide ((n:Int)<=57)=decide (n<=57) from Hy n 57];simp only[JW,fB];cases decide (48<=n)<;>cases decide (n<=57)<;>rfl
theorem c91 (n:Nat):SS.CC 334 [.int .u8 n] []=jQ (.bool (lW n)):=by rw[aYL,mF (c78 n),vw,mF (c80 n),vw,JW,lW];cases isLet n<;>rfl
theorem c75 (n:Nat):SS.CC 300 [.int .u8 n] []=jQ (.bool (wX n)):=by rw[aX',show ((n:Int)==32)=(n==32) from GU n 32,show ((n:Int)==9)=(n==9) from GU n 9,show ((n:Int)==13)=(n==13) from GU n 13,show ((n:Int)==10)=(n==10) from GU n 10];simp only[JW,wX];cases n==32<;>cases n==9<;>cases n==13<;>rfl
theorem bT {k:Nat} (h:k<1000000000000000):i64.wrap ((k:Int)+1)=((k+1:Nat):Int):=by rw[wrap64 (by omega) (by omega)]; omega
def fK (p:Nat->Bool) (l:List UInt8):List UInt8:=l.takeWhile fun b=>p b.toNat
theorem a1X (p:Nat->Bool) (l:List UInt8):(fK p l).length<=l.length:=(List.takeWhile_sublist _).length_le
theorem aIR {p:Nat->Bool} {l:List UInt8}:∀ {k:Nat} {b:UInt8},l[k]? = some b->(∀ j c,j<k->l[j]? = some c->p c.toNat=true)->p b.toNat=false->fK p l=l.take k:=by
 induction l with
 | nil=>intro k b h; simp at h
 | cons a l ih =>
  intro k b h h1 h2;cases k with
  | zero=>simp at h; subst h; simp[fK,Fz,h2]
  | succ k =>have ha:=h1 0 a (by omega) (by simp);have:=ih (k:=k) (b:=b) (by simpa using h) (fun j c hj hc=>h1 (j+1) c (by omega) (by simpa using hc)) h2;simp only[fK,Fz,ha,fD,RX];rw[<- this]; rfl
theorem IX {p:Nat->Bool} {l:List UInt8} (h:∀ (j:Nat) c,l[j]? = some c->p c.toNat=true):fK p l=l:=by
 induction l with
 | nil=>rfl
 | cons a l ih =>
  have ha:=h 0 a (by simp);have:=ih fun j c hc=>h (j+1) c (by simpa using hc)
  unfold fK at *;rw[Fz,ha,aH rfl,this]
theorem c90 (l:List UInt8) (hl:l.length<=1000000):SS.CC 333 [.str (bs l),.func (.func 334) [] []] []=jQ (.str (bs (fK lW l))):=by
 rw[aYK];have key:∀ (m k:Nat),k+m=l.length->(∀ j c,j<k->l[j]? = some c->lW c.toNat=true)->Ud (bs l) (k:Int)=jQ (.str (bs (fK lW l))):=by
  intro m;induction m with
  | zero =>intro k hk h;rw[aBO,aT (by rw[jR]; omega),aC];rw[IX fun j c hc=>h j c (by have:=(dQ.1 hc).1; omega) hc]
  | succ m ih =>
   intro k hk h;obtain ⟨b,hb⟩:∃ b,l[k]? = some b:=⟨l[k],fJ (by omega)⟩;rw[aBO,aN (by rw[jR]; omega),aG,AY (b:=b) (by omega) (by rw[EG]; simpa using hb),mF (c91 b.toNat),vw,bT (by omega)];cases hw:lW b.toNat with
   | true =>
    exact ih (k+1) (by omega) fun j c hj hc=>by
     rcases je j k with h' | h'
     .exact h j c h' hc
     .have:j=k:=by omega
      subst this; rw[hb] at hc; injection hc with hc; subst hc; exact hw
   | false =>rw[aIR hb h hw];simp only[zn,aG];rw[ah (by simp; omega),Ny];simp
 exact key l.length 0 (by omega) (by omega)
theorem aN6 (l:List UInt8) (hl:l.length<=1000000):SS.CC 333 [.str (bs l),.func (.func 305) [] []] []=jQ (.str (bs (fK fB l))):=by
 rw[aYF];have key:∀ (m k:Nat),k+m=l.length->(∀ j c,j<k->l[j]? = some c->fB c.toNat=true)->Uc (bs l) (k:Int)=jQ (.str (bs (fK fB l))):=by
  intro m;induction m with
  | zero =>intro k hk h;rw[aBK,aT (by rw[jR]; omega),aC];rw[IX fun j c hc=>h j c (by have:=(dQ.1 hc).1; omega) hc]
  | succ m ih =>
   intro k hk h;obtain ⟨b,hb⟩:∃ b,l[k]? = some b:=⟨l[k],fJ (by omega)⟩;rw[aBK,aN (by rw[jR]; omega),aG,AY (b:=b) (by omega) (by rw[EG]; simpa using hb),mF (c80 b.toNat),vw,bT (by omega)];cases hw:fB b.toNat with
   | true =>
    exact ih (k+1) (by omega) fun j c hj hc=>by
     rcases je j k with h' | h'
     .exact h j c h' hc
     .have:j=k:=by omega
      subst this; rw[hb] at hc; injection hc with hc; subst hc; exact hw
   | false =>rw[aIR hb h hw];simp only[zn,aG];rw[ah (by simp; omega),Ny];simp
 exact key l.length 0 (by omega) (by omega)
structure Tok where
 kind:Int
 text:List UInt8
 value:Int
 line:Int
 sH:Int
 deriving DecidableEq
def Tok.zero:Tok:=⟨0,[],0,0,0⟩
def aZ (t:Tok):PV := .agg [.int .i64 t.kind,.str (bs t.text),.int .i64 t.value,.int .i64 t.line,.int .i64 t.sH]
def rd (r:Tok×Int):PV := .tuple [aZ r.1,.int .i64 r.2]
def zi (l:List UInt8):Tok×Int:=if 32<(fK lW l).length then (.zero,15) else (⟨1,fK lW l,0,0,0⟩,0)
theorem c79 (l:List UInt8) (hl:l.length<=1000000):SS.CC 304 [.str (bs l)] []=jQ (rd (zi l)):=by
 rw[aY3,mF (c90 l hl),iO,jR,show decide ((32:Int)<((fK lW l).length:Int))=decide (32<(fK lW l).length) by
  by_cases h:32<(fK lW l).length
  .rw[aN h,aN (by omega)]
  .rw[aT h,aT (by omega)]]
 unfold zi;by_cases h:32<(fK lW l).length
 .rw[aN h,aH h]; rfl
 .rw[aT h,aI h]; rfl
def qF:List UInt8->Nat->Option Nat
 | [],n=>some n
 | b::l,n=>if 65536<10*n+(b.toNat-48) then none else qF l (10*n+(b.toNat-48))
def zO (l:List UInt8):Tok×Int :=
 if (fK fB l).length<(fK lW l).length then (.zero,6)
 else if 1<(fK fB l).length/\(fK fB l)[0]? = some 48 then (.zero,6)
 else match qF (fK fB l) 0 with
  | none=>(.zero,2)
  | some n=>(⟨2,fK fB l,n,0,0⟩,0)
theorem aE7 {n:Nat}:fB n=true↔48<=n/\n<=57:=by simp[fB]
theorem aPC {b:UInt8} (h:fB b.toNat=true):i64.wrap (IntKind.u8.wrap ((b.toNat:Int)-48))=((b.toNat-48:Nat):Int):=by obtain ⟨h1,h2⟩:=aE7.1 h;rw[show IntKind.u8.wrap ((b.toNat:Int)-48)=(b.toNat:Int)-48 by unfold IntKind.wrap; simp only[IntKind.signed,IntKind.bits]; first | (simp; omega) | omega];rw[wrap64 (by omega) (by omega)]; omega
theorem bBC {p:Nat->Bool} {l:List UInt8} {b:UInt8} (h:b∈fK p l):p b.toNat=true:=by
 induction l with
 | nil=>cases h
 | cons a l ih =>
  unfold fK at *;rw[Fz] at h;split at h
  .rename_i ha;rcases fQ.1 h with h | h
   .subst h; exact ha
   .exact ih h
  .cases h
theorem aN5 (l:List UInt8) (hd:∀ b,b∈l->fB b.toNat=true) (hl:l.length<=1000000):∀ (m k n:Nat),k+m=l.length->n<=65536 ->
 Ub (bs l) (n:Int) (k:Int)=(match qF (l.drop k) n with | none=>jQ (rd (.zero,2)) | some v=>jQ (rd (⟨2,l,v,0,0⟩,0))):=by
 intro m;induction m with
 | zero =>intro k n hk hn;rw[aBG,aT (by rw[jR]; omega),aC,zq (by omega)];rfl
 | succ m ih =>
  intro k n hk hn;obtain ⟨b,hb⟩:∃ b,l[k]? = some b:=⟨l[k],fJ (by omega)⟩;have hdb:=hd b (iV hb);obtain ⟨h1,h2⟩:=aE7.1 hdb;have hdrop:l.drop k=b::l.drop (k+1):=by
   have hk':k<l.length:=by omega
   rw[yO hk'];rw[fJ hk'] at hb; injection hb with hb; rw[hb]
  rw[aBG,aN (by rw[jR]; omega),aG,AY (b:=b) (by omega) (by rw[EG]; simpa using hb),aPC hdb,wrap64 (n:=10*(n:Int)) (by omega) (by omega),wrap64 (by omega) (by omega),bT (by omega),hdrop,qF];by_cases hv:65536<10*n+(b.toNat-48)
  .rw[aN (by omega),aG,aH hv]; rfl
  .rw[aT (by omega),aC,aI hv];have:=ih (k+1) (10*n+(b.toNat-48)) (by omega) (by omega);rw[<- this];congr 1<;>omega
theorem c81 (l:List UInt8) (hl:l.length<=1000000):SS.CC 306 [.str (bs l)] []=jQ (rd (zO l)):=by
 have hr:=a1X fB l;have key:Ua (bs (fK fB l))=(match qF (fK fB l) 0 with | none=>jQ (rd (.zero,2)) | some v=>jQ (rd (⟨2,fK fB l,v,0,0⟩,0))):=by have:=aN5 (fK fB l) (fun b hb=>bBC hb) (by omega) (fK fB l).length 0 0 (by omega) (by omega);rw[aY5]; exact this
 have fin:(match qF (fK fB l) 0 with | none=>jQ (rd (.zero,2)) | some v=>jQ (rd (⟨2,fK fB l,v,0,0⟩,0)))=jQ (rd (match qF (fK fB l) 0 with | none=>(.zero,2) | some n=>(⟨2,fK fB l,n,0,0⟩,0))):=by cases qF (fK fB l) 0<;>rfl
 rw[aYA,mF (aN6 l hl),iO,mF (c90 l hl),iO,jR,jR];unfold zO;by_cases h1:(fK fB l).length<(fK lW l).length
 .rw[aN (by omega),aG,aH h1]; rfl
 .rw[aT (by omega),aC,aI h1];by_cases h2:1<(fK fB l).length
  .obtain ⟨b,hb⟩:∃ b,(fK fB l)[0]? = some b:=⟨(fK fB l)[0],fJ (by omega)⟩;rw[aN (by omega),aG,AY (b:=b) (by omega) (by rw[EG]; simpa using hb),hb];rw[show ((b.toNat:Int)==48)=(b.toNat==48) from GU b.toNat 48];by_cases h3:b=48
   .subst h3;rw[aH ⟨h2,rfl⟩]; rfl
   .have:b.toNat≠48:=fun e=>h3 (UInt8.toNat_inj.1 (by rw[e]; rfl))
    rw[aI (fun h=>h3 (by simpa using h.2)),show (b.toNat==48)=false by simpa using this,aC,key,fin]
  .rw[aT (by omega),aC,aI (fun h=>h2 h.1),key,fin]
def ui:List (List UInt8) := [[45,62],[58,61],[61,61],[33,61],[60,61],[62,61],[46,46],[38,38],[124,124],[123],[125],[40],[41],[91],[93],[44],[59],[58],[61],[60],[62],[43],[45],[42],[33],[63]]
def FX (l:List UInt8):Option (List UInt8):=ui.find? fun x=>x.isPrefixOf l
def BZ (l:List UInt8):Tok×Int:=match FX l with
 | some x=>(⟨3,x,0,0,0⟩,0)
 | none=>(.zero,14)
theorem aI4:∀ (x l:List UInt8),(decide (x.length<=l.length)&&(l.take x.length==x))=x.isPrefixOf l
 | [],l=>by simp
 | a::x,[]=>by simp
 | a::x,b::l=>by
  have:=aI4 x l;simp only[aU,RX,List.isPrefixOf,<- this,List.cons_beq_cons];rw[show decide (x.length+1<=l.length+1)=decide (x.length<=l.length) by
   by_cases h:x.length<=l.length
   .rw[aN h,aN (by omega)]
   .rw[aT h,aT (by omega)],show (b==a)=(a==b) by rw[N8,kF,kF]; exact eq_comm]
  cases a==b<;>cases decide (x.length<=l.length)<;>simp
theorem c87 (l x:List UInt8):SS.CC 213 [.str (bs l),.str (bs x)] []=jQ (.bool (x.isPrefixOf l)):=by
 rw[aWD,<- aI4,jR,jR,show decide ((x.length:Int)<=(l.length:Int))=decide (x.length<=l.length) from Hy _ _];by_cases h:x.length<=l.length
 .rw[aN h,aG,ah (by simp),Ny,EH,EH];simp
 .rw[aT h]; rfl
theorem c69 (l x:List UInt8):SS.CC 120 [.str (bs l),.str (bs x)] []=jQ (.bool (x.isPrefixOf l)):=by rw[aRQ,mF (c87 l x),vw]
theorem c77:SS.CC 302 [] []=jQ (.sl false 1 (ui.map fun x => .str (bs x))):=aY1
theorem aN4 (l:List UInt8) (xs:List (List UInt8)) (hx:xs.length<=1000):∀ (m k:Nat),k+m=xs.length ->
 UW (bs l) (xs.map fun x => .str (bs x)) (k:Int)=jQ (rd (match (xs.drop k).find? (fun x=>x.isPrefixOf l) with | some x=>(⟨3,x,0,0,0⟩,0) | none=>(.zero,14))):=by
 intro m;induction m with
 | zero =>intro k hk;rw[aB8,aT (by rw[bW]; omega),aC,zq (by omega)];rfl
 | succ m ih =>
  intro k hk;have hk':k<xs.length:=by omega
  rw[aB8,aN (by rw[bW]; omega),aG,jo (e := .str (bs xs[k])) (by omega) (by simp[hk']),iO,mF (c69 l xs[k]),vw,bT (by omega),yO hk',List.find?_cons];cases xs[k].isPrefixOf l with
  | true=>rfl
  | false=>exact ih (k+1) (by omega)
theorem c61 (l:List UInt8):SS.CC 252 [.str (bs l)] []=jQ (rd (BZ l)):=by rw[aXC,mF c77,Wn];exact aN4 l ui (by decide) ui.length 0 (by omega)
def fM:Bool->List UInt8->Nat
 | _,[]=>0
 | true,b::l=>if b=10 then 1+fM false l else 1+fM true l
 | false,b::l=>if wX b.toNat then 1+fM false l else if [47,47].isPrefixOf (b::l) then 1+fM true l else 0
theorem bCO (l:List UInt8):if Lib.indexByte l 10<0 then fM true l=l.length else ∃ j:Nat,Lib.indexByte l 10=j/\j<l.length/\fM true l=j+fM false (l.drop j):=by
 induction l with
 | nil=>simp[Lib.indexByte,fM]
 | cons b l ih =>
  have hge:=Lib.indexByte_ge l 10;rw[Lib.indexByte];by_cases hb:b=10
  .subst hb;simp only[GG,fD];rw[aI (by omega)];exact ⟨0,rfl,by simp,by simp[fM,wX]⟩
  .have hbb:(b==10)=false:=by simpa using hb
   simp only[hbb,rJ,qV];by_cases h:Lib.indexByte l 10<0
   .rw[aH h] at ih;have h1:Lib.indexByte l 10 = -1:=by omega
    rw[h1];simp[fM,hb,ih]; omega
   .rw[aI h] at ih;obtain ⟨j,h1,h2,h3⟩:=ih;have:(Lib.indexByte l 10 == -1)=false:=by simp; omega
    rw[this];simp only[rJ,qV];rw[aI (by omega)];exact ⟨j+1,by omega,by simp; omega,by simp[fM,hb,h3]; omega⟩
theorem c76 (l:List UInt8):SS.CC 301 [.str (bs l),.int .u8 10] []=jQ (.int .i64 (Lib.indexByte l 10)):=by
 have h89:SS.CC 293 [.str (bs l),.int .u8 10] []=jQ (.int .i64 (Lib.indexByte l 10)):=by rw[JD dO]; rfl
 rw[aY0,mF h89,yI]
theorem c59 (l:List UInt8) (hl:l.length<=1000000):SS.CC 250 [.str (bs l)] []=jQ (.int .i64 ((fM false l:Nat):Int)):=by
 rw[aX7];have key:∀ (m k:Nat),l.length<=k+m->k<=l.length->Ou (bs l) (k:Int)=jQ (.int .i64 ((k+fM false (l.drop k):Nat):Int)):=by
  intro m;induction m with
  | zero =>intro k hk hk2;rw[Yd,aT (by rw[jR]; omega),aC,zq (by omega)];rfl
  | succ m ih =>
   intro k hk hk2;by_cases hlt:k<l.length
   .have hdrop:l.drop k=l[k]::l.drop (k+1):=yO hlt;have he:(bs l).extract k l.length=bs (l.drop k):=by rw[Ny,tq (by simp)]
    rw[Yd,aN (by rw[jR]; omega),aG,AY (b:=l[k]) (by omega) (by rw[EG]; simp[hlt]),mF (c75 _),vw,jR,lm,he,show (⟨#[47,47]⟩:ByteArray)=bs [47,47] from rfl,mF (c69 _ _),vw,mF (c76 _),yI,bT (by omega)];cases hb:wX l[k].toNat with
    | true =>rw[aG,ih (k+1) (by omega) (by omega),hdrop,fM,aH hb];congr 3; omega
    | false =>
     rw[aC,ah (by simp; omega)];cases hp : [47,47].isPrefixOf (l.drop k) with
     | false =>
      rw[aC];have:fM false (l.drop k)=0:=by rw[hdrop] at hp ⊢;rw[fM,aI (by rw[hb]; simp),aI (by rw[hp]; simp)]
      rw[this]; rfl
     | true =>
      rw[aG,ah (by simp; omega)];have hs:fM false (l.drop k)=fM true (l.drop k):=by
       rw[hdrop] at hp ⊢;have hne:l[k]≠10:=by intro e;rw[e] at hp;simp[List.isPrefixOf] at hp
       have e1:fM false (l[k]::l.drop (k+1))=1+fM true (l.drop (k+1)):=by rw[fM,aI (by rw[hb]; simp),aH hp]
       have e2:fM true (l[k]::l.drop (k+1))=1+fM true (l.drop (k+1)):=by rw[fM,aI hne]
       rw[e1,e2]
      have hi:=bCO (l.drop k);rw[hs];by_cases h0:Lib.indexByte (l.drop k) 10<0
      .rw[aH h0] at hi;rw[aN h0,aG,hi];simp; omega
      .rw[aI h0] at hi;obtain ⟨j,h1,h2,h3⟩:=hi;have hj:0<j:=by
        rcases Bo j with e | e
        .subst e;rw[hdrop,Lib.indexByte] at h1;have hne:l[k]≠10:=by intro e;rw[hdrop,e] at hp;simp[List.isPrefixOf] at hp
         rw[aI (by simpa using hne)] at h1;have:=Lib.indexByte_ge (l.drop (k+1)) 10;split at h1<;>rename_i hh<;>simp at hh<;>omega
        .exact e
       simp at h2;rw[aT h0,aC,h1,wrap64 (by omega) (by omega),show ((k:Int)+(j:Int))=((k+j:Nat):Int) by omega,ih (k+j) (by omega) (by omega),h3,NC];congr 3; omega
   .rw[Yd,aT (by rw[jR]; omega),aC,zq (by omega)];rfl
 have:=key l.length 0 (by omega) (by omega);simpa using this
def opsOf:Code->Array Oper | .region _ ops _=>ops | _ => #[]
def gQ:Code:=nX Tryz.f249
def IJ:AE:=SS.ae 249 86
def yA:XE:=SS.xe SS.CC SS.LL IJ 7
def b7':Code:=Code.sub [false,true,true,false,false,false,false] gQ
theorem b80 (l:Nat) (K:AX->ASt->R) (s:ByteArray) (L:List PV) (c1:Int) (c2:Int) (c3:Int) (line:Int) (start:Int) (at_:Int):bI yA b7' K ⟨[(0,.func (.yield l) [] []),(1,.cst (.str s)),(3,.ptr 4 0),(4,.ptr 5 0),(5,.ptr 6 0)],[some [.sl true 5 L],some [.int .i64 c1],some [.int .i64 c2],some [.int .i64 c3],some [.int .i64 line],some [.int .i64 start],some [.int .i64 at_]]⟩ =
 chk (decide (0<=at_)&&decide (at_<=(s.size:Int))) (iI SS.CC 250 [.str (s.extract at_.toNat s.size)] fun r2=>vI .i64 r2 fun n1=>K .normal ⟨[(0,.func (.yield l) [] []),(1,.cst (.str s)),(3,.ptr 4 0),(4,.ptr 5 0),(5,.ptr 6 0),(6,.int .i64 n1),(14,.str s),(15,.int .i64 at_),(16,.str (s.extract at_.toNat s.size)),(17,.int .i64 n1)],[some [.sl true 5 L],some [.int .i64 c1],some [.int .i64 c2],some [.int .i64 c3],some [.int .i64 line],some [.int .i64 start],some [.int .i64 at_]]⟩):=by kernel_rfl
def aHR:Code:=nX Tryz.f249
def aHP:AE:=SS.ae 249 86
def b82:XE:=SS.xe SS.CC SS.LL aHP 7
def b83:Code:=Code.sub [false,true,true,false,false,false,true,false] aHR
def b81 (K:AX->ASt->R):AX->ASt->R:=au 2 K
def b84:Code:=Code.sub [false,true,true,false,false,false,true,false,true,false,false] aHR
def QJ (l:Nat) (K:AX->ASt->R) (x1:ByteArray) (x6:Int) (x7:Int) (aJ:List PV) (jq:Int) (wz:Int) (gZ:Int) (LM:Int) (QB:Int) (D6:Int):R:=SS.LL aHP 7 [0,1,3,4,5,6,7] 7 b84 (b81 K) ⟨[(0,.func (.yield l) [] []),(1,.cst (.str x1)),(3,.ptr 4 0),(4,.ptr 5 0),(5,.ptr 6 0),(6,.int .i64 x6),(7,.int .i64 x7)],[some [.sl true 5 aJ],some [.int .i64 jq],some [.int .i64 wz],some [.int .i64 gZ],some [.int .i64 LM],some [.int .i64 QB],some [.int .i64 D6]]⟩
theorem aHQ (l:Nat) (K:AX->ASt->R) (x1:ByteArray) (x6:Int) (x7:Int) (aJ:List PV) (jq:Int) (wz:Int) (gZ:Int) (LM:Int) (QB:Int) (D6:Int):QJ l K x1 x6 x7 aJ jq wz gZ LM QB D6 =
 aA (decide (x7<(i64.wrap (D6+x6)))) (ry x1 x7 fun c1=>aA (c1==10) (QJ l K x1 x6 (i64.wrap (x7+1)) aJ jq wz gZ (i64.wrap (LM+1)) (i64.wrap (x7+1)) D6) (QJ l K x1 x6 (i64.wrap (x7+1)) aJ jq wz gZ LM QB D6)) (K .normal ⟨[(0,.func (.yield l) [] []),(1,.cst (.str x1)),(3,.ptr 4 0),(4,.ptr 5 0),(5,.ptr 6 0),(6,.int .i64 x6),(7,.int .i64 x7),(19,.int .i64 x7),(20,.int .i64 D6),(21,.int .i64 x6),(22,.int .i64 (i64.wrap (D6+x6))),(23,.bool false)],[some [.sl true 5 aJ],some [.int .i64 jq],some [.int .i64 wz],some [.int .i64 gZ],some [.int .i64 LM],some [.int .i64 QB],some [.int .i64 D6]]⟩):=(AC dO (by decide) (by kernel_rfl) (by kernel_rfl)).trans (by kernel_rfl)
theorem b85 (l:Nat) (K:AX->ASt->R) (s:ByteArray) (g:Int) (L:List PV) (c1:Int) (c2:Int) (c3:Int) (line:Int) (start:Int) (at_:Int):bI b82 b83 K ⟨[(0,.func (.yield l) [] []),(1,.cst (.str s)),(3,.ptr 4 0),(4,.ptr 5 0),(5,.ptr 6 0),(6,.int .i64 g)],[some [.sl true 5 L],some [.int .i64 c1],some [.int .i64 c2],some [.int .i64 c3],some [.int .i64 line],some [.int .i64 start],some [.int .i64 at_]]⟩ =
 QJ l K s g at_ L c1 c2 c3 line start at_:=by kernel_rfl
def b88:Code:=nX Tryz.f249
def b86:AE:=SS.ae 249 86
def b87:XE:=SS.xe SS.CC SS.LL b86 7
def b89:Code:=Code.sub [false,true,true,false,false,false,true,true,false] b88
theorem b8A (l:Nat) (K:AX->ASt->R) (s:ByteArray) (g:Int) (L:List PV) (c1:Int) (c2:Int) (c3:Int) (line:Int) (start:Int) (at_:Int):bI b87 b89 K ⟨[(0,.func (.yield l) [] []),(1,.cst (.str s)),(3,.ptr 4 0),(4,.ptr 5 0),(5,.ptr 6 0),(6,.int .i64 g)],[some [.sl true 5 L],some [.int .i64 c1],some [.int .i64 c2],some [.int .i64 c3],some [.int .i64 line],some [.int .i64 start],some [.int .i64 at_]]⟩ =
 K .normal ⟨[(0,.func (.yield l) [] []),(1,.cst (.str s)),(3,.ptr 4 0),(4,.ptr 5 0),(5,.ptr 6 0),(6,.int .i64 g),(34,.int .i64 at_),(35,.int .i64 g),(36,.int .i64 (i64.wrap (at_+g)))],[some [.sl true 5 L],some [.int .i64 c1],some [.int .i64 c2],some [.int .i64 c3],some [.int .i64 line],some [.int .i64 start],some [.int .i64 (i64.wrap (at_+g))]]⟩:=by kernel_rfl
def b8D:Code:=nX Tryz.f249
def b8B:AE:=SS.ae 249 86
def b8C:XE:=SS.xe SS.CC SS.LL b8B 7
def b8E:Code:=Code.sub [false,true,true,false,false,false,true,true,true,false] b8D
theorem b8F (l:Nat) (K:AX->ASt->R) (s:ByteArray) (L:List PV) (c1:Int) (c2:Int) (c3:Int) (line:Int) (start:Int) (at_:Int):bI b8C b8E K ⟨[(0,.func (.yield l) [] []),(1,.cst (.str s)),(3,.ptr 4 0),(4,.ptr 5 0),(5,.ptr 6 0)],[some [.sl true 5 L],some [.int .i64 c1],some [.int .i64 c2],some [.int .i64 c3],some [.int .i64 line],some [.int .i64 start],some [.int .i64 at_]]⟩ =
 K .normal ⟨[(0,.func (.yield l) [] []),(1,.cst (.str s)),(3,.ptr 4 0),(4,.ptr 5 0),(5,.ptr 6 0),(8,.func (.func 251) [] [.ptr 4 0,.ptr 6 0,.ptr 5 0]),(37,.func (.func 251) [] [.ptr 4 0,.ptr 6 0,.ptr 5 0])],[some [.sl true 5 L],some [.int .i64 c1],some [.int .i64 c2],some [.int .i64 c3],some [.int .i64 line],some [.int .i64 start],some [.int .i64 at_]]⟩:=by kernel_rfl
def b8I:Code:=nX Tryz.f249
def b8G:AE:=SS.ae 249 86
def b8H:XE:=SS.xe SS.CC SS.LL b8G 7
def b8J:Code:=Code.sub [false,true,true,false,false,false,true,true,true,true,false,false] b8I
theorem aHS (l:Nat) (K:AX->ASt->R) (s:ByteArray) (L:List PV) (c1:Int) (c2:Int) (c3:Int) (line:Int) (start:Int) (at_:Int):bI b8H b8J K ⟨[(0,.func (.yield l) [] []),(1,.cst (.str s)),(3,.ptr 4 0),(4,.ptr 5 0),(5,.ptr 6 0),(8,.func (.func 251) [] [.ptr 4 0,.ptr 6 0,.ptr 5 0])],[some [.sl true 5 L],some [.int .i64 c1],some [.int .i64 c2],some [.int .i64 c3],some [.int .i64 line],some [.int .i64 start],some [.int .i64 at_]]⟩ =
 K .normal ⟨[(0,.func (.yield l) [] []),(1,.cst (.str s)),(3,.ptr 4 0),(4,.ptr 5 0),(5,.ptr 6 0),(8,.func (.func 251) [] [.ptr 4 0,.ptr 6 0,.ptr 5 0]),(38,.int .i64 at_),(39,.str s),(40,.int .i64 (s.size:Int)),(41,.bool (at_==(s.size:Int)))],[some [.sl true 5 L],some [.int .i64 c1],some [.int .i64 c2],some [.int .i64 c3],some [.int .i64 line],some [.int .i64 start],some [.int .i64 at_]]⟩:=by kernel_rfl
def b8L:Code:=nX Tryz.f249
def b8K:AE:=SS.ae 249 86
def aHT:XE:=SS.xe SS.CC SS.LL b8K 7
def Vs:Code:=Code.sub [false,true,true,false,false,false,true,true,true,true,false,true,false,false] b8L
theorem b8M (l:Nat) (K:AX->ASt->R) (s:ByteArray) (L:List PV) (c1:Int) (c2:Int) (c3:Int) (line:Int) (start:Int) (at_:Int):iy aHT false (opsOf Vs) (((opsOf Vs).toList.drop 0).take 4) (K .normal) ⟨[(0,.func (.yield l) [] []),(1,.cst (.str s)),(3,.ptr 4 0),(4,.ptr 5 0),(5,.ptr 6 0),(8,.func (.func 251) [] [.ptr 4 0,.ptr 6 0,.ptr 5 0])],[some [.sl true 5 L],some [.int .i64 c1],some [.int .i64 c2],some [.int .i64 c3],some [.int .i64 line],some [.int .i64 start],some [.int .i64 at_]]⟩ =
 xg SS.CC 251 [.agg [.int .i64 4,.str ⟨#[]⟩,.int .i64 0,.int .i64 0,.int .i64 0],.ptr 0 0,.ptr 1 0,.ptr 2 0] [some [.int .i64 line],some [.int .i64 at_],some [.int .i64 start]] fun r9 h10=>H9 r9 h10 fun n1 s2 n3 n4 n5 n6 n7 n8=>K .normal ⟨[(0,.func (.yield l) [] []),(1,.cst (.str s)),(3,.ptr 4 0),(4,.ptr 5 0),(5,.ptr 6 0),(8,.func (.func 251) [] [.ptr 4 0,.ptr 6 0,.ptr 5 0]),(42,.func (.yield l) [] []),(43,.func (.func 251) [] [.ptr 4 0,.ptr 6 0,.ptr 5 0]),(44,.agg [.int .i64 4,.str ⟨#[]⟩,.int .i64 0,.int .i64 0,.int .i64 0]),(45,.agg [.int .i64 n1,.str s2,.int .i64 n3,.int .i64 n4,.int .i64 n5])],[some [.sl true 5 L],some [.int .i64 c1],some [.int .i64 c2],some [.int .i64 c3],some [.int .i64 n6],some [.int .i64 n8],some [.int .i64 n7]]⟩:=by kernel_rfl
def b8P:Code:=nX Tryz.f249
def b8N:AE:=SS.ae 249 86
def b8O:XE:=SS.xe SS.CC SS.LL b8N 7
def b8Q:Code:=Code.sub [false,true,true,false,false,false,true,true,true,true,true,false] b8P
theorem b8R (l:Nat) (K:AX->ASt->R) (s:ByteArray) (L:List PV) (c1:Int) (c2:Int) (c3:Int) (line:Int) (start:Int) (at_:Int):bI b8O b8Q K ⟨[(0,.func (.yield l) [] []),(1,.cst (.str s)),(3,.ptr 4 0),(4,.ptr 5 0),(5,.ptr 6 0),(8,.func (.func 251) [] [.ptr 4 0,.ptr 6 0,.ptr 5 0])],[some [.sl true 5 L],some [.int .i64 c1],some [.int .i64 c2],some [.int .i64 c3],some [.int .i64 line],some [.int .i64 start],some [.int .i64 at_]]⟩ =
 K .normal ⟨[(0,.func (.yield l) [] []),(1,.cst (.str s)),(3,.ptr 4 0),(4,.ptr 5 0),(5,.ptr 6 0),(8,.func (.func 251) [] [.ptr 4 0,.ptr 6 0,.ptr 5 0]),(9,.func (.func 252) [] [])],[some [.sl true 5 L],some [.int .i64 c1],some [.int .i64 c2],some [.int .i64 c3],some [.int .i64 line],some [.int .i64 start],some [.int .i64 at_]]⟩:=by kernel_rfl
def b8U:Code:=nX Tryz.f249
def b8S:AE:=SS.ae 249 86
def b8T:XE:=SS.xe SS.CC SS.LL b8S 7
def b8V:Code:=Code.sub [false,true,true,false,false,false,true,true,true,true,true,true,true,false] b8U
theorem b8W (l:Nat) (K:AX->ASt->R) (s:ByteArray) (L:List PV) (c1:Int) (c2:Int) (c3:Int) (line:Int) (start:Int) (at_:Int):bI b8T b8V K ⟨[(0,.func (.yield l) [] []),(1,.cst (.str s)),(3,.ptr 4 0),(4,.ptr 5 0),(5,.ptr 6 0),(8,.func (.func 251) [] [.ptr 4 0,.ptr 6 0,.ptr 5 0]),(9,.func (.func 252) [] [])],[some [.sl true 5 L],some [.int .i64 c1],some [.int .i64 c2],some [.int .i64 c3],some [.int .i64 line],some [.int .i64 start],some [.int .i64 at_]]⟩ =
 chk (decide (0<=at_)&&decide (at_<=(s.size:Int))) (iI SS.CC 252 [.str (s.extract at_.toNat s.size)] fun r7=>Be r7 fun n1 s2 n3 n4 n5 n6=>K .normal ⟨[(0,.func (.yield l) [] []),(1,.cst (.str s)),(3,.ptr 4 0),(4,.ptr 5 0),(5,.ptr 6 0),(8,.func (.func 251) [] [.ptr 4 0,.ptr 6 0,.ptr 5 0]),(9,.func (.func 252) [] []),(12,.ptr 7 0),(13,.int .i64 n6),(62,.tuple [.agg [.int .i64 n1,.str s2,.int .i64 n3,.int .i64 n4,.int .i64 n5],.int .i64 n6]),(63,.func (.func 252) [] []),(64,.str s),(65,.int .i64 at_),(66,.str (s.extract at_.toNat s.size)),(67,.tuple [.agg [.int .i64 n1,.str s2,.int .i64 n3,.int .i64 n4,.int .i64 n5],.int .i64 n6]),(68,.agg [.int .i64 n1,.str s2,.int .i64 n3,.int .i64 n4,.int .i64 n5]),(69,.int .i64 n6)],[some [.sl true 5 L],some [.int .i64 c1],some [.int .i64 c2],some [.int .i64 c3],some [.int .i64 line],some [.int .i64 start],some [.int .i64 at_],some [.int .i64 n1,.str s2,.int .i64 n3,.int .i64 n4,.int .i64 n5]]⟩):=by kernel_rfl
def b8Z:Code:=nX Tryz.f249
def b8X:AE:=SS.ae 249 86
def b8Y:XE:=SS.xe SS.CC SS.LL b8X 7
def b8':Code:=Code.sub [false,true,true,false,false,false,true,true,true,true,true,true,true,false] b8Z
theorem b90 (l:Nat) (K:AX->ASt->R) (s:ByteArray) (L:List PV) (c1:Int) (c2:Int) (c3:Int) (line:Int) (start:Int) (at_:Int):bI b8Y b8' K ⟨[(0,.func (.yield l) [] []),(1,.cst (.str s)),(3,.ptr 4 0),(4,.ptr 5 0),(5,.ptr 6 0),(8,.func (.func 251) [] [.ptr 4 0,.ptr 6 0,.ptr 5 0]),(9,.func (.func 304) [] [])],[some [.sl true 5 L],some [.int .i64 c1],some [.int .i64 c2],some [.int .i64 c3],some [.int .i64 line],some [.int .i64 start],some [.int .i64 at_]]⟩ =
 chk (decide (0<=at_)&&decide (at_<=(s.size:Int))) (iI SS.CC 304 [.str (s.extract at_.toNat s.size)] fun r7=>Be r7 fun n1 s2 n3 n4 n5 n6=>K .normal ⟨[(0,.func (.yield l) [] []),(1,.cst (.str s)),(3,.ptr 4 0),(4,.ptr 5 0),(5,.ptr 6 0),(8,.func (.func 251) [] [.ptr 4 0,.ptr 6 0,.ptr 5 0]),(9,.func (.func 304) [] []),(12,.ptr 7 0),(13,.int .i64 n6),(62,.tuple [.agg [.int .i64 n1,.str s2,.int .i64 n3,.int .i64 n4,.int .i64 n5],.int .i64 n6]),(63,.func (.func 304) [] []),(64,.str s),(65,.int .i64 at_),(66,.str (s.extract at_.toNat s.size)),(67,.tuple [.agg [.int .i64 n1,.str s2,.int .i64 n3,.int .i64 n4,.int .i64 n5],.int .i64 n6]),(68,.agg [.int .i64 n1,.str s2,.int .i64 n3,.int .i64 n4,.int .i64 n5]),(69,.int .i64 n6)],[some [.sl true 5 L],some [.int .i64 c1],some [.int .i64 c2],some [.int .i64 c3],some [.int .i64 line],some [.int .i64 start],some [.int .i64 at_],some [.int .i64 n1,.str s2,.int .i64 n3,.int .i64 n4,.int .i64 n5]]⟩):=by kernel_rfl
def b93:Code:=nX Tryz.f249
def b91:AE:=SS.ae 249 86
def b92:XE:=SS.xe SS.CC SS.LL b91 7
def b94:Code:=Code.sub [false,true,true,false,false,false,true,true,true,true,true,true,true,false] b93
theorem b95 (l:Nat) (K:AX->ASt->R) (s:ByteArray) (L:List PV) (c1:Int) (c2:Int) (c3:Int) (line:Int) (start:Int) (at_:Int):bI b92 b94 K ⟨[(0,.func (.yield l) [] []),(1,.cst (.str s)),(3,.ptr 4 0),(4,.ptr 5 0),(5,.ptr 6 0),(8,.func (.func 251) [] [.ptr 4 0,.ptr 6 0,.ptr 5 0]),(9,.func (.func 306) [] [])],[some [.sl true 5 L],some [.int .i64 c1],some [.int .i64 c2],some [.int .i64 c3],some [.int .i64 line],some [.int .i64 start],some [.int .i64 at_]]⟩ =
 chk (decide (0<=at_)&&decide (at_<=(s.size:Int))) (iI SS.CC 306 [.str (s.extract at_.toNat s.size)] fun r7=>Be r7 fun n1 s2 n3 n4 n5 n6=>K .normal ⟨[(0,.func (.yield l) [] []),(1,.cst (.str s)),(3,.ptr 4 0),(4,.ptr 5 0),(5,.ptr 6 0),(8,.func (.func 251) [] [.ptr 4 0,.ptr 6 0,.ptr 5 0]),(9,.func (.func 306) [] []),(12,.ptr 7 0),(13,.int .i64 n6),(62,.tuple [.agg [.int .i64 n1,.str s2,.int .i64 n3,.int .i64 n4,.int .i64 n5],.int .i64 n6]),(63,.func (.func 306) [] []),(64,.str s),(65,.int .i64 at_),(66,.str (s.extract at_.toNat s.size)),(67,.tuple [.agg [.int .i64 n1,.str s2,.int .i64 n3,.int .i64 n4,.int .i64 n5],.int .i64 n6]),(68,.agg [.int .i64 n1,.str s2,.int .i64 n3,.int .i64 n4,.int .i64 n5]),(69,.int .i64 n6)],[some [.sl true 5 L],some [.int .i64 c1],some [.int .i64 c2],some [.int .i64 c3],some [.int .i64 line],some [.int .i64 start],some [.int .i64 at_],some [.int .i64 n1,.str s2,.int .i64 n3,.int .i64 n4,.int .i64 n5]]⟩):=by kernel_rfl
def RL:List PV := [.agg [.func (.func 303) [] [],.func (.func 304) [] []],.agg [.func (.func 305) [] [],.func (.func 306) [] []]]
theorem c62:SS.CC 253 [] []=jQ (.sl false 2 RL):=aXD
def a1B:Code:=Code.sub [false,true,true,false,false,false,true,true,true,true,true,true,false] gQ
def aHV:Code:=Code.sub [false,true,true,false,false,false,true,true,true,true,true,true,false,true,false,false] gQ
abbrev kJ:PV := .func (.func 251) [] [.ptr 4 0,.ptr 6 0,.ptr 5 0]
abbrev jh (L:List PV) (c1 c2 c3 line start at_:Int):aF := [some [.sl true 5 L],some [.int .i64 c1],some [.int .i64 c2],some [.int .i64 c3],some [.int .i64 line],some [.int .i64 start],some [.int .i64 at_]]
def L8 (l:Nat) (K:AX->ASt->R) (L:List PV) (c1 c2 c3:Int) (s:ByteArray) (line start at_:Int) (f9:Nat) (i:Int):R :=SS.LL IJ 7 [0,1,3,4,5,8,9,47,48,49] 7 aHV (au 4 K) ⟨[(0,.func (.yield l) [] []),(1,.cst (.str s)),(3,.ptr 4 0),(4,.ptr 5 0),(5,.ptr 6 0),(8,kJ),(9,.func (.func f9) [] []),(47,.sl false 2 RL),(48,.int .i64 (RL.length:Int)),(49,.int .i64 i)],jh L c1 c2 c3 line start at_⟩
theorem aLV (l:Nat) (K:AX->ASt->R) (L:List PV) (c1 c2 c3:Int) (s:ByteArray) (line start at_:Int) :
 bI yA a1B K ⟨[(0,.func (.yield l) [] []),(1,.cst (.str s)),(3,.ptr 4 0),(4,.ptr 5 0),(5,.ptr 6 0),(8,kJ),(9,.func (.func 252) [] [])],jh L c1 c2 c3 line start at_⟩=L8 l K L c1 c2 c3 s line start at_ 252 0:=by
 have:bI yA a1B K ⟨[(0,.func (.yield l) [] []),(1,.cst (.str s)),(3,.ptr 4 0),(4,.ptr 5 0),(5,.ptr 6 0),(8,kJ),(9,.func (.func 252) [] [])],jh L c1 c2 c3 line start at_⟩=iI SS.CC 253 [] fun r2=>vL false 2 r2 fun l1=>SS.LL IJ 7 [0,1,3,4,5,8,9,47,48,49] 7 aHV (au 4 K) ⟨[(0,.func (.yield l) [] []),(1,.cst (.str s)),(3,.ptr 4 0),(4,.ptr 5 0),(5,.ptr 6 0),(8,kJ),(9,.func (.func 252) [] []),(47,.sl false 2 l1),(48,.int .i64 (l1.length:Int)),(49,.int .i64 0)],jh L c1 c2 c3 line start at_⟩:=by kernel_rfl
 rw[this,mF c62,Wn]; rfl
theorem aLU (l:Nat) (K:AX->ASt->R) (L:List PV) (c1 c2 c3:Int) (s:ByteArray) (line start at_:Int) (f9:Nat):L8 l K L c1 c2 c3 s line start at_ f9 0 =
 ry s at_ fun c=>iI SS.CC 303 [.int .u8 c] fun r=>vB r fun b=>aA b (L8 l K L c1 c2 c3 s line start at_ 304 1) (L8 l K L c1 c2 c3 s line start at_ f9 1):=(AC dO (by decide) (by kernel_rfl) (by kernel_rfl)).trans (by kernel_rfl)
theorem a5M (l:Nat) (K:AX->ASt->R) (L:List PV) (c1 c2 c3:Int) (s:ByteArray) (line start at_:Int) (f9:Nat):L8 l K L c1 c2 c3 s line start at_ f9 1 =
 ry s at_ fun c=>iI SS.CC 305 [.int .u8 c] fun r=>vB r fun b=>aA b (L8 l K L c1 c2 c3 s line start at_ 306 2) (L8 l K L c1 c2 c3 s line start at_ f9 2):=(AC dO (by decide) (by kernel_rfl) (by kernel_rfl)).trans (by kernel_rfl)
theorem Rn (l:Nat) (K:AX->ASt->R) (L:List PV) (c1 c2 c3:Int) (s:ByteArray) (line start at_:Int) (f9:Nat):L8 l K L c1 c2 c3 s line start at_ f9 2 =
 K .normal ⟨[(0,.func (.yield l) [] []),(1,.cst (.str s)),(3,.ptr 4 0),(4,.ptr 5 0),(5,.ptr 6 0),(8,kJ),(9,.func (.func f9) [] []),(47,.sl false 2 RL),(48,.int .i64 (RL.length:Int)),(49,.int .i64 2),(50,.bool false)],jh L c1 c2 c3 line start at_⟩:=(AC dO (by decide) (by kernel_rfl) (by kernel_rfl)).trans (by kernel_rfl)
end Go.Proofs.YtcdceiloganlnaaGreatDoor
namespace Go.Proofs.YtcdceiloganlnaaGreatDoor
open Go.RowKit
set_option maxRecDepth 1000000
def sZ:Code:=nX Tryz.f99
def jZ:AE := { SS.ae 99 27 with vars := [2,3,4,5,6,7,13,14] }
def b7V:Code:=nX Tryz.f99
def b7U:AE := { SS.ae 99 27 with vars := [2,3,4,5,6,7,13,14] }
def a0X:XE:=SS.xe SS.CC SS.LL b7U 7
def a0Y:Code:=Code.sub [true,true,false,true,false,true] b7V
theorem b7W (l:Nat) (K:AX->ASt->R) (e:Int) (k:Int) (t:ByteArray) (v:Int) (ln:Int) (cl:Int) (L:List PV) (c1:Int) (c2:Int) (c3:Int) (line:Int) (start:Int) (at_:Int):bI a0X a0Y K ⟨[(2,.ptr 0 0),(3,.ptr 1 0),(4,.ptr 2 0),(5,.ptr 3 0),(6,.ptr 7 0),(7,.int .i64 e),(13,.agg [.int .i64 k,.str t,.int .i64 v,.int .i64 ln,.int .i64 cl]),(14,.int .i64 e)],[some [.sl true 5 L],some [.int .i64 c1],some [.int .i64 c2],some [.int .i64 c3],some [.int .i64 line],some [.int .i64 start],some [.int .i64 at_],some [.int .i64 k,.str t,.int .i64 v,.int .i64 ln,.int .i64 cl]]⟩ =
 aA (e != 0) (K .ret ⟨[(2,.ptr 0 0),(3,.ptr 1 0),(4,.ptr 2 0),(5,.ptr 3 0),(6,.ptr 7 0),(7,.int .i64 e),(13,.agg [.int .i64 k,.str t,.int .i64 v,.int .i64 ln,.int .i64 cl]),(14,.int .i64 e),(17,.ptr 7 3),(18,.int .i64 ln),(19,.ptr 7 4),(20,.int .i64 cl),(21,.int .i64 e)],[some [.sl true 0 []],some [.int .i64 ln],some [.int .i64 cl],some [.int .i64 e],some [.int .i64 line],some [.int .i64 start],some [.int .i64 at_],some [.int .i64 k,.str t,.int .i64 v,.int .i64 ln,.int .i64 cl]]⟩) (chk (decide (L.length+1<=aV)) (K .normal ⟨[(2,.ptr 0 0),(3,.ptr 1 0),(4,.ptr 2 0),(5,.ptr 3 0),(6,.ptr 7 0),(7,.int .i64 e),(13,.agg [.int .i64 k,.str t,.int .i64 v,.int .i64 ln,.int .i64 cl]),(14,.int .i64 e),(22,.sl false 5 L),(23,.agg [.int .i64 k,.str t,.int .i64 v,.int .i64 ln,.int .i64 cl]),(24,.sl true 5 [.agg [.int .i64 k,.str t,.int .i64 v,.int .i64 ln,.int .i64 cl]]),(25,.sl false 5 (L ++ [.agg [.int .i64 k,.str t,.int .i64 v,.int .i64 ln,.int .i64 cl]]))],[some [.sl true 5 (L ++ [.agg [.int .i64 k,.str t,.int .i64 v,.int .i64 ln,.int .i64 cl]])],some [.int .i64 c1],some [.int .i64 c2],some [.int .i64 c3],some [.int .i64 line],some [.int .i64 start],some [.int .i64 at_],some [.int .i64 k,.str t,.int .i64 v,.int .i64 ln,.int .i64 cl]]⟩)):=(show bI a0X a0Y K ⟨[(2,.ptr 0 0),(3,.ptr 1 0),(4,.ptr 2 0),(5,.ptr 3 0),(6,.ptr 7 0),(7,.int .i64 e),(13,.agg [.int .i64 k,.str t,.int .i64 v,.int .i64 ln,.int .i64 cl]),(14,.int .i64 e)],[some [.sl true 5 L],some [.int .i64 c1],some [.int .i64 c2],some [.int .i64 c3],some [.int .i64 line],some [.int .i64 start],some [.int .i64 at_],some [.int .i64 k,.str t,.int .i64 v,.int .i64 ln,.int .i64 cl]]⟩=aA (e != 0) (nG (nG (K .ret ⟨[(2,.ptr 0 0),(3,.ptr 1 0),(4,.ptr 2 0),(5,.ptr 3 0),(6,.ptr 7 0),(7,.int .i64 e),(13,.agg [.int .i64 k,.str t,.int .i64 v,.int .i64 ln,.int .i64 cl]),(14,.int .i64 e),(17,.ptr 7 3),(18,.int .i64 ln),(19,.ptr 7 4),(20,.int .i64 cl),(21,.int .i64 e)],[some [.sl true 0 []],some [.int .i64 ln],some [.int .i64 cl],some [.int .i64 e],some [.int .i64 line],some [.int .i64 start],some [.int .i64 at_],some [.int .i64 k,.str t,.int .i64 v,.int .i64 ln,.int .i64 cl]]⟩) (nG (K .ret ⟨[(2,.ptr 0 0),(3,.ptr 1 0),(4,.ptr 2 0),(5,.ptr 3 0),(6,.ptr 7 0),(7,.int .i64 e),(13,.agg [.int .i64 k,.str t,.int .i64 v,.int .i64 ln,.int .i64 cl]),(14,.int .i64 e),(17,.ptr 7 3),(18,.int .i64 ln),(19,.ptr 7 4),(20,.int .i64 cl),(21,.int .i64 e)],[some [.sl true 0 []],some [.int .i64 ln],some [.int .i64 cl],some [.int .i64 e],some [.int .i64 line],some [.int .i64 start],some [.int .i64 at_],some [.int .i64 k,.str t,.int .i64 v,.int .i64 ln,.int .i64 cl]]⟩) (K .ret ⟨[(2,.ptr 0 0),(3,.ptr 1 0),(4,.ptr 2 0),(5,.ptr 3 0),(6,.ptr 7 0),(7,.int .i64 e),(13,.agg [.int .i64 k,.str t,.int .i64 v,.int .i64 ln,.int .i64 cl]),(14,.int .i64 e),(17,.ptr 7 3),(18,.int .i64 ln),(19,.ptr 7 4),(20,.int .i64 cl),(21,.int .i64 e)],[some [.sl true 0 []],some [.int .i64 ln],some [.int .i64 cl],some [.int .i64 e],some [.int .i64 line],some [.int .i64 start],some [.int .i64 at_],some [.int .i64 k,.str t,.int .i64 v,.int .i64 ln,.int .i64 cl]]⟩))) (nG (nG (K .ret ⟨[(2,.ptr 0 0),(3,.ptr 1 0),(4,.ptr 2 0),(5,.ptr 3 0),(6,.ptr 7 0),(7,.int .i64 e),(13,.agg [.int .i64 k,.str t,.int .i64 v,.int .i64 ln,.int .i64 cl]),(14,.int .i64 e),(17,.ptr 7 3),(18,.int .i64 ln),(19,.ptr 7 4),(20,.int .i64 cl),(21,.int .i64 e)],[some [.sl true 0 []],some [.int .i64 ln],some [.int .i64 cl],some [.int .i64 e],some [.int .i64 line],some [.int .i64 start],some [.int .i64 at_],some [.int .i64 k,.str t,.int .i64 v,.int .i64 ln,.int .i64 cl]]⟩) (K .ret ⟨[(2,.ptr 0 0),(3,.ptr 1 0),(4,.ptr 2 0),(5,.ptr 3 0),(6,.ptr 7 0),(7,.int .i64 e),(13,.agg [.int .i64 k,.str t,.int .i64 v,.int .i64 ln,.int .i64 cl]),(14,.int .i64 e),(17,.ptr 7 3),(18,.int .i64 ln),(19,.ptr 7 4),(20,.int .i64 cl),(21,.int .i64 e)],[some [.sl true 0 []],some [.int .i64 ln],some [.int .i64 cl],some [.int .i64 e],some [.int .i64 line],some [.int .i64 start],some [.int .i64 at_],some [.int .i64 k,.str t,.int .i64 v,.int .i64 ln,.int .i64 cl]]⟩)) (nG (K .ret ⟨[(2,.ptr 0 0),(3,.ptr 1 0),(4,.ptr 2 0),(5,.ptr 3 0),(6,.ptr 7 0),(7,.int .i64 e),(13,.agg [.int .i64 k,.str t,.int .i64 v,.int .i64 ln,.int .i64 cl]),(14,.int .i64 e),(17,.ptr 7 3),(18,.int .i64 ln),(19,.ptr 7 4),(20,.int .i64 cl),(21,.int .i64 e)],[some [.sl true 0 []],some [.int .i64 ln],some [.int .i64 cl],some [.int .i64 e],some [.int .i64 line],some [.int .i64 start],some [.int .i64 at_],some [.int .i64 k,.str t,.int .i64 v,.int .i64 ln,.int .i64 cl]]⟩) (K .ret ⟨[(2,.ptr 0 0),(3,.ptr 1 0),(4,.ptr 2 0),(5,.ptr 3 0),(6,.ptr 7 0),(7,.int .i64 e),(13,.agg [.int .i64 k,.str t,.int .i64 v,.int .i64 ln,.int .i64 cl]),(14,.int .i64 e),(17,.ptr 7 3),(18,.int .i64 ln),(19,.ptr 7 4),(20,.int .i64 cl),(21,.int .i64 e)],[some [.sl true 0 []],some [.int .i64 ln],some [.int .i64 cl],some [.int .i64 e],some [.int .i64 line],some [.int .i64 start],some [.int .i64 at_],some [.int .i64 k,.str t,.int .i64 v,.int .i64 ln,.int .i64 cl]]⟩)))) (chk (decide (L.length+1<=aV)) (K .normal ⟨[(2,.ptr 0 0),(3,.ptr 1 0),(4,.ptr 2 0),(5,.ptr 3 0),(6,.ptr 7 0),(7,.int .i64 e),(13,.agg [.int .i64 k,.str t,.int .i64 v,.int .i64 ln,.int .i64 cl]),(14,.int .i64 e),(22,.sl false 5 L),(23,.agg [.int .i64 k,.str t,.int .i64 v,.int .i64 ln,.int .i64 cl]),(24,.sl true 5 [.agg [.int .i64 k,.str t,.int .i64 v,.int .i64 ln,.int .i64 cl]]),(25,.sl false 5 (L ++ [.agg [.int .i64 k,.str t,.int .i64 v,.int .i64 ln,.int .i64 cl]]))],[some [.sl true 5 (L ++ [.agg [.int .i64 k,.str t,.int .i64 v,.int .i64 ln,.int .i64 cl]])],some [.int .i64 c1],some [.int .i64 c2],some [.int .i64 c3],some [.int .i64 line],some [.int .i64 start],some [.int .i64 at_],some [.int .i64 k,.str t,.int .i64 v,.int .i64 ln,.int .i64 cl]]⟩)) from by kernel_rfl).trans (by simp only[Xg])
def b7Y:Code:=nX Tryz.f99
def b7X:AE := { SS.ae 99 27 with vars := [2,3,4,5,6,7,13,14] }
def a0Z:XE:=SS.xe SS.CC SS.LL b7X 8
def a1A:Code:=Code.sub [true,true,false,true,false,true] b7Y
theorem b7Z (l:Nat) (K:AX->ASt->R) (e:Int) (k:Int) (t:ByteArray) (v:Int) (ln:Int) (cl:Int) (L:List PV) (c1:Int) (c2:Int) (c3:Int) (line:Int) (start:Int) (at_:Int) (x1:Int) (x2:ByteArray) (x3:Int) (x4:Int) (x5:Int):bI a0Z a1A K ⟨[(2,.ptr 0 0),(3,.ptr 1 0),(4,.ptr 2 0),(5,.ptr 3 0),(6,.ptr 8 0),(7,.int .i64 e),(13,.agg [.int .i64 k,.str t,.int .i64 v,.int .i64 ln,.int .i64 cl]),(14,.int .i64 e)],[some [.sl true 5 L],some [.int .i64 c1],some [.int .i64 c2],some [.int .i64 c3],some [.int .i64 line],some [.int .i64 start],some [.int .i64 at_],some [.int .i64 x1,.str x2,.int .i64 x3,.int .i64 x4,.int .i64 x5],some [.int .i64 k,.str t,.int .i64 v,.int .i64 ln,.int .i64 cl]]⟩ =
 aA (e != 0) (K .ret ⟨[(2,.ptr 0 0),(3,.ptr 1 0),(4,.ptr 2 0),(5,.ptr 3 0),(6,.ptr 8 0),(7,.int .i64 e),(13,.agg [.int .i64 k,.str t,.int .i64 v,.int .i64 ln,.int .i64 cl]),(14,.int .i64 e),(17,.ptr 8 3),(18,.int .i64 ln),(19,.ptr 8 4),(20,.int .i64 cl),(21,.int .i64 e)],[some [.sl true 0 []],some [.int .i64 ln],some [.int .i64 cl],some [.int .i64 e],some [.int .i64 line],some [.int .i64 start],some [.int .i64 at_],some [.int .i64 x1,.str x2,.int .i64 x3,.int .i64 x4,.int .i64 x5],some [.int .i64 k,.str t,.int .i64 v,.int .i64 ln,.int .i64 cl]]⟩) (chk (decide (L.length+1<=aV)) (K .normal ⟨[(2,.ptr 0 0),(3,.ptr 1 0),(4,.ptr 2 0),(5,.ptr 3 0),(6,.ptr 8 0),(7,.int .i64 e),(13,.agg [.int .i64 k,.str t,.int .i64 v,.int .i64 ln,.int .i64 cl]),(14,.int .i64 e),(22,.sl false 5 L),(23,.agg [.int .i64 k,.str t,.int .i64 v,.int .i64 ln,.int .i64 cl]),(24,.sl true 5 [.agg [.int .i64 k,.str t,.int .i64 v,.int .i64 ln,.int .i64 cl]]),(25,.sl false 5 (L ++ [.agg [.int .i64 k,.str t,.int .i64 v,.int .i64 ln,.int .i64 cl]]))],[some [.sl true 5 (L ++ [.agg [.int .i64 k,.str t,.int .i64 v,.int .i64 ln,.int .i64 cl]])],some [.int .i64 c1],some [.int .i64 c2],some [.int .i64 c3],some [.int .i64 line],some [.int .i64 start],some [.int .i64 at_],some [.int .i64 x1,.str x2,.int .i64 x3,.int .i64 x4,.int .i64 x5],some [.int .i64 k,.str t,.int .i64 v,.int .i64 ln,.int .i64 cl]]⟩)):=(show bI a0Z a1A K ⟨[(2,.ptr 0 0),(3,.ptr 1 0),(4,.ptr 2 0),(5,.ptr 3 0),(6,.ptr 8 0),(7,.int .i64 e),(13,.agg [.int .i64 k,.str t,.int .i64 v,.int .i64 ln,.int .i64 cl]),(14,.int .i64 e)],[some [.sl true 5 L],some [.int .i64 c1],some [.int .i64 c2],some [.int .i64 c3],some [.int .i64 line],some [.int .i64 start],some [.int .i64 at_],some [.int .i64 x1,.str x2,.int .i64 x3,.int .i64 x4,.int .i64 x5],some [.int .i64 k,.str t,.int .i64 v,.int .i64 ln,.int .i64 cl]]⟩=aA (e != 0) (nG (nG (K .ret ⟨[(2,.ptr 0 0),(3,.ptr 1 0),(4,.ptr 2 0),(5,.ptr 3 0),(6,.ptr 8 0),(7,.int .i64 e),(13,.agg [.int .i64 k,.str t,.int .i64 v,.int .i64 ln,.int .i64 cl]),(14,.int .i64 e),(17,.ptr 8 3),(18,.int .i64 ln),(19,.ptr 8 4),(20,.int .i64 cl),(21,.int .i64 e)],[some [.sl true 0 []],some [.int .i64 ln],some [.int .i64 cl],some [.int .i64 e],some [.int .i64 line],some [.int .i64 start],some [.int .i64 at_],some [.int .i64 x1,.str x2,.int .i64 x3,.int .i64 x4,.int .i64 x5],some [.int .i64 k,.str t,.int .i64 v,.int .i64 ln,.int .i64 cl]]⟩) (nG (K .ret ⟨[(2,.ptr 0 0),(3,.ptr 1 0),(4,.ptr 2 0),(5,.ptr 3 0),(6,.ptr 8 0),(7,.int .i64 e),(13,.agg [.int .i64 k,.str t,.int .i64 v,.int .i64 ln,.int .i64 cl]),(14,.int .i64 e),(17,.ptr 8 3),(18,.int .i64 ln),(19,.ptr 8 4),(20,.int .i64 cl),(21,.int .i64 e)],[some [.sl true 0 []],some [.int .i64 ln],some [.int .i64 cl],some [.int .i64 e],some [.int .i64 line],some [.int .i64 start],some [.int .i64 at_],some [.int .i64 x1,.str x2,.int .i64 x3,.int .i64 x4,.int .i64 x5],some [.int .i64 k,.str t,.int .i64 v,.int .i64 ln,.int .i64 cl]]⟩) (K .ret ⟨[(2,.ptr 0 0),(3,.ptr 1 0),(4,.ptr 2 0),(5,.ptr 3 0),(6,.ptr 8 0),(7,.int .i64 e),(13,.agg [.int .i64 k,.str t,.int .i64 v,.int .i64 ln,.int .i64 cl]),(14,.int .i64 e),(17,.ptr 8 3),(18,.int .i64 ln),(19,.ptr 8 4),(20,.int .i64 cl),(21,.int .i64 e)],[some [.sl true 0 []],some [.int .i64 ln],some [.int .i64 cl],some [.int .i64 e],some [.int .i64 line],some [.int .i64 start],some [.int .i64 at_],some [.int .i64 x1,.str x2,.int .i64 x3,.int .i64 x4,.int .i64 x5],some [.int .i64 k,.str t,.int .i64 v,.int .i64 ln,.int .i64 cl]]⟩))) (nG (nG (K .ret ⟨[(2,.ptr 0 0),(3,.ptr 1 0),(4,.ptr 2 0),(5,.ptr 3 0),(6,.ptr 8 0),(7,.int .i64 e),(13,.agg [.int .i64 k,.str t,.int .i64 v,.int .i64 ln,.int .i64 cl]),(14,.int .i64 e),(17,.ptr 8 3),(18,.int .i64 ln),(19,.ptr 8 4),(20,.int .i64 cl),(21,.int .i64 e)],[some [.sl true 0 []],some [.int .i64 ln],some [.int .i64 cl],some [.int .i64 e],some [.int .i64 line],some [.int .i64 start],some [.int .i64 at_],some [.int .i64 x1,.str x2,.int .i64 x3,.int .i64 x4,.int .i64 x5],some [.int .i64 k,.str t,.int .i64 v,.int .i64 ln,.int .i64 cl]]⟩) (K .ret ⟨[(2,.ptr 0 0),(3,.ptr 1 0),(4,.ptr 2 0),(5,.ptr 3 0),(6,.ptr 8 0),(7,.int .i64 e),(13,.agg [.int .i64 k,.str t,.int .i64 v,.int .i64 ln,.int .i64 cl]),(14,.int .i64 e),(17,.ptr 8 3),(18,.int .i64 ln),(19,.ptr 8 4),(20,.int .i64 cl),(21,.int .i64 e)],[some [.sl true 0 []],some [.int .i64 ln],some [.int .i64 cl],some [.int .i64 e],some [.int .i64 line],some [.int .i64 start],some [.int .i64 at_],some [.int .i64 x1,.str x2,.int .i64 x3,.int .i64 x4,.int .i64 x5],some [.int .i64 k,.str t,.int .i64 v,.int .i64 ln,.int .i64 cl]]⟩)) (nG (K .ret ⟨[(2,.ptr 0 0),(3,.ptr 1 0),(4,.ptr 2 0),(5,.ptr 3 0),(6,.ptr 8 0),(7,.int .i64 e),(13,.agg [.int .i64 k,.str t,.int .i64 v,.int .i64 ln,.int .i64 cl]),(14,.int .i64 e),(17,.ptr 8 3),(18,.int .i64 ln),(19,.ptr 8 4),(20,.int .i64 cl),(21,.int .i64 e)],[some [.sl true 0 []],some [.int .i64 ln],some [.int .i64 cl],some [.int .i64 e],some [.int .i64 line],some [.int .i64 start],some [.int .i64 at_],some [.int .i64 x1,.str x2,.int .i64 x3,.int .i64 x4,.int .i64 x5],some [.int .i64 k,.str t,.int .i64 v,.int .i64 ln,.int .i64 cl]]⟩) (K .ret ⟨[(2,.ptr 0 0),(3,.ptr 1 0),(4,.ptr 2 0),(5,.ptr 3 0),(6,.ptr 8 0),(7,.int .i64 e),(13,.agg [.int .i64 k,.str t,.int .i64 v,.int .i64 ln,.int .i64 cl]),(14,.int .i64 e),(17,.ptr 8 3),(18,.int .i64 ln),(19,.ptr 8 4),(20,.int .i64 cl),(21,.int .i64 e)],[some [.sl true 0 []],some [.int .i64 ln],some [.int .i64 cl],some [.int .i64 e],some [.int .i64 line],some [.int .i64 start],some [.int .i64 at_],some [.int .i64 x1,.str x2,.int .i64 x3,.int .i64 x4,.int .i64 x5],some [.int .i64 k,.str t,.int .i64 v,.int .i64 ln,.int .i64 cl]]⟩)))) (chk (decide (L.length+1<=aV)) (K .normal ⟨[(2,.ptr 0 0),(3,.ptr 1 0),(4,.ptr 2 0),(5,.ptr 3 0),(6,.ptr 8 0),(7,.int .i64 e),(13,.agg [.int .i64 k,.str t,.int .i64 v,.int .i64 ln,.int .i64 cl]),(14,.int .i64 e),(22,.sl false 5 L),(23,.agg [.int .i64 k,.str t,.int .i64 v,.int .i64 ln,.int .i64 cl]),(24,.sl true 5 [.agg [.int .i64 k,.str t,.int .i64 v,.int .i64 ln,.int .i64 cl]]),(25,.sl false 5 (L ++ [.agg [.int .i64 k,.str t,.int .i64 v,.int .i64 ln,.int .i64 cl]]))],[some [.sl true 5 (L ++ [.agg [.int .i64 k,.str t,.int .i64 v,.int .i64 ln,.int .i64 cl]])],some [.int .i64 c1],some [.int .i64 c2],some [.int .i64 c3],some [.int .i64 line],some [.int .i64 start],some [.int .i64 at_],some [.int .i64 x1,.str x2,.int .i64 x3,.int .i64 x4,.int .i64 x5],some [.int .i64 k,.str t,.int .i64 v,.int .i64 ln,.int .i64 cl]]⟩)) from by kernel_rfl).trans (by simp only[Xg])
def BQ:Code:=Code.sub [true,true,false,true,false,false] sZ
def yD:Code:=Code.sub [true,true,false,true,false,true] sZ
theorem aJ4:lY BQ=true:=by kernel_rfl
theorem aJ5:lY yD=true:=by kernel_rfl
theorem zL:Tryz.prog.follows .mixedOrders=true:=by kernel_rfl
theorem bBS (K:AX->ASt->R) (L:List PV) (c1 c2 c3 line start at_:Int) (k:Int) (t:ByteArray) (v ln cl e:Int):bI (SS.xe SS.CC SS.LL jZ 7) BQ K ⟨[(2,.ptr 0 0),(3,.ptr 1 0),(4,.ptr 2 0),(5,.ptr 3 0),(13,.agg [.int .i64 k,.str t,.int .i64 v,.int .i64 ln,.int .i64 cl]),(14,.int .i64 e)],[some [.sl true 5 L],some [.int .i64 c1],some [.int .i64 c2],some [.int .i64 c3],some [.int .i64 line],some [.int .i64 start],some [.int .i64 at_]]⟩=K .normal ⟨[(2,.ptr 0 0),(3,.ptr 1 0),(4,.ptr 2 0),(5,.ptr 3 0),(6,.ptr 7 0),(7,.int .i64 e),(13,.agg [.int .i64 k,.str t,.int .i64 v,.int .i64 ln,.int .i64 cl]),(14,.int .i64 e)],[some [.sl true 5 L],some [.int .i64 c1],some [.int .i64 c2],some [.int .i64 c3],some [.int .i64 line],some [.int .i64 start],some [.int .i64 at_],some [.int .i64 k,.str t,.int .i64 v,.int .i64 ln,.int .i64 cl]]⟩:=by kernel_rfl
def a2H (L:List PV) (c1 c2 c3 line start at_:Int) (k:Int) (t:ByteArray) (v ln cl e:Int):ASt:=⟨[(2,.ptr 0 0),(3,.ptr 1 0),(4,.ptr 2 0),(5,.ptr 3 0),(6,.ptr 7 0),(7,.int .i64 e),(13,.agg [.int .i64 k,.str t,.int .i64 v,.int .i64 ln,.int .i64 cl]),(14,.int .i64 e),(17,.ptr 7 3),(18,.int .i64 ln),(19,.ptr 7 4),(20,.int .i64 cl),(21,.int .i64 e)],[some [.sl true 0 []],some [.int .i64 ln],some [.int .i64 cl],some [.int .i64 e],some [.int .i64 line],some [.int .i64 start],some [.int .i64 at_],some [.int .i64 k,.str t,.int .i64 v,.int .i64 ln,.int .i64 cl]]⟩
def a2J (L:List PV) (c1 c2 c3 line start at_:Int) (k:Int) (t:ByteArray) (v ln cl e:Int):ASt:=⟨[(2,.ptr 0 0),(3,.ptr 1 0),(4,.ptr 2 0),(5,.ptr 3 0),(6,.ptr 7 0),(7,.int .i64 e),(13,.agg [.int .i64 k,.str t,.int .i64 v,.int .i64 ln,.int .i64 cl]),(14,.int .i64 e),(22,.sl false 5 L),(23,.agg [.int .i64 k,.str t,.int .i64 v,.int .i64 ln,.int .i64 cl]),(24,.sl true 5 [.agg [.int .i64 k,.str t,.int .i64 v,.int .i64 ln,.int .i64 cl]]),(25,.sl false 5 (L ++ [.agg [.int .i64 k,.str t,.int .i64 v,.int .i64 ln,.int .i64 cl]]))],[some [.sl true 5 (L ++ [.agg [.int .i64 k,.str t,.int .i64 v,.int .i64 ln,.int .i64 cl]])],some [.int .i64 c1],some [.int .i64 c2],some [.int .i64 c3],some [.int .i64 line],some [.int .i64 start],some [.int .i64 at_],some [.int .i64 k,.str t,.int .i64 v,.int .i64 ln,.int .i64 cl]]⟩
theorem aJ2 (K:AX->ASt->R) (L:List PV) (c1 c2 c3 line start at_:Int) (k:Int) (t:ByteArray) (v ln cl e:Int):bI (SS.xe SS.CC SS.LL jZ 7) yD K ⟨[(2,.ptr 0 0),(3,.ptr 1 0),(4,.ptr 2 0),(5,.ptr 3 0),(6,.ptr 7 0),(7,.int .i64 e),(13,.agg [.int .i64 k,.str t,.int .i64 v,.int .i64 ln,.int .i64 cl]),(14,.int .i64 e)],[some [.sl true 5 L],some [.int .i64 c1],some [.int .i64 c2],some [.int .i64 c3],some [.int .i64 line],some [.int .i64 start],some [.int .i64 at_],some [.int .i64 k,.str t,.int .i64 v,.int .i64 ln,.int .i64 cl]]⟩=aA (e != 0) (K .ret (a2H L c1 c2 c3 line start at_ k t v ln cl e)) (chk (decide (L.length+1<=aV)) (K .normal (a2J L c1 c2 c3 line start at_ k t v ln cl e))) :=(show bI (SS.xe SS.CC SS.LL jZ 7) yD K ⟨[(2,.ptr 0 0),(3,.ptr 1 0),(4,.ptr 2 0),(5,.ptr 3 0),(6,.ptr 7 0),(7,.int .i64 e),(13,.agg [.int .i64 k,.str t,.int .i64 v,.int .i64 ln,.int .i64 cl]),(14,.int .i64 e)],[some [.sl true 5 L],some [.int .i64 c1],some [.int .i64 c2],some [.int .i64 c3],some [.int .i64 line],some [.int .i64 start],some [.int .i64 at_],some [.int .i64 k,.str t,.int .i64 v,.int .i64 ln,.int .i64 cl]]⟩=bI a0X a0Y K ⟨[(2,.ptr 0 0),(3,.ptr 1 0),(4,.ptr 2 0),(5,.ptr 3 0),(6,.ptr 7 0),(7,.int .i64 e),(13,.agg [.int .i64 k,.str t,.int .i64 v,.int .i64 ln,.int .i64 cl]),(14,.int .i64 e)],[some [.sl true 5 L],some [.int .i64 c1],some [.int .i64 c2],some [.int .i64 c3],some [.int .i64 line],some [.int .i64 start],some [.int .i64 at_],some [.int .i64 k,.str t,.int .i64 v,.int .i64 ln,.int .i64 cl]]⟩ from by kernel_rfl).trans (b7W 0 K e k t v ln cl L c1 c2 c3 line start at_)
theorem bBU (L:List PV) (c1 c2 c3 line start at_:Int) (k:Int) (t:ByteArray) (v ln cl e:Int) (hL:L.length+1<=aV):cO jZ 7 BQ (Aa (cO jZ 7 yD fun ax Z'=>if e=0 then ax = .normal/\Z'=a2J L c1 c2 c3 line start at_ k t v ln cl e else ax = .ret/\Z'=a2H L c1 c2 c3 line start at_ k t v ln cl e) fun _ _=>False) ⟨[(2,.ptr 0 0),(3,.ptr 1 0),(4,.ptr 2 0),(5,.ptr 3 0),(13,.agg [.int .i64 k,.str t,.int .i64 v,.int .i64 ln,.int .i64 cl]),(14,.int .i64 e)],[some [.sl true 5 L],some [.int .i64 c1],some [.int .i64 c2],some [.int .i64 c3],some [.int .i64 line],some [.int .i64 start],some [.int .i64 at_]]⟩:=by
 have hC:lU (SS.xe SS.CC SS.LL jZ 7).E.P (SS.xe SS.CC SS.LL jZ 7).C:=JE zL dO Bv;have hl:Ew (SS.xe SS.CC SS.LL jZ 7):=Ro zL dO Bv rfl;refine uM BQ (fun ax Z' h => ?_) (FI (X:=(SS.xe SS.CC SS.LL jZ 7)) dO.V dO.W hC hl fun K=>bBS K L c1 c2 c3 line start at_ k t v ln cl e);obtain ⟨rfl,rfl⟩:=h;show cO jZ 7 yD _ _;by_cases he:e=0
 .simp only[aH he];refine FI (X:=(SS.xe SS.CC SS.LL jZ 7)) dO.V dO.W hC hl fun K => ?_
  rw[aJ2,show (e != 0)=false by simp[he],aC,ah (by simpa using hL)]
 .simp only[aI he];refine FI (X:=(SS.xe SS.CC SS.LL jZ 7)) dO.V dO.W hC hl fun K => ?_
  rw[aJ2,show (e != 0)=true by simp[he],aG]
theorem bBT (K:AX->ASt->R) (L:List PV) (c1 c2 c3 line start at_:Int) (x1:Int) (x2:ByteArray) (x3 x4 x5:Int) (k:Int) (t:ByteArray) (v ln cl e:Int):bI (SS.xe SS.CC SS.LL jZ 8) BQ K ⟨[(2,.ptr 0 0),(3,.ptr 1 0),(4,.ptr 2 0),(5,.ptr 3 0),(13,.agg [.int .i64 k,.str t,.int .i64 v,.int .i64 ln,.int .i64 cl]),(14,.int .i64 e)],[some [.sl true 5 L],some [.int .i64 c1],some [.int .i64 c2],some [.int .i64 c3],some [.int .i64 line],some [.int .i64 start],some [.int .i64 at_],some [.int .i64 x1,.str x2,.int .i64 x3,.int .i64 x4,.int .i64 x5]]⟩=K .normal ⟨[(2,.ptr 0 0),(3,.ptr 1 0),(4,.ptr 2 0),(5,.ptr 3 0),(6,.ptr 8 0),(7,.int .i64 e),(13,.agg [.int .i64 k,.str t,.int .i64 v,.int .i64 ln,.int .i64 cl]),(14,.int .i64 e)],[some [.sl true 5 L],some [.int .i64 c1],some [.int .i64 c2],some [.int .i64 c3],some [.int .i64 line],some [.int .i64 start],some [.int .i64 at_],some [.int .i64 x1,.str x2,.int .i64 x3,.int .i64 x4,.int .i64 x5],some [.int .i64 k,.str t,.int .i64 v,.int .i64 ln,.int .i64 cl]]⟩:=by kernel_rfl
def a2I (L:List PV) (c1 c2 c3 line start at_:Int) (x1:Int) (x2:ByteArray) (x3 x4 x5:Int) (k:Int) (t:ByteArray) (v ln cl e:Int):ASt:=⟨[(2,.ptr 0 0),(3,.ptr 1 0),(4,.ptr 2 0),(5,.ptr 3 0),(6,.ptr 8 0),(7,.int .i64 e),(13,.agg [.int .i64 k,.str t,.int .i64 v,.int .i64 ln,.int .i64 cl]),(14,.int .i64 e),(17,.ptr 8 3),(18,.int .i64 ln),(19,.ptr 8 4),(20,.int .i64 cl),(21,.int .i64 e)],[some [.sl true 0 []],some [.int .i64 ln],some [.int .i64 cl],some [.int .i64 e],some [.int .i64 line],some [.int .i64 start],some [.int .i64 at_],some [.int .i64 x1,.str x2,.int .i64 x3,.int .i64 x4,.int .i64 x5],some [.int .i64 k,.str t,.int .i64 v,.int .i64 ln,.int .i64 cl]]⟩
def a2K (L:List PV) (c1 c2 c3 line start at_:Int) (x1:Int) (x2:ByteArray) (x3 x4 x5:Int) (k:Int) (t:ByteArray) (v ln cl e:Int):ASt:=⟨[(2,.ptr 0 0),(3,.ptr 1 0),(4,.ptr 2 0),(5,.ptr 3 0),(6,.ptr 8 0),(7,.int .i64 e),(13,.agg [.int .i64 k,.str t,.int .i64 v,.int .i64 ln,.int .i64 cl]),(14,.int .i64 e),(22,.sl false 5 L),(23,.agg [.int .i64 k,.str t,.int .i64 v,.int .i64 ln,.int .i64 cl]),(24,.sl true 5 [.agg [.int .i64 k,.str t,.int .i64 v,.int .i64 ln,.int .i64 cl]]),(25,.sl false 5 (L ++ [.agg [.int .i64 k,.str t,.int .i64 v,.int .i64 ln,.int .i64 cl]]))],[some [.sl true 5 (L ++ [.agg [.int .i64 k,.str t,.int .i64 v,.int .i64 ln,.int .i64 cl]])],some [.int .i64 c1],some [.int .i64 c2],some [.int .i64 c3],some [.int .i64 line],some [.int .i64 start],some [.int .i64 at_],some [.int .i64 x1,.str x2,.int .i64 x3,.int .i64 x4,.int .i64 x5],some [.int .i64 k,.str t,.int .i64 v,.int .i64 ln,.int .i64 cl]]⟩
theorem aJ3 (K:AX->ASt->R) (L:List PV) (c1 c2 c3 line start at_:Int) (x1:Int) (x2:ByteArray) (x3 x4 x5:Int) (k:Int) (t:ByteArray) (v ln cl e:Int):bI (SS.xe SS.CC SS.LL jZ 8) yD K ⟨[(2,.ptr 0 0),(3,.ptr 1 0),(4,.ptr 2 0),(5,.ptr 3 0),(6,.ptr 8 0),(7,.int .i64 e),(13,.agg [.int .i64 k,.str t,.int .i64 v,.int .i64 ln,.int .i64 cl]),(14,.int .i64 e)],[some [.sl true 5 L],some [.int .i64 c1],some [.int .i64 c2],some [.int .i64 c3],some [.int .i64 line],some [.int .i64 start],some [.int .i64 at_],some [.int .i64 x1,.str x2,.int .i64 x3,.int .i64 x4,.int .i64 x5],some [.int .i64 k,.str t,.int .i64 v,.int .i64 ln,.int .i64 cl]]⟩=aA (e != 0) (K .ret (a2I L c1 c2 c3 line start at_ x1 x2 x3 x4 x5 k t v ln cl e)) (chk (decide (L.length+1<=aV)) (K .normal (a2K L c1 c2 c3 line start at_ x1 x2 x3 x4 x5 k t v ln cl e))) :=(show bI (SS.xe SS.CC SS.LL jZ 8) yD K ⟨[(2,.ptr 0 0),(3,.ptr 1 0),(4,.ptr 2 0),(5,.ptr 3 0),(6,.ptr 8 0),(7,.int .i64 e),(13,.agg [.int .i64 k,.str t,.int .i64 v,.int .i64 ln,.int .i64 cl]),(14,.int .i64 e)],[some [.sl true 5 L],some [.int .i64 c1],some [.int .i64 c2],some [.int .i64 c3],some [.int .i64 line],some [.int .i64 start],some [.int .i64 at_],some [.int .i64 x1,.str x2,.int .i64 x3,.int .i64 x4,.int .i64 x5],some [.int .i64 k,.str t,.int .i64 v,.int .i64 ln,.int .i64 cl]]⟩=bI a0Z a1A K ⟨[(2,.ptr 0 0),(3,.ptr 1 0),(4,.ptr 2 0),(5,.ptr 3 0),(6,.ptr 8 0),(7,.int .i64 e),(13,.agg [.int .i64 k,.str t,.int .i64 v,.int .i64 ln,.int .i64 cl]),(14,.int .i64 e)],[some [.sl true 5 L],some [.int .i64 c1],some [.int .i64 c2],some [.int .i64 c3],some [.int .i64 line],some [.int .i64 start],some [.int .i64 at_],some [.int .i64 x1,.str x2,.int .i64 x3,.int .i64 x4,.int .i64 x5],some [.int .i64 k,.str t,.int .i64 v,.int .i64 ln,.int .i64 cl]]⟩ from by kernel_rfl).trans (b7Z 0 K e k t v ln cl L c1 c2 c3 line start at_ x1 x2 x3 x4 x5)
theorem bBV (L:List PV) (c1 c2 c3 line start at_:Int) (x1:Int) (x2:ByteArray) (x3 x4 x5:Int) (k:Int) (t:ByteArray) (v ln cl e:Int) (hL:L.length+1<=aV):cO jZ 8 BQ (Aa (cO jZ 8 yD fun ax Z'=>if e=0 then ax = .normal/\Z'=a2K L c1 c2 c3 line start at_ x1 x2 x3 x4 x5 k t v ln cl e else ax = .ret/\Z'=a2I L c1 c2 c3 line start at_ x1 x2 x3 x4 x5 k t v ln cl e) fun _ _=>False) ⟨[(2,.ptr 0 0),(3,.ptr 1 0),(4,.ptr 2 0),(5,.ptr 3 0),(13,.agg [.int .i64 k,.str t,.int .i64 v,.int .i64 ln,.int .i64 cl]),(14,.int .i64 e)],[some [.sl true 5 L],some [.int .i64 c1],some [.int .i64 c2],some [.int .i64 c3],some [.int .i64 line],some [.int .i64 start],some [.int .i64 at_],some [.int .i64 x1,.str x2,.int .i64 x3,.int .i64 x4,.int .i64 x5]]⟩:=by
 have hC:lU (SS.xe SS.CC SS.LL jZ 8).E.P (SS.xe SS.CC SS.LL jZ 8).C:=JE zL dO Bv;have hl:Ew (SS.xe SS.CC SS.LL jZ 8):=Ro zL dO Bv rfl;refine uM BQ (fun ax Z' h => ?_) (FI (X:=(SS.xe SS.CC SS.LL jZ 8)) dO.V dO.W hC hl fun K=>bBT K L c1 c2 c3 line start at_ x1 x2 x3 x4 x5 k t v ln cl e);obtain ⟨rfl,rfl⟩:=h;show cO jZ 8 yD _ _;by_cases he:e=0
 .simp only[aH he];refine FI (X:=(SS.xe SS.CC SS.LL jZ 8)) dO.V dO.W hC hl fun K => ?_
  rw[aJ3,show (e != 0)=false by simp[he],aC,ah (by simpa using hL)]
 .simp only[aI he];refine FI (X:=(SS.xe SS.CC SS.LL jZ 8)) dO.V dO.W hC hl fun K => ?_
  rw[aJ3,show (e != 0)=true by simp[he],aG]
def b97:Code:=nX Tryz.f249
def b96:AE:=SS.ae 249 86
def aHU:XE:=SS.xe SS.CC SS.LL b96 8
def Vt:Code:=Code.sub [false,true,true,false,false,false,true,true,true,true,true,true,true,true,false,false] b97
theorem b98 (l:Nat) (K:AX->ASt->R) (s:ByteArray) (e:Int) (L:List PV) (c1:Int) (c2:Int) (c3:Int) (line:Int) (start:Int) (at_:Int) (k:Int) (t:ByteArray) (v:Int) (a:Int) (b:Int):iy aHU false (opsOf Vt) (((opsOf Vt).toList.drop 0).take 5) (K .normal) ⟨[(0,.func (.yield l) [] []),(1,.cst (.str s)),(3,.ptr 4 0),(4,.ptr 5 0),(5,.ptr 6 0),(8,.func (.func 251) [] [.ptr 4 0,.ptr 6 0,.ptr 5 0]),(12,.ptr 7 0),(13,.int .i64 e)],[some [.sl true 5 L],some [.int .i64 c1],some [.int .i64 c2],some [.int .i64 c3],some [.int .i64 line],some [.int .i64 start],some [.int .i64 at_],some [.int .i64 k,.str t,.int .i64 v,.int .i64 a,.int .i64 b]]⟩ =
 xg SS.CC 251 [.agg [.int .i64 k,.str t,.int .i64 v,.int .i64 a,.int .i64 b],.ptr 0 0,.ptr 1 0,.ptr 2 0] [some [.int .i64 line],some [.int .i64 at_],some [.int .i64 start]] fun r9 h10=>H9 r9 h10 fun n1 s2 n3 n4 n5 n6 n7 n8=>K .normal ⟨[(0,.func (.yield l) [] []),(1,.cst (.str s)),(3,.ptr 4 0),(4,.ptr 5 0),(5,.ptr 6 0),(8,.func (.func 251) [] [.ptr 4 0,.ptr 6 0,.ptr 5 0]),(12,.ptr 7 0),(13,.int .i64 e),(70,.func (.yield l) [] []),(71,.func (.func 251) [] [.ptr 4 0,.ptr 6 0,.ptr 5 0]),(72,.agg [.int .i64 k,.str t,.int .i64 v,.int .i64 a,.int .i64 b]),(73,.agg [.int .i64 n1,.str s2,.int .i64 n3,.int .i64 n4,.int .i64 n5]),(74,.int .i64 e)],[some [.sl true 5 L],some [.int .i64 c1],some [.int .i64 c2],some [.int .i64 c3],some [.int .i64 n6],some [.int .i64 n8],some [.int .i64 n7],some [.int .i64 k,.str t,.int .i64 v,.int .i64 a,.int .i64 b]]⟩:=by kernel_rfl
def b9B:Code:=nX Tryz.f249
def b99:AE:=SS.ae 249 86
def b9A:XE:=SS.xe SS.CC SS.LL b99 8
def b9C:Code:=Code.sub [false,true,true,false,false,false,true,true,true,true,true,true,true,true,true,false] b9B
theorem b9D (l:Nat) (K:AX->ASt->R) (s:ByteArray) (L:List PV) (c1:Int) (c2:Int) (c3:Int) (line:Int) (start:Int) (at_:Int) (k:Int) (t:ByteArray) (v:Int) (a:Int) (b:Int):bI b9A b9C K ⟨[(0,.func (.yield l) [] []),(1,.cst (.str s)),(3,.ptr 4 0),(4,.ptr 5 0),(5,.ptr 6 0),(12,.ptr 7 0)],[some [.sl true 5 L],some [.int .i64 c1],some [.int .i64 c2],some [.int .i64 c3],some [.int .i64 line],some [.int .i64 start],some [.int .i64 at_],some [.int .i64 k,.str t,.int .i64 v,.int .i64 a,.int .i64 b]]⟩ =
 K .normal ⟨[(0,.func (.yield l) [] []),(1,.cst (.str s)),(3,.ptr 4 0),(4,.ptr 5 0),(5,.ptr 6 0),(12,.ptr 7 0),(81,.int .i64 at_),(82,.ptr 7 1),(83,.str t),(84,.int .i64 (t.size:Int)),(85,.int .i64 (i64.wrap (at_+(t.size:Int))))],[some [.sl true 5 L],some [.int .i64 c1],some [.int .i64 c2],some [.int .i64 c3],some [.int .i64 line],some [.int .i64 start],some [.int .i64 (i64.wrap (at_+(t.size:Int)))],some [.int .i64 k,.str t,.int .i64 v,.int .i64 a,.int .i64 b]]⟩:=by kernel_rfl
def k:Code:=Code.sub [] gQ
def k0:Code:=Code.sub [false] gQ
def k00:Code:=Code.sub [false,false] gQ
def ZR:Code:=Code.sub [false,true] gQ
def aEJ:Code:=Code.sub [false,true,false] gQ
theorem b3U:aEJ = .label 0:=by kernel_rfl
def ZT:Code:=Code.sub [false,true,true] gQ
def aEK:Code:=Code.sub [false,true,true,false] gQ
def Hq:Code:=Code.sub [false,true,true,false,false] gQ
def ZU:Code:=Code.sub [false,true,true,false,false,false] gQ
def b3V:Code:=Code.sub [false,true,true,false,false,false,false] gQ
def VE:Code:=Code.sub [false,true,true,false,false,false,true] gQ
def b3W:Code:=Code.sub [false,true,true,false,false,false,true,false] gQ
def VF:Code:=Code.sub [false,true,true,false,false,false,true,true] gQ
def b3X:Code:=Code.sub [false,true,true,false,false,false,true,true,false] gQ
def VG:Code:=Code.sub [false,true,true,false,false,false,true,true,true] gQ
def b3Y:Code:=Code.sub [false,true,true,false,false,false,true,true,true,false] gQ
def KY:Code:=Code.sub [false,true,true,false,false,false,true,true,true,true] gQ
def aEL:Code:=Code.sub [false,true,true,false,false,false,true,true,true,true,false] gQ
def b3Z:Code:=Code.sub [false,true,true,false,false,false,true,true,true,true,false,false] gQ
def VH:Code:=Code.sub [false,true,true,false,false,false,true,true,true,true,false,true] gQ
def aEM:Code:=Code.sub [false,true,true,false,false,false,true,true,true,true,false,true,false] gQ
def Hr:Code:=Code.sub [false,true,true,false,false,false,true,true,true,true,false,true,false,false] gQ
theorem b47:Hr = .region 10 (opsOf Hr) false:=by kernel_rfl
def ZW:Code:=Code.sub [false,true,true,false,false,false,true,true,true,true,false,true,false,true] gQ
theorem b49:ZW = .ret:=by kernel_rfl
theorem b4A:aEM = .seq Hr ZW:=by kernel_rfl
def aEN:Code:=Code.sub [false,true,true,false,false,false,true,true,true,true,false,true,true] gQ
theorem b4B:aEN = .skip:=by kernel_rfl
theorem aEO:VH = .cond (.tmp 41) aEM aEN:=by kernel_rfl
theorem aEP:aEL = .seq b3Z VH:=by kernel_rfl
def VJ:Code:=Code.sub [false,true,true,false,false,false,true,true,true,true,true] gQ
def b4C:Code:=Code.sub [false,true,true,false,false,false,true,true,true,true,true,false] gQ
def ZX:Code:=Code.sub [false,true,true,false,false,false,true,true,true,true,true,true] gQ
def b4D:Code:=Code.sub [false,true,true,false,false,false,true,true,true,true,true,true,false] gQ
def ZY:Code:=Code.sub [false,true,true,false,false,false,true,true,true,true,true,true,true] gQ
def aEQ:Code:=Code.sub [false,true,true,false,false,false,true,true,true,true,true,true,true,false] gQ
def ZZ:Code:=Code.sub [false,true,true,false,false,false,true,true,true,true,true,true,true,true] gQ
def aER:Code:=Code.sub [false,true,true,false,false,false,true,true,true,true,true,true,true,true,false] gQ
def uX:Code:=Code.sub [false,true,true,false,false,false,true,true,true,true,true,true,true,true,false,false] gQ
theorem b4J:uX = .region 19 (opsOf uX) false:=by kernel_rfl
def VM:Code:=Code.sub [false,true,true,false,false,false,true,true,true,true,true,true,true,true,false,true] gQ
def aES:Code:=Code.sub [false,true,true,false,false,false,true,true,true,true,true,true,true,true,false,true,false] gQ
theorem b4K:aES = .ret:=by kernel_rfl
def aET:Code:=Code.sub [false,true,true,false,false,false,true,true,true,true,true,true,true,true,false,true,true] gQ
theorem b4L:aET = .skip:=by kernel_rfl
theorem aEU:VM = .cond (.tmp 80) aES aET:=by kernel_rfl
theorem b4M:aER = .seq uX VM:=by kernel_rfl
def Zb:Code:=Code.sub [false,true,true,false,false,false,true,true,true,true,true,true,true,true,true] gQ
def b4N:Code:=Code.sub [false,true,true,false,false,false,true,true,true,true,true,true,true,true,true,false] gQ
def Zc:Code:=Code.sub [false,true,true,false,false,false,true,true,true,true,true,true,true,true,true,true] gQ
theorem b4O:Zc = .exit 1:=by kernel_rfl
theorem b4P:Zb = .seq b4N Zc:=by kernel_rfl
theorem b4Q:ZZ = .seq aER Zb:=by kernel_rfl
theorem b4R:ZY = .seq aEQ ZZ:=by kernel_rfl
theorem b4S:ZX = .seq b4D ZY:=by kernel_rfl
theorem b4T:VJ = .seq b4C ZX:=by kernel_rfl
theorem aEV:KY = .seq aEL VJ:=by kernel_rfl
theorem b4U:VG = .seq b3Y KY:=by kernel_rfl
theorem b4V:VF = .seq b3X VG:=by kernel_rfl
theorem b4W:VE = .seq b3W VF:=by kernel_rfl
theorem b4X:ZU = .seq b3V VE:=by kernel_rfl
theorem Zd:Hq = .block 1 ZU:=by kernel_rfl
theorem b4Y:aEK = .loop Hq:=by kernel_rfl
theorem b4Z:ZT = .block 0 aEK:=by kernel_rfl
theorem b4':ZR = .seq aEJ ZT:=by kernel_rfl
theorem b50:k0 = .seq k00 ZR:=by kernel_rfl
theorem b51:k = .scope k0:=by kernel_rfl
def VI:Oper:=(opsOf Hr)[4]!
def ZV:Call:=match VI.op with | .call c=>c | _=>default
theorem b41:VI.op = .call ZV:=by kernel_rfl
theorem b42:VI.guard=none:=by kernel_rfl
theorem b43:ZV.callee = .value (.tmp 42):=by kernel_rfl
theorem b45:ZV.args = #[(.tmp 45),(.const (.int .i64 0))]:=by kernel_rfl
theorem b46:(opsOf Hr).toList=((opsOf Hr).toList.drop 0).take 4 ++ VI::((opsOf Hr).toList.drop 5).take 5:=by kernel_rfl
def VK:Oper:=(opsOf uX)[5]!
def Za:Call:=match VK.op with | .call c=>c | _=>default
theorem b4E:VK.op = .call Za:=by kernel_rfl
theorem b4F:VK.guard=none:=by kernel_rfl
theorem b4G:Za.callee = .value (.tmp 70):=by kernel_rfl
theorem b4H:Za.args = #[(.tmp 73),(.tmp 74)]:=by kernel_rfl
theorem b4I:(opsOf uX).toList=((opsOf uX).toList.drop 0).take 5 ++ VK::((opsOf uX).toList.drop 6).take 5:=by kernel_rfl
def qm:List UInt8->Nat->Nat×Nat->Nat×Nat
 | [],_,p=>p
 | b::l,i,p=>qm l (i+1) (if b=10 then (p.1+1,i+1) else p)
def bz (l:List UInt8):Tok×Int:=match l with
 | []=>BZ []
 | b::l=>if fB b.toNat then zO (b::l) else if isLet b.toNat then zi (b::l) else BZ (b::l)
inductive Dz where
 | ok (ts:List Tok)
 | err (line sH e:Int)
def Tok.at (t:Tok) (line sH:Int):Tok := { t with line:=line,sH:=sH }
def ve:Nat->List UInt8->Nat->Nat->Nat->List Tok->Dz
 | 0,_,_,_,_,_ => .err 0 0 0
 | f+1,rest,i,line,start,acc =>
  let g:=fM false rest
  let p:=qm (rest.take g) i (line,start)
  match rest.drop g with
  | [] => .ok (acc ++ [(⟨4,[],0,(p.1:Nat),((i+g-p.2+1:Nat):Int)⟩:Tok)])
  | b::r =>
   if (bz (b::r)).2=0 then ve f ((b::r).drop (bz (b::r)).1.text.length) (i+g+(bz (b::r)).1.text.length) p.1 p.2 (acc ++ [(bz (b::r)).1.at (p.1:Nat) ((i+g-p.2+1:Nat):Int)])
   else .err (p.1:Nat) ((i+g-p.2+1:Nat):Int) (bz (b::r)).2
theorem Lt:∀ (c:Bool) (l:List UInt8),fM c l<=l.length
 | _,[]=>by cases ‹Bool› <;> simp[fM]
 | true,b::l=>by have h1:=Lt false l;have h2:=Lt true l;rw[fM]; split<;>simp<;>omega
 | false,b::l=>by
  have h1:=Lt false l;have h2:=Lt true l;rw[fM]; split
  .simp; omega
  .split<;>simp<;>omega
theorem a0J:∀ (l:List UInt8) (i:Nat) (p:Nat×Nat),p.2<=i->(qm l i p).2<=i+l.length/\p.1<=(qm l i p).1/\(qm l i p).1<=p.1+l.length
 | [],i,p,h=>by simp[qm,h]
 | b::l,i,p,h=>by
  rw[qm];split
  .have:=a0J l (i+1) (p.1+1,i+1) (by simp);simp only[aU] at *; omega
  .have:=a0J l (i+1) p (by omega);simp only[aU]; omega
theorem aIS {p:Nat->Bool} {b:UInt8} {l:List UInt8} (h:p b.toNat=true):0<(fK p (b::l)).length:=by unfold fK; rw[Fz,h]; simp
theorem aKL {l x:List UInt8} (h:FX l=some x):x∈ui/\x.isPrefixOf l=true:=by unfold FX at h;exact ⟨List.mem_of_find?_eq_some h,by have:=List.find?_some h; simpa using this⟩
theorem a2Y:∀ x∈ui,0<x.length/\x.length<=2:=by decide
theorem aI2:∀ {x l:List UInt8},x.isPrefixOf l=true->x.length<=l.length
 | [],_,_=>by simp
 | a::x,[],h=>by simp[List.isPrefixOf] at h
 | a::x,b::l,h=>by simp[List.isPrefixOf] at h; have:=aI2 (x:=x) (l:=l) (by simpa using h.2); simp; omega
theorem Vy {b:UInt8} {r:List UInt8} (h:(bz (b::r)).2=0):0<(bz (b::r)).1.text.length/\(bz (b::r)).1.text.length<=(b::r).length:=by
 rw[show bz (b::r)=if fB b.toNat then zO (b::r) else if isLet b.toNat then zi (b::r) else BZ (b::r) from rfl] at h ⊢;split
 .rename_i hd;have h1:=aIS (p:=fB) (l:=r) hd;have h2:=a1X fB (b::r);simp only[hd,fD] at h;unfold zO at h ⊢;split at h
  .cases h
  .rename_i c1;rw[aI c1];split at h
   .cases h
   .rename_i c2;rw[aI c2];split at h
    .cases h
    .rename_i n hn;exact ⟨h1,h2⟩
 .rename_i hd;simp only[hd] at h;split
  .rename_i hw;have h1:=aIS (p:=lW) (b:=b) (l:=r) (by simp[lW,hw]);have h2:=a1X lW (b::r);simp only[hw,fD] at h;unfold zi at h ⊢;by_cases c:32<(fK lW (b::r)).length
   .simp[c] at h
   .simp only[aI c]; exact ⟨h1,h2⟩
  .rename_i hw;simp only[hw] at h;unfold BZ at h ⊢;cases hs:FX (b::r) with
   | none=>simp[hs] at h
   | some x =>obtain ⟨m1,m2⟩:=aKL hs;have:=a2Y x m1;exact ⟨this.1,aI2 m2⟩
def iD (l:Nat) (rc:Loop) (out:Nat->Nat):YC:=⟨IJ,jZ,l,7,rc,out,[(2,.ptr 0 0),(3,.ptr 1 0),(4,.ptr 2 0),(5,.ptr 3 0)]⟩
structure JM (rc:Loop):Prop where
 par:rc.params = #[13,14]
 SN:rc.assign=BQ
 Sv:rc.body=yD
 tm:rc.tmps.size=27
theorem Xe {l:Nat} {rc:Loop} {out:Nat->Nat} (ho:1<=out l):(iD l rc out).OK:=⟨zL,rfl,ho⟩
section
variable {l:Nat} {rc:Loop} {out:Nat->Nat}
theorem pc (ho:1<=out l) {c:Code} {Q:AX->ASt->AX->Prop} {j ax:AX} {Z Zt:ASt} (h:∀ K,bI yA c K Z=K ax Zt) (hq:Q ax Zt j):Tr (iD l rc out) c Q j Z :=Tr.a0M (Xe ho) (FI (X:=yA) dO.V dO.W (JE zL dO Bv) (Ro zL dO Bv rfl) h) (by rintro e Z' ⟨rfl,rfl⟩; exact hq)
theorem Vp {ops:Array Oper} {os:List Oper} {Z Zt:ASt} (h:∀ K:ASt->R,iy yA false ops os K Z=K Zt):jY IJ ops os (fun Z'=>Z'=Zt) Z:=by
 have h1:iy yA false ops os (fun Z'=>LV .normal Zt .normal Z') Z=some (.nilp,[]):=by rw[h]; simp[LV]
 refine AQ (fun Z' he => ?_) _ (OL (X:=yA) dO.V dO.W (JE zL dO Bv) os h1);unfold LV at he;split at he
 .rename_i h; exact h.2
 .cases he
end
abbrev sl5 (l:Nat) (s:ByteArray) (t:dw):dw:=(0,.func (.yield l) [] [])::(1,.cst (.str s))::(3,.ptr 4 0)::(4,.ptr 5 0)::(5,.ptr 6 0)::t
theorem take_drop_succ {α:Type} {l:List α} {i m:Nat} (h:i<l.length):(l.drop i).take (m+1)=l[i]::(l.drop (i+1)).take m:=by rw[yO h,RX]
theorem b5U (l:Nat) (K:AX->ASt->R) (full:List UInt8) (L:List PV) (c1 c2 c3:Int) (at_ g:Nat) (hg:at_+g<=full.length) (hf:full.length<=1000000):∀ (m i line start:Nat),i+m=at_+g->line<=i+1 ->
 QJ l K (bs full) (g:Int) (i:Int) L c1 c2 c3 (line:Int) (start:Int) (at_:Int) =
  K .normal ⟨sl5 l (bs full) [(6,.int .i64 (g:Int)),(7,.int .i64 ((at_+g:Nat):Int)),(19,.int .i64 ((at_+g:Nat):Int)),(20,.int .i64 (at_:Int)),(21,.int .i64 (g:Int)),(22,.int .i64 ((at_+g:Nat):Int)),(23,.bool false)],
   jh L c1 c2 c3 ((qm ((full.drop i).take m) i (line,start)).1:Nat) ((qm ((full.drop i).take m) i (line,start)).2:Nat) (at_:Int)⟩:=by
 have hw:i64.wrap ((at_:Int)+(g:Int))=((at_+g:Nat):Int):=by rw[wrap64 (by omega) (by omega)]; omega
 intro m;induction m with
 | zero =>
  intro i line start hi hl;rw[aHQ,hw,aT (by omega),aC,List.take_zero];have:i=at_+g:=by omega
  subst this;rfl
 | succ m ih =>
  intro i line start hi hl;have hlt:i<full.length:=by omega
  rw[aHQ,hw,aN (by omega),aG,AY (b:=full[i]) (by omega) (by rw[EG]; simp[hlt]),show ((full[i].toNat:Int)==10)=(full[i].toNat==10) from GU _ 10,bT (by omega),bT (by omega),take_drop_succ hlt,qm];by_cases hb:full[i]=10
  .rw[hb,show ((10:UInt8).toNat==10)=true from rfl,aG,aH rfl];exact ih (i+1) (line+1) (i+1) (by omega) (by omega)
  .have:(full[i].toNat==10)=false:=by rw[rU]; intro e; exact hb (UInt8.toNat_inj.1 (by rw[e]; rfl))
   rw[this,aC,aI hb];exact ih (i+1) line start (by omega) (by omega)
def Lj (b:UInt8):Nat:=if fB b.toNat then 306 else if isLet b.toNat then 304 else 252
theorem bBB (l:Nat) (K:AX->ASt->R) (full:List UInt8) (L:List PV) (c1 c2 c3 line start:Int) (at_:Nat) (h:at_<full.length) :
 bI yA a1B K ⟨sl5 l (bs full) [(8,kJ),(9,.func (.func 252) [] [])],jh L c1 c2 c3 line start (at_:Int)⟩ =
  K .normal ⟨sl5 l (bs full) [(8,kJ),(9,.func (.func (Lj full[at_])) [] []),(47,.sl false 2 RL),(48,.int .i64 (RL.length:Int)),(49,.int .i64 2),(50,.bool false)],jh L c1 c2 c3 line start (at_:Int)⟩:=by
 have hb:((bs full)[(at_:Int).toNat]? : Option UInt8)=some full[at_]:=by rw[lm,EG]; simp[h]
 rw[aLV,aLU,AY (by omega) hb,mF (c78 _),vw];unfold Lj;cases isLet full[at_].toNat
 .rw[aC,a5M,AY (by omega) hb,mF (c80 _),vw];cases fB full[at_].toNat
  .rw[aC,Rn]; rfl
  .rw[aG,Rn]; rfl
 .rw[aG,a5M,AY (by omega) hb,mF (c80 _),vw];cases fB full[at_].toNat
  .rw[aC,Rn]; rfl
  .rw[aG,Rn]; rfl
theorem TA (full:List UInt8) (i:Nat):(bs full).extract i (bs full).size=bs (full.drop i):=by rw[jR,Ny,tq (by simp)]
section
variable {l:Nat} {rc:Loop} {out:Nat->Nat}
theorem a1G (ho:1<=out l) {full:List UInt8} {L:List PV} {c1 c2 c3:Int} {i g line start:Nat} {Q:AX->ASt->AX->Prop} (hf:full.length<=1000000) (hi:i<=full.length) (hl:line<=i+1) (hg:fM false (full.drop i)=g)
 (h:Tr (iD l rc out) KY Q .normal ⟨sl5 l (bs full) [(8,kJ)],jh L c1 c2 c3 ((qm ((full.drop i).take g) i (line,start)).1:Nat) ((qm ((full.drop i).take g) i (line,start)).2:Nat) ((i+g:Nat):Int)⟩) :
 Tr (iD l rc out) ZU Q .normal ⟨sl5 l (bs full) [],jh L c1 c2 c3 (line:Int) (start:Int) (i:Int)⟩:=by
 have hgl:=Lt false (full.drop i);rw[hg,qR] at hgl;generalize hp:qm ((full.drop i).take g) i (line,start)=p at h;rw[b4X];refine Tr.seq (pc (Zt:=⟨sl5 l (bs full) [(6,.int .i64 (g:Int)),(14,.str (bs full)),(15,.int .i64 (i:Int)),(16,.str (bs (full.drop i))),(17,.int .i64 (g:Int))],jh L c1 c2 c3 line start i⟩) (ax := .normal) ho (fun K => ?_) ?_)
 .refine (b80 l K (bs full) L c1 c2 c3 line start i).trans ?_;rw[ah (by rw[jR]; simp; omega),lm,TA,mF (c59 (full.drop i) (by simp; omega)),yI,hg]
 show Tr (iD l rc out) VE Q .normal _;refine Tr.gc (l := [0,1,3,4,5,6]) (m:=7) (bQ _) rfl ?_;show Tr (iD l rc out) VE Q .normal ⟨sl5 l (bs full) [(6,.int .i64 (g:Int))],jh L c1 c2 c3 line start i⟩;rw[b4W];refine Tr.seq (pc (Zt:=⟨sl5 l (bs full) [(6,.int .i64 (g:Int)),(7,.int .i64 ((i+g:Nat):Int)),(19,.int .i64 ((i+g:Nat):Int)),(20,.int .i64 (i:Int)),(21,.int .i64 (g:Int)),(22,.int .i64 ((i+g:Nat):Int)),(23,.bool false)],jh L c1 c2 c3 (p.1:Nat) (p.2:Nat) i⟩) (ax := .normal) ho (fun K => ?_) ?_)
 .refine (b85 l K (bs full) g L c1 c2 c3 line start i).trans ?_;rw[b5U l K full L c1 c2 c3 i g (by omega) hf g i line start rfl hl,hp]
 show Tr (iD l rc out) VF Q .normal _;refine Tr.gc (l := [0,1,3,4,5,6]) (m:=7) (bQ _) rfl ?_;show Tr (iD l rc out) VF Q .normal ⟨sl5 l (bs full) [(6,.int .i64 (g:Int))],jh L c1 c2 c3 (p.1:Nat) (p.2:Nat) i⟩;rw[b4V];refine Tr.seq (pc (ax := .normal) ho (fun K=>b8A l K (bs full) g L c1 c2 c3 (p.1:Nat) (p.2:Nat) i) ?_);show Tr (iD l rc out) VG Q .normal _;refine Tr.gc (l := [0,1,3,4,5]) (m:=7) (bQ _) rfl ?_;rw[show i64.wrap ((i:Int)+(g:Int))=((i+g:Nat):Int) by rw[wrap64 (by omega) (by omega)]; omega];show Tr (iD l rc out) VG Q .normal ⟨sl5 l (bs full) [],jh L c1 c2 c3 (p.1:Nat) (p.2:Nat) ((i+g:Nat):Int)⟩;rw[b4U];refine Tr.seq (pc (ax := .normal) ho (fun K=>b8F l K (bs full) L c1 c2 c3 (p.1:Nat) (p.2:Nat) ((i+g:Nat):Int)) ?_);show Tr (iD l rc out) KY Q .normal _;exact Tr.gc (l := [0,1,3,4,5,8]) (m:=7) (bQ _) rfl h
theorem a7O {i start:Nat} (h1:start<=i) (h2:i<=1000000):i64.wrap (i64.wrap ((i:Int)-(start:Int))+1)=((i-start+1:Nat):Int):=by rw[wrap64 (n:=(i:Int)-start) (by omega) (by omega),wrap64 (by omega) (by omega)]; omega
theorem aPH (ho:1<=out l) (hrc:JM rc) {full:List UInt8} {L:List PV} {c1 c2 c3:Int} {i line start:Nat} {Q:AX->ASt->AX->Prop} (hf:full.length<=1000000) (hi:i=full.length) (hs:start<=i) (hL:L.length+1<=aV)
 (h:∀ Z,Z.h.take 4 = [some [.sl true 5 (L ++ [aZ ⟨4,[],0,(line:Int),((i-start+1:Nat):Int)⟩])],some [.int .i64 c1],some [.int .i64 c2],some [.int .i64 c3]]->Q .ret Z .normal) :
 Tr (iD l rc out) KY Q .normal ⟨sl5 l (bs full) [(8,kJ)],jh L c1 c2 c3 (line:Int) (start:Int) (i:Int)⟩:=by
 rw[aEV];refine Tr.seq ?_;rw[aEP];refine Tr.seq (pc (ax := .normal) ho (fun K=>aHS l K (bs full) L c1 c2 c3 line start i) ?_);show Tr (iD l rc out) VH _ .normal _;rw[show ((i:Int)==((bs full).size:Int))=true by rw[jR,hi]; simp,aEO];refine Tr.cond (b:=true) rfl (fun _ => ?_) (fun h=>by cases h);rw[b4A];refine Tr.seq ?_;rw[b47];refine Tr.gc (l := [0,1,3,4,5,8]) (m:=7) (bQ _) rfl ?_;refine Tr.yield (Xe ho) b46 b41 b42 b43 b45 hrc.par (by decide) (show 14<27 by decide) ?_ ?_ hrc.tm (by show lY rc.assign=true; rw[hrc.SN]; exact aJ4) (by show lY rc.body=true; rw[hrc.Sv]; exact aJ5) ?_
 .intro kp hk;simp only[iD,fQ,tZ,uC] at hk;rcases hk with rfl | rfl | rfl | rfl<;>decide
 .simp[iH,iD]
 .refine AQ (fun Z1 hZ => ?_) _ (Vp (Zt:=⟨sl5 l (bs full) [(8,kJ),(42,.func (.yield l) [] []),(43,kJ),(44,.agg [.int .i64 4,.str ⟨#[]⟩,.int .i64 0,.int .i64 0,.int .i64 0]),(45,.agg [.int .i64 4,.str ⟨#[]⟩,.int .i64 0,.int .i64 (line:Int),.int .i64 ((i-start+1:Nat):Int)])],jh L c1 c2 c3 line start i⟩) fun K => ?_)
  .subst hZ;have hr:=bBU L c1 c2 c3 line start i 4 ⟨#[]⟩ 0 line ((i-start+1:Nat):Int) 0 hL;refine ⟨.agg [.int .i64 4,.str ⟨#[]⟩,.int .i64 0,.int .i64 (line:Int),.int .i64 ((i-start+1:Nat):Int)],.int .i64 0,fun ax Z'=>if (0:Int)=0 then ax = .normal/\Z'=a2J L c1 c2 c3 line start i 4 ⟨#[]⟩ 0 line ((i-start+1:Nat):Int) 0 else ax = .ret/\Z'=a2H L c1 c2 c3 line start i 4 ⟨#[]⟩ 0 line ((i-start+1:Nat):Int) 0,rfl,rfl,rfl,bQ _,?_,?_⟩
   .show cO jZ 7 rc.assign (Aa (cO jZ 7 rc.body _) fun _ _=>False) _;rw[hrc.SN,hrc.Sv];exact hr
   .intro ax Z' hq;rw[aH rfl] at hq;obtain ⟨rfl,rfl⟩:=hq;refine ⟨rfl,?_⟩;show Tr (iD l rc out) ZW _ .normal _;rw[b49];exact Tr.ret (h _ rfl)
  .refine Eq.trans (b:=iy aHT false (opsOf Vs) (((opsOf Vs).toList.drop 0).take 4) K ⟨sl5 l (bs full) [(8,kJ)],jh L c1 c2 c3 line start i⟩) rfl ?_;refine (b8M l (fun _=>K) (bs full) L c1 c2 c3 line start i).trans ?_;unfold xg;rw[aB6,a7O hs (by omega)];rfl
end
abbrev h6 (t:Tok):List PV := [.int .i64 t.kind,.str (bs t.text),.int .i64 t.value,.int .i64 t.line,.int .i64 t.sH]
theorem bAH (l:Nat) (K:AX->ASt->R) (full:List UInt8) (L:List PV) (c1 c2 c3 line start:Int) (i:Nat) (h:i<full.length) (hf:full.length<=1000000) :
 bI yA aEQ K ⟨sl5 l (bs full) [(8,kJ),(9,.func (.func (Lj full[i])) [] [])],jh L c1 c2 c3 line start (i:Int)⟩ =
  K .normal ⟨sl5 l (bs full) [(8,kJ),(9,.func (.func (Lj full[i])) [] []),(12,.ptr 7 0),(13,.int .i64 (bz (full.drop i)).2),(62,rd (bz (full.drop i))),(63,.func (.func (Lj full[i])) [] []),(64,.str (bs full)),(65,.int .i64 (i:Int)),(66,.str (bs (full.drop i))),(67,rd (bz (full.drop i))),(68,aZ (bz (full.drop i)).1),(69,.int .i64 (bz (full.drop i)).2)],
   jh L c1 c2 c3 line start (i:Int) ++ [some (h6 (bz (full.drop i)).1)]⟩:=by
 have e:full.drop i=full[i]::full.drop (i+1):=yO h;have hc:(decide (0<=(i:Int))&&decide ((i:Int)<=((bs full).size:Int)))=true:=by rw[jR]; simp; omega
 have hl:(full.drop i).length<=1000000:=by simp; omega
 unfold Lj;cases hd:fB full[i].toNat with
 | true =>
  have hr:bz (full.drop i)=zO (full.drop i):=by rw[e]; simp[bz,hd]
  refine (b95 l K (bs full) L c1 c2 c3 line start i).trans ?_;rw[ah hc,lm,TA,mF (c81 _ hl),hr];rfl
 | false =>
  cases hw:isLet full[i].toNat with
  | true =>
   have hr:bz (full.drop i)=zi (full.drop i):=by rw[e]; simp[bz,hd,hw]
   refine (b90 l K (bs full) L c1 c2 c3 line start i).trans ?_;rw[ah hc,lm,TA,mF (c79 _ hl),hr];rfl
  | false =>
   have hr:bz (full.drop i)=BZ (full.drop i):=by rw[e]; simp[bz,hd,hw]
   refine (b8W l K (bs full) L c1 c2 c3 line start i).trans ?_;rw[ah hc,lm,TA,mF (c61 _),hr];rfl
theorem bA1 (l:Nat) (K:ASt->R) (s:ByteArray) (tk Qo:PV) (h:aF):iy yA false (opsOf uX) (((opsOf uX).toList.drop 6).take 5) K ⟨sl5 l s [(8,kJ),(12,.ptr 7 0),(13,.int .i64 0),(70,.func (.yield l) [] []),(71,kJ),(72,tk),(73,Qo),(74,.int .i64 0),(75,.bool true)],h⟩ =
 K ⟨sl5 l s [(8,kJ),(12,.ptr 7 0),(13,.int .i64 0),(70,.func (.yield l) [] []),(71,kJ),(72,tk),(73,Qo),(74,.int .i64 0),(75,.bool true),(76,.bool false),(77,.bool false),(78,.int .i64 0),(79,.bool false),(80,.bool false)],h⟩:=by kernel_rfl
theorem bA0 (l:Nat) (K:ASt->R) (s:ByteArray) (e:Int) (tk Qo:PV) (h:aF):iy yA false (opsOf uX) (((opsOf uX).toList.drop 6).take 5) K ⟨sl5 l s [(8,kJ),(12,.ptr 7 0),(13,.int .i64 e),(70,.func (.yield l) [] []),(71,kJ),(72,tk),(73,Qo),(74,.int .i64 e),(75,.bool false)],h⟩ =
 K ⟨sl5 l s [(8,kJ),(12,.ptr 7 0),(13,.int .i64 e),(70,.func (.yield l) [] []),(71,kJ),(72,tk),(73,Qo),(74,.int .i64 e),(75,.bool false),(76,.bool true),(77,.bool true),(78,.tuple []),(79,.tuple []),(80,.bool true)],h⟩:=by kernel_rfl
section
variable {l:Nat} {rc:Loop} {out:Nat->Nat}
theorem aKQ (ho:1<=out l) (hrc:JM rc) {full:List UInt8} {L:List PV} {c1 c2 c3:Int} {i line start:Nat} {Q:AX->ASt->AX->Prop} (hf:full.length<=1000000) (hi:i<full.length) (hs:start<=i) (hL:L.length+1<=aV)
 (h0:(bz (full.drop i)).2=0->∀ Z,yw [0,1,3,4,5] 7 Z=true->Z.gc [0,1,3,4,5] 7=⟨sl5 l (bs full) [],jh (L ++ [aZ ((bz (full.drop i)).1.at (line:Int) ((i-start+1:Nat):Int))]) c1 c2 c3 line start (i64.wrap ((i:Int)+((bz (full.drop i)).1.text.length:Int)))⟩->Q (.exit 1) Z .normal)
 (h1:(bz (full.drop i)).2≠0->∀ Z,Z.h.take 4 = [some [.sl true 0 []],some [.int .i64 (line:Int)],some [.int .i64 ((i-start+1:Nat):Int)],some [.int .i64 (bz (full.drop i)).2]]->Q .ret Z .ret) :
 Tr (iD l rc out) KY Q .normal ⟨sl5 l (bs full) [(8,kJ)],jh L c1 c2 c3 (line:Int) (start:Int) (i:Int)⟩:=by
 rw[aEV];refine Tr.seq ?_;rw[aEP];refine Tr.seq (pc (ax := .normal) ho (fun K=>aHS l K (bs full) L c1 c2 c3 line start i) ?_);show Tr (iD l rc out) VH _ .normal _;rw[show ((i:Int)==((bs full).size:Int))=false by rw[jR,rU]; omega,aEO];refine Tr.cond (b:=false) rfl (fun h=>by cases h) (fun _ => ?_);rw[b4B];refine Tr.skip ?_;show Tr (iD l rc out) VJ Q .normal _;refine Tr.gc (l := [0,1,3,4,5,8]) (m:=7) (bQ _) rfl ?_;show Tr (iD l rc out) VJ Q .normal ⟨sl5 l (bs full) [(8,kJ)],jh L c1 c2 c3 (line:Int) (start:Int) (i:Int)⟩;rw[b4T];refine Tr.seq (pc (ax := .normal) ho (fun K=>b8R l K (bs full) L c1 c2 c3 line start i) ?_);show Tr (iD l rc out) ZX Q .normal _;rw[b4S];refine Tr.seq (pc (ax := .normal) ho (fun K=>bBB l K full L c1 c2 c3 line start i hi) ?_);show Tr (iD l rc out) ZY Q .normal _;refine Tr.gc (l := [0,1,3,4,5,8,9]) (m:=7) (bQ _) rfl ?_;rw[b4R];refine Tr.seq (pc (ax := .normal) ho (fun K=>bAH l K full L c1 c2 c3 line start i hi hf) ?_);generalize bz (full.drop i)=te at *;obtain ⟨⟨tk,tt,tv,tl,tc⟩,e⟩:=te;show Tr (iD l rc out) ZZ Q .normal _;refine Tr.gc (l := [0,1,3,4,5,8,12,13]) (m:=8) (show 7<=8 by decide) rfl ?_;rw[b4Q];refine Tr.seq ?_;rw[b4M];refine Tr.seq ?_;rw[b4J];refine Tr.yield (Xe ho) b4I b4E b4F b4G b4H hrc.par (by decide) (show 14<27 by decide) ?_ ?_ hrc.tm (by show lY rc.assign=true; rw[hrc.SN]; exact aJ4) (by show lY rc.body=true; rw[hrc.Sv]; exact aJ5) ?_
 .intro kp hk;simp only[iD,fQ,tZ,uC] at hk;rcases hk with rfl | rfl | rfl | rfl<;>decide
 .simp[iH,iD]
 .refine AQ (fun Z1 hZ => ?_) _ (Vp (Zt:=⟨sl5 l (bs full) [(8,kJ),(12,.ptr 7 0),(13,.int .i64 e),(70,.func (.yield l) [] []),(71,kJ),(72,aZ ⟨tk,tt,tv,tl,tc⟩),(73,aZ ⟨tk,tt,tv,(line:Int),((i-start+1:Nat):Int)⟩),(74,.int .i64 e)],jh L c1 c2 c3 line start i ++ [some (h6 ⟨tk,tt,tv,tl,tc⟩)]⟩) fun K => ?_)
  .subst hZ;have hr:=bBV L c1 c2 c3 line start i tk (bs tt) tv tl tc tk (bs tt) tv line ((i-start+1:Nat):Int) e hL;refine ⟨aZ ⟨tk,tt,tv,(line:Int),((i-start+1:Nat):Int)⟩,.int .i64 e,fun ax Z'=>if e=0 then ax = .normal/\Z'=a2K L c1 c2 c3 line start i tk (bs tt) tv tl tc tk (bs tt) tv line ((i-start+1:Nat):Int) e else ax = .ret/\Z'=a2I L c1 c2 c3 line start i tk (bs tt) tv tl tc tk (bs tt) tv line ((i-start+1:Nat):Int) e,rfl,rfl,rfl,show 7<=8 by decide,?_,?_⟩
   .show cO jZ 8 rc.assign (Aa (cO jZ 8 rc.body _) fun _ _=>False) _;rw[hrc.SN,hrc.Sv];exact hr
   .intro ax Z' hq;by_cases he:e=0
    .rw[aH he] at hq;obtain ⟨rfl,rfl⟩:=hq;subst he;refine ⟨rfl,?_⟩;show jY IJ (opsOf uX) (((opsOf uX).toList.drop 6).take 5) _ _;refine AQ (fun Z3 ZM => ?_) _ (Vp fun K=>bA1 l K (bs full) _ _ _);subst ZM;show Tr (iD l rc out) VM _ .normal _;rw[aEU];refine Tr.cond (b:=false) rfl (fun h=>by cases h) (fun _ => ?_);rw[b4L];refine Tr.skip ?_;show Tr (iD l rc out) Zb Q .normal _;refine Tr.gc (l := [0,1,3,4,5,12]) (m:=8) (show 7<=8 by decide) rfl ?_;rw[b4P];refine Tr.seq (pc (ax := .normal) ho (fun K=>b9D l K (bs full) (L ++ [aZ ⟨tk,tt,tv,(line:Int),((i-start+1:Nat):Int)⟩]) c1 c2 c3 line start i tk (bs tt) tv tl tc) ?_);show Tr (iD l rc out) Zc Q .normal _;rw[b4O];refine Tr.exit (h0 rfl _ rfl ?_);rw[jR];rfl
    .rw[aI he] at hq;obtain ⟨rfl,rfl⟩:=hq;refine ⟨rfl,?_⟩;show jY IJ (opsOf uX) (((opsOf uX).toList.drop 6).take 5) _ _;refine AQ (fun Z3 ZM => ?_) _ (Vp fun K=>bA0 l K (bs full) e _ _ _);subst ZM;show Tr (iD l rc out) VM _ .ret _;rw[aEU];refine Tr.cond (b:=true) rfl (fun _ => ?_) (fun h=>by cases h);rw[b4K];exact Tr.ret (h1 he _ rfl)
  .refine Eq.trans (b:=iy aHU false (opsOf Vt) (((opsOf Vt).toList.drop 0).take 5) K ⟨sl5 l (bs full) [(8,kJ),(12,.ptr 7 0),(13,.int .i64 e)],jh L c1 c2 c3 line start i ++ [some (h6 ⟨tk,tt,tv,tl,tc⟩)]⟩) rfl ?_;refine (b98 l (fun _=>K) (bs full) e L c1 c2 c3 line start i tk (bs tt) tv tl tc).trans ?_;unfold xg;rw[aB6,a7O hs (by omega)];rfl
end
def s:Code:=Code.sub [] sZ
def s0:Code:=Code.sub [false] sZ
def s1:Code:=Code.sub [true] sZ
def s10:Code:=Code.sub [true,false] sZ
def s11:Code:=Code.sub [true,true] sZ
def aIX:Code:=Code.sub [true,true,false] sZ
def a2B:Code:=Code.sub [true,true,false,false] sZ
def a2C:Code:=Code.sub [true,true,false,true] sZ
def aIY:Code:=Code.sub [true,true,false,true,false] sZ
theorem bBI:aIY = .rangeFunc (.tmp 12) #[13,14] BQ yD:=by kernel_rfl
theorem bBJ:a2C = .block 0 aIY:=by kernel_rfl
theorem bBK:aIX = .seq a2B a2C:=by kernel_rfl
def a2D:Code:=Code.sub [true,true,true] sZ
def aIZ:Code:=Code.sub [true,true,true,false] sZ
def a2E:Code:=Code.sub [true,true,true,true] sZ
theorem bBM:a2E = .ret:=by kernel_rfl
theorem bBN:a2D = .seq aIZ a2E:=by kernel_rfl
theorem bBO:s11 = .seq aIX a2D:=by kernel_rfl
theorem bBP:s1 = .seq s10 s11:=by kernel_rfl
theorem bBR:s = .seq s0 s1:=by kernel_rfl
def s_E:AE:=SS.ae 99 27
def IY:XE:=SS.xe SS.CC SS.LL s_E 0
abbrev FP (s:ByteArray) (t:dw):dw:=(0,.str s)::(2,.ptr 0 0)::(3,.ptr 1 0)::(4,.ptr 2 0)::(5,.ptr 3 0)::t
abbrev oU (o:Bool) (z:Nat) (L:List PV) (a b c:Int):aF := [some [.sl o z L],some [.int .i64 a],some [.int .i64 b],some [.int .i64 c]]
theorem c31 (s:ByteArray):SS.CC 195 [.str s] []=some (.func (.func 249) [] [.cst (.str s)],[]):=(pg dO rfl).trans (by kernel_rfl)
theorem bBG (K:AX->ASt->R) (s:ByteArray):bI IY s0 K ⟨[(0,.str s)],[]⟩=K .normal ⟨FP s [],oU true 0 [] 0 0 0⟩:=by kernel_rfl
theorem aIW (K:AX->ASt->R) (s:ByteArray):bI IY s10 K ⟨FP s [],oU true 0 [] 0 0 0⟩=aA (decide ((65536:Int)<(s.size:Int))) (K .ret ⟨FP s [],oU true 0 [] 1 1 15⟩) (K .normal ⟨FP s [(8,.str s),(9,.int .i64 (s.size:Int)),(10,.bool false)],oU true 5 [] 0 0 0⟩):=by kernel_rfl
theorem bBH (K:AX->ASt->R) (s:ByteArray):bI IY a2B K ⟨FP s [],oU true 5 [] 0 0 0⟩=K .normal ⟨FP s [(11,.str s),(12,.func (.func 249) [] [.cst (.str s)])],oU true 5 [] 0 0 0⟩:=by
 have:bI IY a2B K ⟨FP s [],oU true 5 [] 0 0 0⟩=iI SS.CC 195 [.str s] fun r=>SS.W 31 [] r [] fun r' _=>(match PV.flat r' with | true=>K .normal ⟨FP s [(11,.str s),(12,r')],oU true 5 [] 0 0 0⟩ | false=>none):=by kernel_rfl
 refine this.trans ((mF (c31 s)).trans ?_);kernel_rfl
theorem bBL (K:AX->ASt->R) (L:List PV):bI IY aIZ K ⟨[(2,.ptr 0 0),(3,.ptr 1 0),(4,.ptr 2 0),(5,.ptr 3 0)],oU true 5 L 0 0 0⟩=K .normal ⟨[(2,.ptr 0 0),(3,.ptr 1 0),(4,.ptr 2 0),(5,.ptr 3 0),(26,.sl false 5 L)],oU false 5 L 0 0 0⟩:=by kernel_rfl
def JL (c1 c2 c3:Int) (r:Dz):AX->ASt->AX->Prop:=fun ax Z j=>ax = .ret/\match r with
 | .ok ts=>j = .normal/\Z.h.take 4=oU true 5 (ts.map aZ) c1 c2 c3
 | .err a b e=>j = .ret/\Z.h.take 4=oU true 0 [] a b e
section
variable {l:Nat} {rc:Loop} {out:Nat->Nat}
theorem walk (ho:1<=out l) (hrc:JM rc) (full:List UInt8) (c1 c2 c3:Int) (hf:full.length<=1000000) (r0:Dz):∀ (f i line start:Nat) (acc:List Tok),(full.drop i).length<f->i<=full.length->line<=i+1->start<=i->acc.length<=i->ve f (full.drop i) i line start acc=r0 ->
 ∃ k,Nh (iD l rc out) Hq (JL c1 c2 c3 r0) k .normal ⟨sl5 l (bs full) [],jh (acc.map aZ) c1 c2 c3 line start i⟩:=by
 intro f;induction f with
 | zero=>intro i line start acc h; omega
 | succ f ih =>
  intro i line start acc hlen hi hl hs ha hr;obtain ⟨g,hg⟩:∃ g,fM false (full.drop i)=g:=⟨_,rfl⟩;have hgl:=Lt false (full.drop i);rw[hg,qR] at hgl;obtain ⟨p,hp⟩:∃ p,qm ((full.drop i).take g) i (line,start)=p:=⟨_,rfl⟩;have hnl:=a0J ((full.drop i).take g) i (line,start) hs;have htl:((full.drop i).take g).length=g:=by simp; omega
  rw[hp,htl] at hnl;simp only at hnl;rw[ve] at hr;simp only[hg,hp,NC] at hr;by_cases he:i+g=full.length
  .rw[zq (by omega)] at hr;simp only at hr;refine ⟨1,?_⟩;show Tr (iD l rc out) Hq _ .normal _;rw[Zd];refine Tr.block (a1G ho hf hi hl hg ?_);rw[hp];refine aPH ho hrc hf he (by omega) (by simp[aV]; omega) fun Z hZ => ?_
   show JL c1 c2 c3 r0 .ret Z .normal;subst hr;refine ⟨rfl,rfl,?_⟩;rw[hZ]; simp
  .have hlt:i+g<full.length:=by omega
   have hd:full.drop (i+g)=full[i+g]::full.drop (i+g+1):=yO hlt;rw[hd] at hr;simp only at hr;rw[<- hd] at hr;by_cases h0:(bz (full.drop (i+g))).2=0
   .rw[aH h0,NC] at hr;have hrl:=Vy (b:=full[i+g]) (r:=full.drop (i+g+1)) (by rw[<- hd]; exact h0);rw[<- hd,qR] at hrl;simp only[qR] at hlen;obtain ⟨k,hk⟩:=ih (i+g+(bz (full.drop (i+g))).1.text.length) p.1 p.2 _ (by simp; omega) (by omega) (by omega) (by omega) (by simp; omega) hr;refine ⟨k+1,?_⟩;show Tr (iD l rc out) Hq _ .normal _;rw[Zd];refine Tr.block (a1G ho hf hi hl hg ?_);rw[hp];refine aKQ ho hrc hf hlt (by omega) (by simp[aV]; omega) (fun _ Z hgc hZ => ?_) (fun h=>absurd h0 h);show Nh (iD l rc out) Hq (JL c1 c2 c3 r0) k .normal Z;have hZ':Z.gc [0,1,3,4,5] 7=⟨sl5 l (bs full) [],jh ((acc ++ [(bz (full.drop (i+g))).1.at (p.1:Nat) ((i+g-p.2+1:Nat):Int)]).map aZ) c1 c2 c3 (p.1:Nat) (p.2:Nat) ((i+g+(bz (full.drop (i+g))).1.text.length:Nat):Int)⟩:=by rw[hZ,show i64.wrap (((i+g:Nat):Int)+((bz (full.drop (i+g))).1.text.length:Int))=((i+g+(bz (full.drop (i+g))).1.text.length:Nat):Int) by rw[wrap64 (by omega) (by omega)]; omega];simp
    cases k with
    | zero=>exact hk.elim
    | succ k =>exact Tr.gc (l := [0,1,3,4,5]) (m:=7) (bQ _) hgc (by rw[hZ']; exact hk)
   .rw[aI h0] at hr;refine ⟨1,?_⟩;show Tr (iD l rc out) Hq _ .normal _;rw[Zd];refine Tr.block (a1G ho hf hi hl hg ?_);rw[hp];refine aKQ ho hrc hf hlt (by omega) (by simp[aV]; omega) (fun h=>absurd h h0) (fun _ Z hZ => ?_);show JL c1 c2 c3 r0 .ret Z .ret;subst hr;exact ⟨rfl,rfl,hZ⟩
theorem iter (ho:1<=out l) (hrc:JM rc) (full:List UInt8) (hf:full.length<=1000000) :
 Tr (iD l rc out) gQ (JL 0 0 0 (ve (full.length+1) full 0 1 0 [])) .normal ⟨[(0,.func (.yield l) [] []),(1,.cst (.str (bs full)))],oU true 5 [] 0 0 0⟩:=by
 have e:gQ=k:=by kernel_rfl
 rw[e,b51];refine Tr.scope ?_;rw[b50];refine Tr.seq (pc (ax := .normal) (Zt:=⟨sl5 l (bs full) [],jh [] 0 0 0 1 0 0⟩) ho (fun K=>by kernel_rfl) ?_);show Tr (iD l rc out) ZR _ .normal _;rw[b4'];refine Tr.seq ?_;rw[b3U];refine Tr.label ?_;show Tr (iD l rc out) ZT _ .normal _;rw[b4Z];refine Tr.block ?_;rw[b4Y];obtain ⟨k,hk⟩:=walk ho hrc full 0 0 0 hf (ve (full.length+1) full 0 1 0 []) (full.length+1) 0 1 0 [] (by simp) (by omega) (by omega) (by omega) (by simp) rfl;refine Tr.mono (Tr.loop hk) fun ax Z j hq => ?_
 obtain ⟨rfl,hq⟩:=hq;exact ⟨rfl,hq⟩
end
def BR:Dz->PV
 | .ok ts => .tuple [.sl false 5 (ts.map aZ),.int .i64 0,.int .i64 0,.int .i64 0]
 | .err a b e => .tuple [.sl false 5 [],.int .i64 a,.int .i64 b,.int .i64 e]
def BU (l:List UInt8):Dz:=if 65536<l.length then .err 1 1 15 else ve (l.length+1) l 0 1 0 []
theorem aw {c:Code} {Z Zt:ASt} {ax:AX} (h:∀ K,bI IY c K Z=K ax Zt) {n:Nat} {out:Nat->Nat} {M:Mem} {B:aQ} {a:Act} {w:World} (hI:Inv 27 M B out Z a.tmps w) :
 c.wpIn Fence.wide n Tryz.prog (fun e a' w'=>e=ax.toExit/\a'.defers=a.defers/\∃ M' B',bZ 27 out 0 M B Z a.tmps w M' B' Zt a'.tmps w') a w:=by
 have h1:=FI (X:=IY) dO.V dO.W (JE zL dO Bv) (Ro zL dO Bv rfl) h;refine wpIn_wide.2 (rV (uN (E:=s_E) (m0:=0) (out:=out) zL c hI h1) fun e a' w' hl => ?_);obtain ⟨ax',Z',M',B',rfl,⟨rfl,rfl⟩,hd,hG⟩:=hl;exact ⟨rfl,hd,M',B',hG⟩
theorem Y9 {Z0:ASt} {t0:Array Value} {out:Nat->Nat} {M:Mem} {B:aQ} {w:World} (hheap:nV M B w []) (hfp:∀ b,fp B Z0 t0 w b=aP w [] B b) {M':Mem} {B':aQ} {s:dw} {h:aF} {a':Act} {w':World} {o:Bool} {z:Nat} {L:List PV} {a b c:Int}
 (hG:bZ 27 out 0 M B Z0 t0 w M' B' ⟨s,h⟩ a'.tmps w') (h2:bK 2 s=some (.ptr 0 0)) (h3:bK 3 s=some (.ptr 1 0)) (h4:bK 4 s=some (.ptr 2 0)) (h5:bK 5 s=some (.ptr 3 0)) (hh:h.take 4=oU o z L a b c) {r:PV} (hr:uQ (SS.gU 99).ro (.tuple [.sl false z L,.int .i64 a,.int .i64 b,.int .i64 c])=r) :
 ∃ v,(results Tryz.f99 a'.tmps).run Tryz.prog w' = .ok v w'/\∃ M' B',Post [] B out M w r [] v M' B' w':=by
 have hh0:h[0]? = some (some [.sl o z L]):=by have:=congrArg (fun l=>l[0]?) hh; simpa[gY] using this
 have hh1:h[1]? = some (some [.int .i64 a]):=by have:=congrArg (fun l=>l[1]?) hh; simpa[gY] using this
 have hh2:h[2]? = some (some [.int .i64 b]):=by have:=congrArg (fun l=>l[2]?) hh; simpa[gY] using this
 have hh3:h[3]? = some (some [.int .i64 c]):=by have:=congrArg (fun l=>l[3]?) hh; simpa[gY] using this
 have hres:Tryz.f99.results.toList = [.cell 2 130,.cell 3 3,.cell 4 3,.cell 5 31]:=by kernel_rfl
 have hret:IR Tryz.prog Tryz.f99.results.toList ([]:aF).length (.tuple [.sl false z L,.int .i64 a,.int .i64 b,.int .i64 c]) [] ⟨s,h⟩:=by
  refine ⟨bQ _,rfl,rfl,rfl,?_⟩;rw[hres];have t24:ti Tryz.prog 130=some ⟨1,24,false,[.sl true 0 []]⟩:=by kernel_rfl
  have t3:ti Tryz.prog 3=some ⟨1,8,false,[.int .i64 0]⟩:=by kernel_rfl
  have t25:ti Tryz.prog 31=some ⟨1,8,false,[.int .i64 0]⟩:=by kernel_rfl
  simp only[o8,NF,resV,t24,t3,t25,h2,h3,h4,h5,lF,hh0,hh1,hh2,hh3,rJ,qV,List.getElem?_cons_zero,o9,iJ,PV.un]
 obtain ⟨v,h6,h7⟩:=bA2 hheap hfp hG hret (SS.gU 99).ro;rw[hr] at h7;exact ⟨v,h6,_,_,h7⟩
abbrev R12 (out:Nat->Nat) (M:Mem) (B:aQ) (w:World) (r:PV):Ending->World->Prop:=fun e w'=>∃ v M' B',e = .returned v/\Post [] B out M w r [] v M' B' w'
def sI (l:Nat) (s:ByteArray):dw := [(0,.func (.yield l) [] []),(1,.cst (.str s))]
theorem b3I {l:Nat} {rc:Loop} {out:Nat->Nat} (ho:1<=out l) (hrc:JM rc) (full:List UInt8) (hf:full.length<=1000000) {n:Nat} {M:Mem} {B:aQ} {vals:Array Value} {w:World}
 (hI:Inv 86 M B out ⟨sI l (bs full),oU true 5 [] 0 0 0⟩ (vals ++ Array.replicate (86-vals.size) undef) w) (hr:w.heap[l]? = some (.loop (xE rc .normal))) (hO:Nb (iD l rc out).sO 27 7 rc.tmps M B) {R:Ending->World->Prop}
 (hR:∀ Z' j M' B' t' w',JL 0 0 0 (ve (full.length+1) full 0 1 0 []) .ret Z' j->oC l 86 out 7 M B ⟨sI l (bs full),oU true 5 [] 0 0 0⟩ (vals ++ Array.replicate (86-vals.size) undef) w M' B' Z' t' w'->w'.heap[l]? = some (.loop (xE rc j))->R (.returned (.tuple #[])) w') :
 CallsIn Fence.wide n Tryz.prog 249 vals w R:=by
 have b2J:Tryz.prog.funcs[249]? = some Tryz.f249:=by kernel_rfl
 have b2F:Tryz.f249.body=some gQ:=by kernel_rfl
 have hn:Tryz.f249.ntmps=86:=by kernel_rfl
 have hres:Tryz.f249.results = #[]:=by kernel_rfl
 refine callsIn_of_wp b2J b2F trivial ?_;rw[hn];refine qW (iter ho hrc full hf n M B { tmps:=vals ++ Array.replicate (86-vals.size) undef,defers := [] } w hI hr hO) fun e a' w' hl => ?_
 obtain ⟨ax,Z',j,M',B',rfl,hq,hd,hG,hr'⟩:=hl;obtain ⟨rfl,hq'⟩:=hq;exact ⟨hd,_,results_none hres _ _ _,hR Z' j M' B' _ w' ⟨rfl,hq'⟩ hG hr'⟩
theorem aPS (full:List UInt8):Ev Tryz.prog 99 [.str (bs full)] [] (BR (BU full)) []:=by
 refine ⟨by kernel_rfl,fun out M B w vals hmem hheap hcnt hnew hv => ?_⟩;have b2I:Tryz.prog.funcs[99]? = some Tryz.f99:=by kernel_rfl
 have b2E:Tryz.f99.body=some sZ:=by kernel_rfl
 have hn:Tryz.f99.ntmps=27:=by kernel_rfl
 have hI0:=aK6 (n:=27) (args := [.str (bs full)]) (show 1<=27 by decide) hmem hheap hcnt hnew hv;have hfp:=fun b=>aJT (B:=B) (args := [.str (bs full)]) (h := []) (vals ++ Array.replicate (27-vals.size) undef) w b
 refine callsIn_wide.1 (callsIn_of_wp_marks (n:=0) (R:=R12 out M B w (BR (BU full))) b2I b2E trivial ?_);rw[hn];have e:sZ=s:=by kernel_rfl
 rw[e,bBR];refine JA (qW (aw (fun K=>bBG K (bs full)) (a := { tmps:=vals ++ Array.replicate (27-vals.size) undef,defers := [] }) hI0) ?_);rintro e1 a1 w1 ⟨rfl,hd1,M1,B1,hG1⟩;show s1.wpIn Fence.wide 0 Tryz.prog _ a1 w1;rw[bBP];by_cases hbig:65536<full.length
 .have hT:BU full = .err 1 1 15:=aH hbig;refine JA (qW (aw (ax := .ret) (fun K=>by rw[aIW,aN (by rw[jR]; omega),aG]) hG1.inv) ?_);rintro e2 a2 w2 ⟨rfl,hd2,M2,B2,hG2⟩;show LeavesInM Fence.wide 0 Tryz.prog Tryz.f99 a2.tmps _ a2.defers .returning w2;rw[hd2,hd1];obtain ⟨v,h6,M',B',h7⟩:=Y9 hheap hfp (hG1.trans hG2) rfl rfl rfl rfl (show _=oU true 0 [] 1 1 15 from rfl) (r:=BR (BU full)) (by rw[hT]; rfl);exact ⟨v,h6,v,M',B',rfl,h7⟩
 .have hT:BU full=ve (full.length+1) full 0 1 0 []:=aI hbig;rw[hT];refine JA (qW (aw (ax := .normal) (fun K=>by rw[aIW,aT (by rw[jR]; omega),aC]) hG1.inv) ?_);rintro e2 a2 w2 ⟨rfl,hd2,M2,B2,hG2⟩;show s11.wpIn Fence.wide 0 Tryz.prog _ a2 w2;have hg3:=CZ (m0:=0) (l := [0,2,3,4,5]) (m:=4) hG2.inv (by decide) rfl;have b2C:=(hG1.trans hG2).trans hg3;rw[bBO];refine JA ?_;rw[bBK];refine JA (qW (aw (fun K=>bBH K (bs full)) hg3.inv) ?_);rintro e4 a4 w4 ⟨rfl,hd4,M4,B4,hG4⟩;show a2C.wpIn Fence.wide 0 Tryz.prog _ a4 w4;have hGa:=b2C.trans hG4;rw[bBJ];refine wpIn_block ?_;rw[bBI];have Cb:=hG4.inv;obtain ⟨bG4,bG3,h12,hr1,hr2⟩:=xG.1 (Cb.slots 12 (.func (.func 249) [] [.cst (.str (bs full))]) rfl).2.1;rw[dC] at hr1;obtain ⟨bx,us,hus,hbx,aDT⟩:=bY.1 hr2;rw[dC] at aDT;subst aDT;have hev:a4.tmps.getD 12 undef = .func (.func 249) #[] #[bx]:=by rw[h12]; congr 1<;>(apply Me; simp[*])
  refine wpIn_rangeFunc fun fn hfn => ?_
  obtain ⟨rc,V8⟩:∃ rc:Loop,rc = { state := .ready,pending:=none,fn,tmps:=a4.tmps,params := #[13,14],assign:=BQ,body:=yD,defers:=w4.heap.size }:=⟨_,rfl⟩;have hrc:JM rc:=by subst V8; exact ⟨rfl,rfl,rfl,Cb.size⟩
  have b2W:xE rc .normal=rc:=by subst V8; rfl
  obtain ⟨hIe,hfe⟩:=a7Z Cb rc;refine ⟨w4.heap.size+1,[{ target := .collected w4.heap.size,args := #[] }],wP w4 rc,{ target := .fn (.func 249) #[bx],args := #[.func (.yield (w4.heap.size+1)) #[] #[]] },wP w4 rc,249,
   #[.func (.yield (w4.heap.size+1)) #[] #[],bx],wP w4 rc,?_,?_,?_,?_,fun h=>absurd h (by decide),?_⟩
  .subst V8; exact run_enterLoop_outer _ _ _ _ _
  .simp[resolve,go_sem,hev]
  .intro f' hf'; trivial
  .simp[invoke,go_sem]
  .have ho1:1<=y9 out w4.heap.size (w4.heap.size+1):=by simp[y9]
   have V7:1<=y9 out w4.heap.size w4.heap.size:=by simp[y9]
   have hIi:=aE5 (n':=86) (sr:=sI (w4.heap.size+1) (bs full)) (tr := #[.func (.yield (w4.heap.size+1)) #[] #[],bx] ++ Array.replicate (86-(#[.func (.yield (w4.heap.size+1)) #[] #[],bx]:Array Value).size) undef) hIe (by simp) (by simp[iH,sI]) (fun kp hk=>by
    simp only[sI,fQ,tZ,uC] at hk;rcases hk with rfl | rfl
    .exact ⟨show 0<86 by decide,by rw[aMA]; exact xG.2 ⟨#[],#[],rfl,dC.2 rfl,dC.2 rfl⟩,rfl⟩
    .exact ⟨show 1<86 by decide,by rw[aMB]; exact hbx,rfl⟩)
   refine b3I (rc:=rc) (by show 1<=y9 out w4.heap.size (w4.heap.size+1)+_; omega) hrc full (by omega) hIi (by rw[b2W]; exact aPJ rc) ?_ fun Z' j M' B' t' w' hq hG hr' => ?_
   .intro kp hk;have ht:rc.tmps=a4.tmps:=by subst V8; rfl
    rw[ht];simp only[iD,fQ,tZ,uC] at hk;rcases hk with rfl | rfl | rfl | rfl
    .exact ⟨by decide,(Cb.slots 2 (.ptr 0 0) rfl).2.1,rfl,rfl⟩
    .exact ⟨by decide,(Cb.slots 3 (.ptr 1 0) rfl).2.1,rfl,rfl⟩
    .exact ⟨by decide,(Cb.slots 4 (.ptr 2 0) rfl).2.1,rfl,rfl⟩
    .exact ⟨by decide,(Cb.slots 5 (.ptr 3 0) rfl).2.1,rfl,rfl⟩
   .have ZE:xZ 4 (Z'.h.take 4)=true:=by obtain ⟨_,hq⟩:=hq;split at hq<;>(rw[hq.2]; rfl)
    have hback:=aL6 (m0:=4) hIe ho1 (Zr:=⟨sI (w4.heap.size+1) (bs full),oU true 5 [] 0 0 0⟩) rfl (fun kp hk=>by simp only[sI,fQ,tZ,uC] at hk;rcases hk with rfl | rfl<;>rfl) rfl (hG.weak (by decide)) ZE;have hend:=run_endLoop (P:=Tryz.prog) hr' (by unfold xE; cases j.jump<;>simp);have hput:=a1I (m0:=4) hback.inv ho1 hr' { xE rc j with state := .exhausted };have hall:=hback.trans hput;have hDs:w'.heap[w4.heap.size]? = some (.deferred (some [])):=by have:=(hback.blk w4.heap.size (by rw[TS]; omega) (by omega) (OV hIe V7)).1;rw[this]; exact aPI rc
    have hD:(w'.putObj (w4.heap.size+1) (.loop { xE rc j with state := .exhausted })).heap[w4.heap.size]? = some (.deferred (some [])):=(World.putObj_heap_other (by omega)).trans hDs;refine ⟨_,_,hend,?_⟩;obtain ⟨_,hq⟩:=hq;cases hsc:ve (full.length+1) full 0 1 0 [] with
    | ok ts =>
     rw[hsc] at hq;obtain ⟨rfl,hq⟩:=hq;show a2D.wpIn Fence.wide 0 Tryz.prog _ _ _;rw[hq] at hall;have hg5:=CZ (m0:=0) (l := [2,3,4,5]) (m:=4) hall.inv (by decide) rfl;rw[bBN];refine JA (qW (aw (a := { tmps:=a4.tmps,defers := { target := .collected w4.heap.size,args := #[] }::a4.defers }) (fun K=>bBL K (ts.map aZ)) hg5.inv) ?_);rintro e6 a6 w6 ⟨rfl,hd6,M6,B6,hG6⟩;show a2E.wpIn Fence.wide 0 Tryz.prog _ a6 w6;rw[bBM];refine wpIn_ret ?_;show LeavesInM Fence.wide 0 Tryz.prog Tryz.f99 a6.tmps _ a6.defers .returning w6;rw[hd6,hd4,hd2,hd1];have Z8:=hg5.trans hG6;have hD6:w6.heap[w4.heap.size]? = some (.deferred (some [])):=by have hlt:w4.heap.size<(w'.putObj (w4.heap.size+1) (.loop { xE rc .normal with state := .exhausted })).heap.size:=(rH.1 hD).1;rw[(Z8.fr.blk w4.heap.size hlt (OV hall.inv V7)).1]; exact hD
     refine ⟨by simp,.inl ⟨w4.heap.size,_,rfl,run_takeDeferred hD6,?_⟩⟩;have hsh:=aI7 (m0:=0) Z8.inv V7 hD6 (.deferred none);have htot:=((hall.weak (show 0<=4 by decide)).trans Z8.gl);have hfin:=hGa.trans (aFU Cb htot hsh);obtain ⟨v,h6,M',B',h7⟩:=Y9 hheap hfp hfin rfl rfl rfl rfl (show _=oU false 5 (ts.map aZ) 0 0 0 from rfl) (r:=BR (.ok ts)) rfl;exact ⟨v,h6,v,M',B',rfl,h7⟩
    | err a b e =>rw[hsc] at hq;obtain ⟨rfl,hq⟩:=hq;refine wpIn_ret ?_;show LeavesInM Fence.wide 0 Tryz.prog Tryz.f99 a4.tmps _ ({ target := .collected w4.heap.size,args := #[] }::a4.defers) .returning _;rw[hd4,hd2,hd1];refine ⟨by simp,.inl ⟨w4.heap.size,_,rfl,run_takeDeferred hD,?_⟩⟩;rw[hq] at hall;have hsh:=aI7 (m0:=0) hall.inv V7 hD (.deferred none);have hfin:=hGa.trans (aFU Cb (hall.weak (show 0<=4 by decide)) hsh);obtain ⟨v,h6,M',B',h7⟩:=Y9 hheap hfp hfin rfl rfl rfl rfl (show _=oU true 0 [] a b e from rfl) (r:=BR (.err a b e)) rfl;exact ⟨v,h6,v,M',B',rfl,h7⟩
end Go.Proofs.YtcdceiloganlnaaGreatDoor
namespace Go.Proofs
open Go.Shelf
def Tryz.lays105_ren:Go.Shelf.Ren:=⟨fun|105=>30|212=>119|99=>120|165=>51|166=>52|170=>121|169=>53|263=>211|264=>212|206=>213|240=>162|241=>163|276=>238|277=>239|n=>n,fun|46=>175|109=>176|72=>119|76=>123|51=>260|146=>261|53=>263|148=>264|70=>116|37=>117|75=>122|127=>223|164=>276|80=>125|n=>n,id⟩
theorem Tryz.lays105 : Lays.n105 Tryz.prog Tryz.lays105_ren:=by constructor<;>first|kernel_rfl|(intro w;kernel_rfl)
def Tryz.lays144_ren:Go.Shelf.Ren:=⟨fun|144=>41|143=>157|219=>236|217=>293|225=>294|224=>295|267=>296|266=>331|314=>332|n=>n,fun|46=>175|146=>261|51=>260|n=>n,fun|1=>0|n=>n⟩
theorem Tryz.lays144 : Lays.n144 Tryz.prog Tryz.lays144_ren:=by constructor<;>first|kernel_rfl|(intro w;kernel_rfl)
end Go.Proofs
namespace Go.Proofs.YtcdceiloganlnaaGreatDoor
open Go.RowKit Go.Shelf
theorem Tf {P:Program} {g:FuncId} {args:List PV} {r:PV} {v:Value} (hc:callable P g=true) (hr:∀ M B,Rep M B r v) (ho:r.own=false)
 (h:∀ (M:Mem) (w:World) (vals:Array Value),sV M w->ag M [] args vals.toList->Calls P g vals w fun e w'=>e = .returned v/\Below w.heap.size w w'):Ev P g args [] r []:=by
 refine ⟨hc,fun out M B w vals hmem hheap hcnt hnew hv => ?_⟩;have hB:B = []:=iU (by have:=hheap.1; simpa using this.symm);subst hB;refine (h M w vals hmem hv).mono ?_;rintro e w' ⟨rfl,hb⟩;have hz:∀ w b,aP w [] [] b=0:=fun w b=>by simp[aP]
 refine ⟨v,M,[],rfl,fun b o u e => ?_,cu.refl _ _,⟨hb.os,hb.tape,hb.output,hb.size,fun b hlt _=>⟨hb.block b hlt,fun _=>rfl⟩⟩,⟨rfl,fun i cs hi=>by simp at hi⟩,hr M [],dn ho,fun b hb' => ?_,fun b => ?_,fun b hb' => ?_⟩
 .obtain ⟨h1,h2⟩:=hmem b o u e;have:=rQ _ _ h1;exact ⟨(G9 (hb.block b this)).trans h1,h2⟩
 .rw[hz,bu ho]; omega
 .have:=hcnt b; rw[hz] at this; rw[hz,bu ho]; omega
 .have:=hnew b (iC hb.size hb'); rw[hz] at this; rw[hz,bu ho]; omega
def strsOf:List PV->Option (List ByteArray)
 | []=>some []
 | .str s::l=>(strsOf l).map (s :: ·)
 | _=>none
theorem aKF:∀ {es:List PV} {xs:List ByteArray},strsOf es=some xs->es=xs.map .str
 | [],xs,h=>by simp[strsOf] at h; subst h; rfl
 | p::es,xs,h=>by
  unfold strsOf at h;split at h
  .rename_i e; cases e
  .rename_i s l e;injection e with e1 e2; subst e1; subst e2
   cases hl:strsOf es with
   | none=>simp[hl] at h
   | some ys=>simp[hl] at h; subst h; rw[aKF hl]; rfl
  .cases h
def Cf (xs:List ByteArray) (sep:ByteArray):List UInt8:=Lib.join (xs.map (·.data.toList)) sep.data.toList
theorem a98 (xs:List ByteArray):PV.flats (xs.map .str)=true:=by
 induction xs with
 | nil=>rfl
 | cons x xs ih=>rw[o8]; simp[PV.flats,PV.flat,ih]
theorem Wq {M:Mem} {B:aQ} {p q:PV} {vals:Array Value} (hv:ag M B [p,q] vals.toList):∃ u v,vals = #[u,v]/\Rep M B p u/\Rep M B q v:=by obtain ⟨u1,us,e1,r1,hv⟩:=bY.1 hv;obtain ⟨u2,us,rfl,r2,hv⟩:=bY.1 hv;rw[dC] at hv; subst hv;exact ⟨u1,u2,by rw[<- lN]; exact e1,r1,r2⟩
theorem aPY (o:Bool) (xs:List ByteArray) (sep:ByteArray) (h1:(Cf xs sep).length<=140737488355328) (h2:xs.length<=140737488355328):Ev Tryz.prog 15 [.sl o 1 (xs.map .str),.str sep] [] (.str ⟨(Cf xs sep).toArray⟩) []:=by
 refine Tf (v := .string ⟨(Cf xs sep).toArray⟩) (by kernel_rfl) (fun _ _=>gJ.2 rfl) rfl fun M w vals hmem hv => ?_
 obtain ⟨u,v,rfl,hu,hv⟩:=Wq hv;rw[gJ.1 hv];obtain ⟨A,cap,rfl,hle,_,_,hA⟩:=iF.1 hu;rw[bW] at hle ⊢;by_cases hx:xs = []
 .subst hx;refine (b3R A cap sep w).mono ?_;rintro e w' ⟨rfl,rfl⟩;exact ⟨rfl,Below.refl _ _⟩
 .obtain ⟨b,off,rfl,hloc⟩:=hA (by simpa using hx);have hcells:∀ (j:Nat) x,xs[j]? = some x->w.cell? ⟨b,off+j,none⟩=some (.string x):=fun j x hj=>by have hl:=BC hloc (show (xs.map PV.str)[j]? = some (.str x) by rw[gV,hj]; rfl);obtain ⟨u,hu1,hu2⟩:=(zG rfl).1 hl;rw[Rf] at hu1;rw[gJ.1 hu2] at hu1;exact (hmem _ _ _ hu1).1
  have hbk:b<w.heap.size:=by
   match xs,hx with
   | x::r,_=>exact rQ _ _ (hcells 0 x rfl)
  exact b3S b off cap xs sep w hcells hbk h2 hle h1
theorem bA3 {h:aF} {B:aQ} {out:Nat->Nat} {M:Mem} {w:World} {r:PV} {v:Value} (hmem:sV M w) (hheap:nV M B w h) (hcnt:∀ b,aP w h B b+out b<=1) (hnew:∀ b,w.heap.size<=b->aP w h B b+out b=0)
 (hr:Rep M B r v) (ho:r.own=false):Post h B out M w r h v M B w :=
 ⟨hmem,cu.refl _ _,Fr.refl _ _ _,hheap,hr,dn ho,fun b _=>by rw[bu ho]; exact bQ _,fun b=>by rw[bu ho]; exact hcnt b,fun b hb=>by rw[bu ho]; exact hnew b hb⟩
theorem aHB {M:Mem} {B:aQ} {w:World} {o:Option (List PV)} (hheap:nV M B w [o]):∃ c,B = [c]:=by
 have:=hheap.1;match B,this with
 | [c],_=>exact ⟨c,rfl⟩
theorem aK' {M:Mem} {B:aQ} {p:PV} {vals:Array Value} (hv:ag M B [p] vals.toList):∃ u,vals = #[u]/\Rep M B p u:=by obtain ⟨u1,us,e1,r1,hv⟩:=bY.1 hv;rw[dC] at hv; subst hv;exact ⟨u1,by rw[<- lN]; exact e1,r1⟩
theorem aPW (l:List UInt8):Ev Tryz.prog 162 [.ptr 0 0] [some [.bf 119 0,.bg l]] (.tuple []) [some [.bf 119 0,.bg l]]:=by
 refine ⟨by kernel_rfl,fun out M B w vals hmem hheap hcnt hnew hv => ?_⟩;obtain ⟨c,rfl⟩:=aHB hheap;obtain ⟨u,rfl,hu⟩:=aK' hv;obtain ⟨c',⟨hc',_⟩,rfl⟩:=tC.1 hu;simp at hc'; subst hc';obtain ⟨c',hc',vs,ty,o1,⟨o2,o2'⟩,o3,o4,o5⟩:=hheap.2 0 _ rfl;simp at hc'; subst hc';obtain ⟨v0,hv0,hr0,_,_⟩:=o4 0 _ rfl;obtain ⟨c2,hc2,hp⟩:=DN.1 hr0;simp at hc2; subst hc2;obtain ⟨hc3,hp⟩:=hp.2 (by decide);have hs2:vs.size=2:=by rw[o2,hc3]
 have ht2:ty=119+1:=by rw[o2',hc3]
 subst ht2;obtain ⟨ty,hty,o1⟩:=BP o1 (by decide);have ht2:ty=119:=by injection hty with h; exact h.symm
 have hcell:w.cell? ⟨c.1,0,none⟩=some v0:=by simp[World.cell?,o1,hv0]
 rcases hp with rfl | rfl
 .refine (aNU c.1 w hcell (by simp[World.shape?,o1,hs2,ht2]) (by simp[World.frozen?,o1])).mono ?_;rintro e w' ⟨rfl,rfl⟩;have hI:Inv 0 M [c] out ⟨jr 0 [],[some [.bf 119 0,.bg l]]⟩ (#[] ++ Array.replicate (0-0) undef) w:=aK6 (vals := #[]) (args := []) (by simp) hmem hheap hcnt hnew (dC.2 rfl);have hfp:=fun (t:Array Value) (w:World) b=>aJT (B := [c]) (args := []) (h := [some [.bf 119 0,.bg l]]) t w b
  obtain ⟨g1,g2,g3,_,_⟩:=hI.setCell (i:=0) (j:=0) (p := .bf 119 0) (v := .pointer (some ⟨c.1,0,none⟩)) rfl rfl (by rw[hc3]; decide) (by simp) (DN.2 ⟨c,rfl,(fun h=>absurd h (by decide)),fun _=>⟨hc3,.inr rfl⟩⟩) (dn rfl) rfl (fun b=>by rw[hfp,bu rfl]; exact hcnt b) (fun b _=>bu rfl _ _);have k1:Inv 0 M [c] out ⟨jr 0 [],[some [.bf 119 0,.bg l]]⟩ (#[] ++ Array.replicate (0-0) undef) (w.setCell ⟨c.1,0,none⟩ (.pointer (some ⟨c.1,0,none⟩))):=g1;have k2:∀ b,fp [c] ⟨jr 0 [],[some [.bf 119 0,.bg l]]⟩ (#[] ++ Array.replicate (0-0) undef) (w.setCell ⟨c.1,0,none⟩ (.pointer (some ⟨c.1,0,none⟩))) b<=fp [c] ⟨jr 0 [],[some [.bf 119 0,.bg l]]⟩ (#[] ++ Array.replicate (0-0) undef) w b+bC (.bf 119 0) (.pointer (some ⟨c.1,0,none⟩)) b:=g2;refine ⟨_,M,[c],rfl,⟨k1.mem,cu.refl _ _,g3.mono fun b hb h0=>by rw[hfp]; exact h0,k1.heap,pW.2 ⟨_,rfl,dC.2 rfl⟩,dn rfl,fun b hb => ?_,fun b => ?_,fun b hb => ?_⟩⟩
  .have h:=k2 b;rw[hfp,hfp,bu rfl] at h;rw[bu rfl]; exact h
  .have h:=k1.cnt b;rw[hfp] at h;rw[bu rfl]; exact h
  .have h:=k1.new b hb;rw[hfp] at h;rw[bu rfl]; exact h
 .refine (aNW c.1 w hcell).mono ?_;rintro e w' ⟨rfl,rfl⟩;exact ⟨_,M,[c],rfl,bA3 hmem hheap hcnt hnew (pW.2 ⟨_,rfl,dC.2 rfl⟩) rfl⟩
theorem bDA {c:Nat×Nat×TypeId} {out:Nat->Nat} {M:Mem} {w w2:World} {l:List UInt8} {v:Value} {vs:Array Value} (hmem:sV M w) (hheap:nV M [c] w [some [.bf 119 0,.bg l]]) (hcnt:∀ b,aP w [some [.bf 119 0,.bg l]] [c] b+out b<=1) (hnew:∀ b,w.heap.size<=b->aP w [some [.bf 119 0,.bg l]] [c] b+out b=0)
 {ty:TypeId} (hrow:w.heap[c.1]? = some (.cells vs ty (0,0))) (hv:vs[1]? = some v) (h1:∀ x,x<w.heap.size->bC (.bg l) v x=0->w2.heap[x]? = w.heap[x]?) (h2:∀ b o u,w.cell? ⟨b,o,none⟩=some u->w2.cell? ⟨b,o,none⟩=some u)
 (hos:w2.os=w.os) (htape:w2.tape=w.tape) (hout:w2.output=w.output) (hsize:w.heap.size<=w2.heap.size) :
 Post [some [.bf 119 0,.bg l]] [c] out M w (.str ⟨l.toArray⟩) [some [.bf 119 0,.sl false 1 (kH l)]] (.string ⟨l.toArray⟩) M [c] w2:=by
 obtain ⟨c',hc',vs',ty',o1,o2,o3,o4,o5⟩:=hheap.2 0 _ rfl;simp at hc'; subst hc';rw[zV hrow] at o1;injection o1 with o1; injection o1 with e1 e2; subst e1; subst e2
 have hcl:fV w c.1=vs.toList:=by simp[fV,zV hrow]
 have hvl:vs.toList[1]? = some v:=by simpa using hv
 have hown:∀ b,(if c.1=b then 1 else 0)+bC (.bg l) v b<=aP w [some [.bf 119 0,.bg l]] [c] b:=fun b=>by have g1:=jJ (w:=w) (h := [some [.bf 119 0,.bg l]]) (B := [c]) (i:=0) b rfl rfl;have g2:=ug (cs := [.bf 119 0,.bg l]) (vs:=vs.toList) (j:=1) b rfl hvl;rw[hcl] at g1; omega
 have hc0:bC (.bg l) v c.1=0:=by have:=hown c.1; have:=hcnt c.1;rw[aH rfl] at *; omega
 have hlt:c.1<w.heap.size:=(rH.1 hrow).1;have hrow2:w2.heap[c.1]? = some (.cells vs ty (0,0)):=(h1 c.1 hlt hc0).trans hrow;have hown2:∀ b,aP w2 [some [.bf 119 0,.sl false 1 (kH l)]] [c] b<=if c.1=b then 1 else 0:=fun b=>by
  simp only[aP];have:∀ vl,dA [.bf 119 0,.sl false 1 (kH l)] vl b=0:=fun vl=>by
   match vl with
   | []=>rfl
   | [x]=>simp[dA,bC,PV.own]
   | x::y::r=>simp[dA,bC,PV.own]
  rw[this]; omega
 refine ⟨fun b o u e => ?_,cu.refl _ _,⟨hos,htape,hout,hsize,fun b hb h0=>⟨h1 b hb (by have:=hown b; omega),fun _=>rfl⟩⟩,⟨rfl,fun i cs hi => ?_⟩,gJ.2 rfl,dn rfl,fun b hb => ?_,fun b => ?_,fun b hb => ?_⟩
 .obtain ⟨g1,g2⟩:=hmem b o u e;exact ⟨h2 b o u g1,g2⟩
 .match i,hi with
  | 0,hi =>
   simp at hi; subst hi;refine ⟨c,rfl,vs,ty+1,zV hrow2,o2,by simpa using o3,fun j p hj => ?_,o5⟩;match j,hj with
   | 0,hj =>simp at hj; subst hj;obtain ⟨u,a1,a2,a3,a4⟩:=o4 0 _ rfl;exact ⟨u,a1,a2,dn rfl,a4⟩
   | 1,hj =>simp at hj; subst hj;obtain ⟨u,a1,a2,a3,a4⟩:=o4 1 _ rfl;exact ⟨u,a1,QW.2 a2,dn rfl,a4⟩
   | j+2,hj=>simp at hj
  | i+1,hi=>simp at hi
 .rw[bu rfl]; have:=hown2 b; have:=hown b; omega
 .rw[bu rfl]; have:=hown2 b; have:=hown b; have:=hcnt b; omega
 .rw[bu rfl]; have:=hown2 b; have:=hown b; have:=hnew b (iC hsize hb); omega
section
variable {P:Program} {ρ:Ren}
set_option maxHeartbeats 2000000 in
set_option maxRecDepth 100000 in
theorem a2V (L:Lays.n169 P ρ) (X:Builder.Extra P ρ) (T:TypeId) (b n cap:Nat) (A q:Option Addr) (p:Value) (r:ByteArray) (w w2:World) (hbk:w.heap[b]? = some (.cells #[p,.slice A n cap] T (0,0)))
 (hSD:(Builtin.unsafeSliceData_ #[(ρ.t 37)] (ρ.t 127) #[.slice A n cap]).run P w.drew = .ok (.pointer q) w.drew)
 (hUS:(Builtin.unsafeString_ #[(ρ.t 127),(ρ.t 3)] (ρ.t 9) #[.pointer q,.int .i64 n]).run P w.drew = .ok (.string r) w2) :
 Calls P (ρ.f 169) #[.pointer (some ⟨b,0,none⟩)] w fun e w'=>e = .returned (.string r)/\w'=w2:=by
 have c1:w.drew.cell? ⟨b,1,none⟩=some (.slice A n cap):=by have:w.drew.heap[b]? = some (.cells #[p,.slice A n cap] T (0,0)):=hbk;rw[Lib.cell_of_heap this]; rfl
 have mixed:=L.mixed;have t72:=L.t72; have a72:=L.a72; have z72:=L.z72; have v72:=L.v72; have u72:=dm L.t72;have t70:=L.t70; have a70:=L.a70; have z70:=L.z70; have v70:=L.v70; have u70:=dm L.t70;have t37:=L.t37; have a37:=L.a37; have z37:=L.z37; have v37:=L.v37; have u37:=dm L.t37;have t127:=L.t127; have a127:=L.a127; have z127:=L.z127; have v127:=L.v127; have u127:=dm L.t127;have t3:=L.t3; have a3:=L.a3; have z3:=L.z3; have v3:=L.v3; have u3:=dm L.t3;have t9:=L.t9; have a9:=L.a9; have z9:=L.z9; have v9:=L.v9; have u9:=dm L.t9;have t5:=X.t5; have a5:=X.a5; have z5:=X.z5; have v5:=X.v5; have u5:=dm X.t5;go_enter L.f169,Body.n169_ntmps ρ
 go_wp2
 go_region_o
 all_goals (go_wp2; go_ret; exact ⟨rfl,rfl⟩)
set_option maxHeartbeats 2000000 in
set_option maxRecDepth 100000 in
theorem bDB (L:Lays.n169 P ρ) (X:Builder.Extra P ρ) (T:TypeId) (b g:Nat) (cur:Array Value) (p:Value) (w:World) (hbk:w.heap[b]? = some (.cells #[p,.slice (some ⟨g,0,none⟩) 0 0] T (0,0))) (hg:w.heap[g]? = some (.cells cur (ρ.t 5) (0,0))) :
 Calls P (ρ.f 169) #[.pointer (some ⟨b,0,none⟩)] w fun e w'=>e = .returned (.string ⟨#[]⟩)/\∃ u:World,u.heap=w.heap/\u.os=w.os/\u.tape=w.tape/\u.output=w.output/\w'=u.alloc (.view ⟨g,0,none⟩ (ρ.t 5)):=by
 have hUS:=Any.unsafeString_none L X;have hlt:b<w.heap.size:=(rH.1 hbk).1;have c1:w.drew.cell? ⟨b,1,none⟩=some (.slice (some ⟨g,0,none⟩) 0 0):=by have:w.drew.heap[b]? = some (.cells #[p,.slice (some ⟨g,0,none⟩) 0 0] T (0,0)):=hbk;rw[Lib.cell_of_heap this]; rfl
 have hSD:(Builtin.unsafeSliceData_ #[(ρ.t 37)] (ρ.t 127) #[.slice (some ⟨g,0,none⟩) 0 0]).run P w.drew = .ok (.pointer (some ⟨w.drew.heap.size,0,none⟩)) (w.drew.alloc (.view ⟨g,0,none⟩ (ρ.t 5))) :=Lib.run_unsafeSliceData_zero w.drew _ _ (ρ.t 5) L.t127 ⟨g,0,none⟩ 0 ((ρ.t 5),cur.size) (by have hg':w.drew.heap[g]? = some (.cells cur (ρ.t 5) (0,0)):=hg; simp[World.shape?,hg']);have c2:(w.drew.alloc (.view ⟨g,0,none⟩ (ρ.t 5))).cell? ⟨b,1,none⟩=some (.slice (some ⟨g,0,none⟩) 0 0):=by have:(w.drew.alloc (.view ⟨g,0,none⟩ (ρ.t 5))).heap[b]? = _:=(Lib.alloc_old w.drew _ b hlt).trans hbk;rw[Lib.cell_of_heap this]; rfl
 have c3:(w.alloc (.view ⟨g,0,none⟩ (ρ.t 5))).drew.cell? ⟨b,1,none⟩=some (.slice (some ⟨g,0,none⟩) 0 0):=c2;have c0:w.cell? ⟨b,1,none⟩=some (.slice (some ⟨g,0,none⟩) 0 0):=c1;have mixed:=L.mixed;have t72:=L.t72; have a72:=L.a72; have z72:=L.z72; have v72:=L.v72; have u72:=dm L.t72;have t70:=L.t70; have a70:=L.a70; have z70:=L.z70; have v70:=L.v70; have u70:=dm L.t70;have t37:=L.t37; have a37:=L.a37; have z37:=L.z37; have v37:=L.v37; have u37:=dm L.t37;have t127:=L.t127; have a127:=L.a127; have z127:=L.z127; have v127:=L.v127; have u127:=dm L.t127;have t3:=L.t3; have a3:=L.a3; have z3:=L.z3; have v3:=L.v3; have u3:=dm L.t3;have t9:=L.t9; have a9:=L.a9; have z9:=L.z9; have v9:=L.v9; have u9:=dm L.t9;have t5:=X.t5; have a5:=X.a5; have z5:=X.z5; have v5:=X.v5; have u5:=dm X.t5;go_enter L.f169,Body.n169_ntmps ρ
 go_wp2
 go_region_o
 all_goals (go_wp2; go_ret; exact ⟨rfl,w.drew,rfl,rfl,rfl,rfl,rfl⟩)
end
theorem a9B {w:World} {b g n:Nat} (hb:b≠g):(w.drew.freeze ⟨g,0,none⟩ n).heap[b]? = w.heap[b]? := by
 unfold World.freeze;split
 .rfl
 .show (w.heap.modify g _)[b]? = _;rw[Array.getElem?_modify,aI (Ne.symm hb)]
theorem aQQ {w:World} {g n:Nat} {cs:Array Value} {ty:TypeId} (h:w.heap[g]? = some (.cells cs ty (0,0))) (hn:n≠0):(w.drew.freeze ⟨g,0,none⟩ n).heap[g]? = some (.cells cs ty (0,0+n)):=by unfold World.freeze;rw[aI hn];show (w.heap.modify g _)[g]? = _;rw[Array.getElem?_modify,aH rfl,h];rfl
theorem aPU (l:List UInt8):Ev Tryz.prog 53 [.ptr 0 0] [some [.bf 119 0,.bg l]] (.str ⟨l.toArray⟩) [some [.bf 119 0,.sl false 1 (kH l)]]:=by
 refine ⟨by kernel_rfl,fun out M B w vals hmem hheap hcnt hnew hv => ?_⟩;obtain ⟨c,rfl⟩:=aHB hheap;obtain ⟨u,rfl,hu⟩:=aK' hv;obtain ⟨c',⟨hc',_⟩,rfl⟩:=tC.1 hu;simp at hc'; subst hc';obtain ⟨c',hc',vs,ty,o1,⟨o2,o2'⟩,o3,o4,o5⟩:=hheap.2 0 _ rfl;simp at hc'; subst hc';obtain ⟨v0,hv0,hr0,_,_⟩:=o4 0 _ rfl;obtain ⟨c2,hc2,hp⟩:=DN.1 hr0;simp at hc2; subst hc2;obtain ⟨hc3,_⟩:=hp.2 (by decide);obtain ⟨v1,hv1,hr1,ht1,_⟩:=o4 1 _ rfl;have hs2:vs.size=2:=by rw[o2,hc3]
 have ht2:ty=119+1:=by rw[o2',hc3]
 subst ht2;obtain ⟨ty,hty,o1⟩:=BP o1 (by decide);have ht2:ty=119:=by injection hty with h; exact h.symm
 subst ht2;have hvs:vs = #[v0,v1]:=by
  apply Me;match hl:vs.toList,(show vs.toList.length=2 by simpa using hs2) with
  | [x,y],_ =>
   have e0:vs.toList[0]? = some v0:=by simpa using hv0
   have e1:vs.toList[1]? = some v1:=by simpa using hv1
   rw[hl] at e0 e1;simp at e0 e1;rw[e0,e1]
 have hrow:w.heap[c.1]? = some (.cells #[v0,v1] 119 (0,0)):=by rw[<- hvs]; exact o1
 obtain ⟨A,cap,rfl,hle,hA⟩:=WA.1 hr1;obtain ⟨t1,t2⟩:=ht1.t l A _ cap rfl rfl;have hkeep:∀ b o u,w.cell? ⟨b,o,none⟩=some u->w.drew.cell? ⟨b,o,none⟩=some u:=fun _ _ _ h=>h
 have hpost:=fun (w2:World) h1 h2 a1 a2 a3 a4=>bDA (w2:=w2) hmem hheap hcnt hnew o1 hv1 h1 h2 a1 a2 a3 a4
 cases A with
 | none =>have hc0:=t1 rfl;subst hc0;have hl:l = []:=iU (by omega);subst hl;refine (a2V Tryz.lays169 GX 119 c.1 0 0 none none v0 ⟨#[]⟩ w w.drew hrow rfl (Any.unsafeString_none Tryz.lays169 GX _ _)).mono ?_;rintro e w' ⟨rfl,rfl⟩;exact ⟨_,M,[c],rfl,hpost w.drew (fun _ _ _=>rfl) hkeep rfl rfl rfl (bQ _)⟩
 | some a =>
  obtain ⟨cs,g1,g2,g3,g4,g5,g6⟩:=t2 a rfl;obtain ⟨g,off,sp⟩:=a;simp only at g1 g4 g5 g6;subst g5; subst g6;by_cases hl:l = []
  .subst hl;by_cases hc0:cap=0
   .subst hc0;refine (bDB Tryz.lays169 GX 119 c.1 g cs v0 w hrow g1).mono ?_;rintro e w' ⟨rfl,x,x1,x2,x3,x4,rfl⟩;have hold:∀ b,b<w.heap.size->(x.alloc (.view ⟨g,0,none⟩ (Tryz.lays169_ren.t 5))).heap[b]? = w.heap[b]? := fun b hb=>by rw[<- x1]; exact Dq _ _ b (by rw[x1]; exact hb)
    refine ⟨_,M,[c],rfl,hpost _ (fun b hb _=>hold b hb) (fun b o u h => ?_) x2 x3 x4 (by rw[World.size_alloc,x1]; omega)⟩;exact (G9 (hold b (rQ _ _ h))).trans h
   .refine (a2V Tryz.lays169 GX 119 c.1 0 cap (some ⟨g,0,none⟩) (some ⟨g,0,none⟩) v0 ⟨#[]⟩ w w.drew hrow (Lib.run_unsafeSliceData_row _ _ _ _ _ _ hc0) (Any.unsafeString_none Tryz.lays169 GX _ _)).mono ?_;rintro e w' ⟨rfl,rfl⟩;exact ⟨_,M,[c],rfl,hpost w.drew (fun _ _ _=>rfl) hkeep rfl rfl rfl (bQ _)⟩
  .have hlen:l.length≠0:=fun h=>hl (iU h)
   obtain ⟨b',off',e1,hcells⟩:=hA hl;cases e1;refine (a2V Tryz.lays169 GX 119 c.1 l.length cap (some ⟨g,0,none⟩) (some ⟨g,0,none⟩) v0 ⟨l.toArray⟩ w (w.drew.freeze ⟨g,0,none⟩ l.length) hrow (Lib.run_unsafeSliceData_row _ _ _ _ _ _ (by omega)) ?_).mono ?_
   .refine Lib.run_unsafeString_row w.drew _ _ _ (Tryz.lays169_ren.t 5) (Lays.n169.t127 Tryz.lays169) (Builder.Extra.cellsByte GX) g cs.size (by have hg':w.drew.heap[g]? = some (.cells cs EI (0,0)):=g1; simp[World.shape?,hg']; rfl) l hl (by omega) (by unfold maxLen at g3; omega) ?_;intro j x hx;have h:=(hmem g (0+j) _ (hcells j x hx)).1;rw[jW] at h;have e:(⟨g,0,none⟩:Addr).add j=⟨g,j,none⟩:=by
     unfold Addr.add;split
     .rename_i h0; rw[h0]
     .rw[jW]
    rw[e]; exact h
   .rintro e w' ⟨rfl,rfl⟩;refine ⟨_,M,[c],rfl,hpost _ (fun b hb h0 => ?_) (fun b o u h => ?_) ?_ ?_ ?_ ?_⟩
    .have hbg:b≠g:=fun e=>by subst e; simp[bC,PV.own] at h0
     exact a9B hbg
    .by_cases hbg:b=g
     .subst hbg;unfold World.cell? at h ⊢;simp only[aQQ g1 hlen];simp only[g1] at h; exact h
     .exact (G9 (a9B hbg)).trans h
    .unfold World.freeze; rw[aI hlen]; rfl
    .unfold World.freeze; rw[aI hlen]; rfl
    .unfold World.freeze; rw[aI hlen]; rfl
    .unfold World.freeze; rw[aI hlen];show w.heap.size<=(w.heap.modify g _).size;simp
theorem aQN (l:List (List UInt8)):PV.flats (DY l)=true:=by
 have:DY l=(l.map fun x:List UInt8=>(⟨x.toArray⟩:ByteArray)).map PV.str:=by simp[DY,Function.comp_def]
 rw[this]; exact a98 _
def NZ:Int:=4611686018427387904
def CS:Cal:=fun g args h=>match g,args,h with
 | 99,[.str s],h=>some (BR (BU s.data.toList),h)
 | 35,[.int .i64 n],h=>(match decide (0<=n)&&decide (n<NZ) with | true=>some (.str ⟨(Lib.decDigits n.toNat).toArray⟩,h) | false=>none)
 | 293,[.str s,.int .u8 c],h=>some (.int .i64 (Lib.indexByte s.data.toList c.toNat.toUInt8),h)
 | 30,[.str s,.int .i64 n],h=>(match decide (0<=n)&&(Nat.ble n.toNat 9223372036854775807&&Nat.ble (s.size*n.toNat) 140737488355328) with
  | true=>some (.str ⟨(Lib.repeatL s.data.toList n.toNat).toArray⟩,h)
  | false=>none)
 | 41,[.str s,.str x],h=>(match Nat.ble s.size 1073741824 with
  | true=>some (.bool (Lib.contains s.data.toList x.data.toList),h)
  | false=>none)
 | 15,[.sl _ 1 es,.str sep],h=>(match strsOf es with
  | some xs=>(match Nat.ble (Cf xs sep).length 140737488355328&&Nat.ble xs.length 140737488355328 with
   | true=>some (.str ⟨(Cf xs sep).toArray⟩,h)
   | false=>none)
  | none=>none)
 | 53,[.ptr 0 0],[some [.bf 119 0,.bg l]]=>some (.str ⟨l.toArray⟩,[some [.bf 119 0,.sl false 1 (kH l)]])
 | 162,[.ptr 0 0],[some [.bf 119 0,.bg l]]=>some (.tuple [],[some [.bf 119 0,.bg l]])
 | 39,[.str s,.str ⟨⟨[c]⟩⟩],h=>(match Nat.ble s.size 1073741824 with
  | true=>some (.sl false 1 (DY (zZ c s.data.toList)),h)
  | false=>none)
 | _,_,_=>none
theorem bA4 {M:Mem} {w:World} (hm:sV M w):Dv Tryz.prog Tryz.laysM171_ren w:=fun i hi=>by
 refine (hm _ i _ (M.g _ _ _ ?_)).1;show yQ M.m (Tryz.laysM171_ren.g 17) i=_;have e:(a2Z M.m).lookup (Tryz.laysM171_ren.g 17)=some (Lib.pow10Tab.map (Value.int .u64)):=by kernel_rfl
 unfold yQ;rw[e,uB,gV];unfold Lib.pow10Tab;simp[hi]
theorem aPX (n:Int) (h0:0<=n) (h1:n<NZ) (h:aF):Ev Tryz.prog 35 [.int .i64 n] h (.str ⟨(Lib.decDigits n.toNat).toArray⟩) h:=by
 unfold NZ at h1;have ev:∀ {M:Mem} {B:aQ} {vals:Array Value},ag M B [.int .i64 n] vals.toList->vals = #[.int .i64 n]:=fun hv=>by obtain ⟨u1,us,e1,r1,hv⟩:=bY.1 hv;rw[dC] at hv; subst hv;rw[dF] at r1; subst r1;rw[<- lN]; exact e1
 by_cases hs:n<100
 .refine YD (v := .string ⟨(Lib.decDigits n.toNat).toArray⟩) (by kernel_rfl) (fun _ _=>gJ.2 rfl) rfl (fun M B w vals hv => ?_) h;rw[ev hv];have:=b3M n.toNat (by omega) w;rwa [Iz h0] at this
 .refine (Tf (v := .string ⟨(Lib.decDigits n.toNat).toArray⟩) (by kernel_rfl) (fun _ _=>gJ.2 rfl) rfl fun M w vals hm hv => ?_).frame' rfl rfl h;rw[ev hv];have:=b3L Tryz.laysM171 n.toNat (by omega) (by omega) w (bA4 hm);rwa [Iz h0] at this
theorem bER {M:Mem} {B:aQ} {p q:PV} {vals:Array Value} (hv:ag M B [p,q] vals.toList):∃ u v,vals = #[u,v]/\Rep M B p u/\Rep M B q v:=Wq hv
theorem aN1:Builder.Extra Tryz.prog Tryz.lays105_ren where
 sizeBuilder:=by kernel_rfl
 liesBuilder:=by kernel_rfl
 t5:=Tryz.underlying5
 a5:=Tryz.isAgg5
 z5:=Tryz.sizeOf5
 v5:=Tryz.zeroValue5
 infoByte:=by kernel_rfl
 cellsByte:=by kernel_rfl
 sizeByte:=by kernel_rfl
 neB5:=by decide
theorem bAQ (s:ByteArray) (c:Nat) (w:World) (hc:c<=9223372036854775807) (hlen:s.size*c<=140737488355328) :
 Calls Tryz.prog 30 #[.string s,.int .i64 c] w fun e w'=>e = .returned (.string ⟨(Lib.repeatL s.data.toList c).toArray⟩)/\Below w.heap.size w w' :=
 Any.strings_Repeat Tryz.lays105 aN1 s c w hc hlen
theorem aP' (s:ByteArray) (n:Int) (h0:0<=n) (h1:n.toNat<=9223372036854775807) (h2:s.size*n.toNat<=140737488355328):Ev Tryz.prog 30 [.str s,.int .i64 n] [] (.str ⟨(Lib.repeatL s.data.toList n.toNat).toArray⟩) []:=by
 refine Tf (v := .string ⟨(Lib.repeatL s.data.toList n.toNat).toArray⟩) (by kernel_rfl) (fun _ _=>gJ.2 rfl) rfl fun M w vals hmem hv => ?_
 obtain ⟨u,v,rfl,hu,hv⟩:=Wq hv;rw[gJ.1 hu,dF.1 hv];have:=bAQ s n.toNat w h1 h2;rwa [Iz h0] at this
theorem b6H {M:Mem} {w:World} (hm:sV M w):w.cell? ⟨Tryz.lays144_ren.g 1,0,none⟩=some (.int .i64 M.m):=by refine (hm _ 0 _ (M.g _ _ _ ?_)).1;show yQ M.m (Tryz.lays144_ren.g 1) 0=_;rfl
theorem aPV (s x:ByteArray) (h1:s.size<4294967281) (h:aF):Ev Tryz.prog 41 [.str s,.str x] h (.bool (Lib.contains s.data.toList x.data.toList)) h:=by refine (Tf (v := .bool (Lib.contains s.data.toList x.data.toList)) (by kernel_rfl) (fun _ _=>iZ.2 rfl) rfl fun M w vals hmem hv => ?_).frame' rfl rfl h;obtain ⟨u,v,rfl,hu,hv⟩:=Wq hv;rw[gJ.1 hu,gJ.1 hv];refine (Any.strings_Contains Tryz.lays144 s x M.m w h1 (b6H hmem)).mono ?_;rintro e w' ⟨rfl,rfl⟩;exact ⟨rfl,Below.refl _ _⟩
theorem aQO (ts:List Tok):PV.flats (ts.map aZ)=true:=by
 induction ts with
 | nil=>rfl
 | cons t ts ih=>rw[o8]; simp[PV.flats,PV.flat,aZ,ih]
theorem aQM (r:Dz):(BR r).flat=true:=by
 cases r with
 | ok ts=>simp[BR,PV.flat,PV.flats,aQO]
 | err a b e=>rfl
theorem aLF:lU Tryz.prog CS:=by
 intro g args h r h' hv;unfold CS at hv;split at hv
 .rename_i h s;cases hv;have:=aPS s.data.toList;have e:bs s.data.toList=s:=by cases s; simp[bs]
  rw[e] at this;exact this.frame' (aQM _) rfl _
 .rename_i h n;split at hv
  .rename_i hc;cases hv;simp only[aY,gu] at hc;exact aPX n hc.1 hc.2 _
  .cases hv
 .rename_i h s c;cases hv;refine YD (v := .int .i64 (Lib.indexByte s.data.toList c.toNat.toUInt8)) (by kernel_rfl) (fun _ _=>dF.2 rfl) rfl (fun M B w vals hv => ?_) _;obtain ⟨u,v,rfl,hu,hv⟩:=bER hv;rw[gJ.1 hu,dF.1 hv];exact Any.stringslite_IndexByte Tryz.lays217 s c w
 .rename_i h s n;split at hv
  .rename_i hc;cases hv;simp only[aY,gu] at hc;exact (aP' s n hc.1 (J9 hc.2.1) (J9 hc.2.2)).frame' rfl rfl _
  .cases hv
 .rename_i h s x;split at hv
  .rename_i hc;cases hv;exact aPV s x (by have:=J9 hc; omega) _
  .cases hv
 .rename_i h o es sep;split at hv
  .rename_i xs hx;split at hv
   .rename_i hc;cases hv;simp only[aY] at hc;rw[aKF hx];exact (aPY o xs sep (J9 hc.1) (J9 hc.2)).frame' rfl (by simp[PV.flats,PV.flat,a98]) _
   .cases hv
  .cases hv
 .rename_i l;cases hv;exact aPU l
 .rename_i l;cases hv;exact aPW l
 .rename_i h s c;split at hv
  .rename_i hc;cases hv;have hc:=J9 hc;exact (aQ0 s c (by omega)).frame' (by simp[PV.flat,aQN]) rfl _
  .cases hv
 .cases hv
end Go.Proofs.YtcdceiloganlnaaGreatDoor
namespace Go.Proofs.YtcdceiloganlnaaGreatDoor
end Go.Proofs.YtcdceiloganlnaaGreatDoor
namespace Go.Proofs.YtcdceiloganlnaaGreatDoor.W
open Go.RowKit
set_option maxRecDepth 1000000
section
abbrev S0:List Sh := [.S,.L false 5,.L false 9,.L false 3,.L false 3,.L false 2,.L false 3]
abbrev A0 (u:Sh.V S0):PV := .agg [.str u.1,.sl false 5 u.2.1,.sl false 9 u.2.2.1,.sl false 3 u.2.2.2.1,.sl false 3 u.2.2.2.2.1,.sl false 2 u.2.2.2.2.2.1,.sl false 3 u.2.2.2.2.2.2.1]
abbrev S1:List Sh := [.I .i64,.I .i64,.I .i64,.L false 4]
abbrev A1 (u:Sh.V S1):PV := .agg [.int .i64 u.1,.int .i64 u.2.1,.int .i64 u.2.2.1,.sl false 4 u.2.2.2.1]
abbrev S4:List Sh := [.S,.B,.B,.B,.I .i64]
abbrev A4 (u:Sh.V S4):PV := .agg [.str u.1,.bool u.2.1,.bool u.2.2.1,.bool u.2.2.2.1,.int .i64 u.2.2.2.2.1]
abbrev O4 (u:Sh.V S4):Option (List PV):=some [.str u.1,.bool u.2.1,.bool u.2.2.1,.bool u.2.2.2.1,.int .i64 u.2.2.2.2.1]
abbrev S5:List Sh := [.S,.L false 1,.L false 1,.L false 1,.I .i64,.I .i64,.L false 1,.L false 4,.L false 8]
abbrev A5 (u:Sh.V S5):PV := .agg [.str u.1,.sl false 1 u.2.1,.sl false 1 u.2.2.1,.sl false 1 u.2.2.2.1,.int .i64 u.2.2.2.2.1,.int .i64 u.2.2.2.2.2.1,.sl false 1 u.2.2.2.2.2.2.1,.sl false 4 u.2.2.2.2.2.2.2.1,.sl false 8 u.2.2.2.2.2.2.2.2.1]
abbrev O5 (u:Sh.V S5):Option (List PV):=some [.str u.1,.sl false 1 u.2.1,.sl false 1 u.2.2.1,.sl false 1 u.2.2.2.1,.int .i64 u.2.2.2.2.1,.int .i64 u.2.2.2.2.2.1,.sl false 1 u.2.2.2.2.2.2.1,.sl false 4 u.2.2.2.2.2.2.2.1,.sl false 8 u.2.2.2.2.2.2.2.2.1]
abbrev S6:List Sh := [.L false 1,.I .i64,.I .i64,.L false 1,.L false 4,.L false 8]
abbrev A6 (u:Sh.V S6):PV := .agg [.sl false 1 u.1,.int .i64 u.2.1,.int .i64 u.2.2.1,.sl false 1 u.2.2.2.1,.sl false 4 u.2.2.2.2.1,.sl false 8 u.2.2.2.2.2.1]
abbrev O6 (u:Sh.V S6):Option (List PV):=some [.sl false 1 u.1,.int .i64 u.2.1,.int .i64 u.2.2.1,.sl false 1 u.2.2.2.1,.sl false 4 u.2.2.2.2.1,.sl false 8 u.2.2.2.2.2.1]
abbrev S7:List Sh := [.S,.I .i64,.I .i64,.I .i64]
abbrev A7 (u:Sh.V S7):PV := .agg [.str u.1,.int .i64 u.2.1,.int .i64 u.2.2.1,.int .i64 u.2.2.2.1]
abbrev O7 (u:Sh.V S7):Option (List PV):=some [.str u.1,.int .i64 u.2.1,.int .i64 u.2.2.1,.int .i64 u.2.2.2.1]
abbrev S8:List Sh := [.S,.S,.L false 1]
abbrev A8 (u:Sh.V S8):PV := .agg [.str u.1,.str u.2.1,.sl false 1 u.2.2.1]
abbrev O8 (u:Sh.V S8):Option (List PV):=some [.str u.1,.str u.2.1,.sl false 1 u.2.2.1]
abbrev S9:List Sh := [.I .i64,.I .i64,.I .i64,.I .i64,.I .i64,.I .i64,.L false 4,.L false 5]
abbrev A9 (u:Sh.V S9):PV := .agg [.int .i64 u.1,.int .i64 u.2.1,.int .i64 u.2.2.1,.int .i64 u.2.2.2.1,.int .i64 u.2.2.2.2.1,.int .i64 u.2.2.2.2.2.1,.sl false 4 u.2.2.2.2.2.2.1,.sl false 5 u.2.2.2.2.2.2.2.1]
abbrev O9 (u:Sh.V S9):Option (List PV):=some [.int .i64 u.1,.int .i64 u.2.1,.int .i64 u.2.2.1,.int .i64 u.2.2.2.1,.int .i64 u.2.2.2.2.1,.int .i64 u.2.2.2.2.2.1,.sl false 4 u.2.2.2.2.2.2.1,.sl false 5 u.2.2.2.2.2.2.2.1]
abbrev jk:List Sh := [.S,.L false 2]
abbrev XB (u:Sh.V jk):PV := .agg [.str u.1,.sl false 2 u.2.1]
abbrev uy (u:Sh.V jk):Option (List PV):=some [.str u.1,.sl false 2 u.2.1]
abbrev pF:List Sh := [.I .i64,.I .i64,.I .i64,.I .i64,.L false 4]
abbrev A11 (u:Sh.V pF):PV := .agg [.int .i64 u.1,.int .i64 u.2.1,.int .i64 u.2.2.1,.int .i64 u.2.2.2.1,.sl false 4 u.2.2.2.2.1]
abbrev O11 (u:Sh.V pF):Option (List PV):=some [.int .i64 u.1,.int .i64 u.2.1,.int .i64 u.2.2.1,.int .i64 u.2.2.2.1,.sl false 4 u.2.2.2.2.1]
abbrev xQ:List Sh := [.S,.S]
abbrev Ri (u:Sh.V xQ):PV := .agg [.str u.1,.str u.2.1]
abbrev ik:List Sh := [.S,.L false 2,.I .i64]
abbrev GH (u:Sh.V ik):PV := .agg [.str u.1,.sl false 2 u.2.1,.int .i64 u.2.2.1]
abbrev rW (u:Sh.V ik):Option (List PV):=some [.str u.1,.sl false 2 u.2.1,.int .i64 u.2.2.1]
abbrev yS:List Sh := [.S,.I .i64]
abbrev A14 (u:Sh.V yS):PV := .agg [.str u.1,.int .i64 u.2.1]
abbrev fU:List Sh := [.L true 5]
abbrev aB (u:Sh.V fU):Option (List PV):=some [.sl true 5 u.1]
abbrev bM:List Sh := [.L false 5,.I .i64,.I .i64,.I .i64]
abbrev uG (u:Sh.V bM):Option (List PV):=some [.sl false 5 u.1,.int .i64 u.2.1,.int .i64 u.2.2.1,.int .i64 u.2.2.2.1]
abbrev JO:List Sh := [.pt 1 0,.I .i64,.L false 1]
abbrev yT:List Sh := [.I .i64]
abbrev eP (u:Sh.V yT):Option (List PV):=some [.int .i64 u.1]
abbrev S20:List Sh := [.I .u8,.I .u8,.I .u8]
abbrev S21:List Sh := [.I .u8,.I .u8,.I .u8,.I .u8]
abbrev Ru:List Sh := [.S,.L true 2]
abbrev Rw:List Sh := [.S,.L true 5,.L true 9,.L true 3,.L true 3,.L true 2,.L true 3]
abbrev xR:List Sh := [.S,.S,.L true 1]
abbrev S26:List Sh := [.I .u8,.I .u8,.I .u8,.I .u8,.L false 2,.L false 3,.L false 1]
abbrev S27:List Sh := [.I .i8,.I .i8,.I .i8]
abbrev xU:List Sh := [.pt 1 0,.I .i64,.L true 1]
abbrev jl:List Sh := [.I .i64,.S,.I .i64,.I .i64,.I .i64]
abbrev jf (u:Sh.V jl):PV := .agg [.int .i64 u.1,.str u.2.1,.int .i64 u.2.2.1,.int .i64 u.2.2.2.1,.int .i64 u.2.2.2.2.1]
abbrev O30 (u:Sh.V jl):Option (List PV):=some [.int .i64 u.1,.str u.2.1,.int .i64 u.2.2.1,.int .i64 u.2.2.2.1,.int .i64 u.2.2.2.2.1]
abbrev vC:List Sh := [.pt 2 0,.I .i64,.L true 1]
abbrev S33:List Sh := [.M]
abbrev O33 (u:Sh.V S33):Option (List PV):=some [.mp u.1]
abbrev S34:List Sh := [.L false 3,.L false 3]
abbrev A34 (u:Sh.V S34):PV := .agg [.sl false 3 u.1,.sl false 3 u.2.1]
abbrev S35:List Sh := [.B,.B,.B]
abbrev A35 (u:Sh.V S35):PV := .agg [.bool u.1,.bool u.2.1,.bool u.2.2.1]
abbrev lT:List Sh := [.pt 0 0]
abbrev qY:List Sh := [.bd 119 0,.Y]
abbrev lu (u:Sh.V qY):Option (List PV):=some [.bf 119 0,.bg u.1]
abbrev Dw:List Sh := [.B]
abbrev uz (u:Sh.V Dw):Option (List PV):=some [.bool u.1]
abbrev JP:List Sh := [.bd 119 1,.Y]
abbrev yR (u:Sh.V JP):Option (List PV):=some [.bf 119 1,.bg u.1]
abbrev Nc:List Sh := [.bd 119 0,.L false 1]
abbrev S41:List Sh := [.pt 2 0,.S,.L true 5,.L true 9,.L true 3,.L true 3,.L true 2,.L true 3,.L false 1,.I .i64]
abbrev rX:List Sh := [.L true 1]
abbrev iG (u:Sh.V rX):Option (List PV):=some [.sl true 1 u.1]
abbrev oD:List Sh := [.pt 1 0]
abbrev xW:List Sh := [.S,.L true 1,.L true 1,.L true 1,.I .i64,.I .i64,.L true 1,.L true 4,.L true 8]
abbrev Rx:List Sh := [.I .i64,.I .i64,.I .i64,.I .i64,.I .i64,.I .i64,.L false 4,.L true 5]
abbrev S49:List Sh := [.pt 4 0,.I .i64,.L true 1]
abbrev vF:List Sh := [.pt 2 0]
abbrev kQ:List Sh := [.pt 3 0]
abbrev S53:List Sh := [.pt 2 0,.S,.L true 5,.L true 9,.L true 3,.L true 3,.L true 2,.L true 3,.L true 1,.I .i64]
abbrev S56:List Sh := [.I .i8,.I .i8]
abbrev JQ:List Sh := [.pt 2 0,.I .i64,.L false 1]
abbrev S60:List Sh := [.I .i64,.I .i64,.B]
abbrev Dx:List Sh := [.pt 0 0,.S,.L true 5,.L true 9,.L true 3,.L true 3,.L true 2,.L true 3,.L true 1,.I .i64]
abbrev S62:List Sh := [.pt 0 0,.S,.L true 5,.L true 9,.L false 3,.L true 3,.L true 2,.L true 3,.L true 1,.I .i64]
abbrev S63:List Sh := [.pt 0 0,.S,.L true 5,.L true 9,.L true 3,.L false 3,.L true 2,.L true 3,.L true 1,.I .i64]
abbrev AO:List Sh := [.pt 3 0,.I .i64,.L true 1]
abbrev Dy:List Sh := [.pt 0 0,.I .i64,.L true 1]
def vvT (g:TypeId):Option RS:=tl g 97 (tl g 31 (tl g 11 (tl g 5 (tl g 3 (te g 2 (some (.ti .i64)) none) (tl g 4 (te g 3 (some (.ti .i64)) none) (te g 4 (some (.tb)) none))) (tl g 9 (tl g 6 (te g 5 (some (.ti .u8)) none) (te g 6 (some (.ti .u8)) none)) (tl g 10 (te g 9 (some (.ts)) none) (te g 10 (some (.ts)) none)))) (tl g 23 (tl g 21 (tl g 12 (te g 11 (some (.ts)) none) (te g 12 (some (.ti .u64)) none)) (tl g 22 (te g 21 (some (.ti .i32)) none) (te g 22 (some (.tl false 5)) none))) (tl g 25 (tl g 24 (te g 23 (some (.tl false 9)) none) (te g 24 (some (.tl false 3)) none)) (tl g 26 (te g 25 (some (.tl false 2)) none) (te g 26 (some (.tl false 3)) none))))) (tl g 65 (tl g 59 (tl g 40 (tl g 34 (te g 31 (some (.ti .i64)) none) (te g 34 (some (.tl false 1)) none)) (tl g 42 (te g 40 (some (.tl false 4)) none) (te g 42 (some (.g S1)) none))) (tl g 61 (tl g 60 (te g 59 (some (.tl false 7)) none) (te g 60 (some (.tl false 3)) none)) (tl g 62 (te g 61 (some (.tl false 4)) none) (te g 62 (some (.tl false 3)) none)))) (tl g 85 (tl g 83 (tl g 82 (te g 65 (some (.ti .u16)) none) (te g 82 (some (.g S4)) none)) (tl g 84 (te g 83 (some (.tl false 1)) none) (te g 84 (some (.tl false 4)) none))) (tl g 94 (tl g 89 (te g 85 (some (.tl false 8)) none) (te g 89 (some (.g S5)) none)) (tl g 95 (te g 94 (some (.g S7)) none) (te g 95 (some (.tl false 5)) none)))))) (tl g 186 (tl g 112 (tl g 105 (tl g 102 (tl g 99 (te g 97 (some (.g S9)) none) (te g 99 (some (.g pF)) none)) (tl g 103 (te g 102 (some (.g S8)) none) (te g 103 (some (.tl false 2)) none))) (tl g 108 (tl g 107 (te g 105 (some (.g jk)) none) (te g 107 (some (.g xQ)) none)) (tl g 110 (te g 108 (some (.tl false 2)) none) (te g 110 (some (.g ik)) none)))) (tl g 130 (tl g 122 (tl g 117 (te g 112 (some (.g yS)) none) (te g 117 (some (.tl false 1)) none)) (tl g 126 (te g 122 (some (.z (.ni))) none) (te g 126 (some (.tl false 1)) none))) (tl g 180 (tl g 175 (te g 130 (some (.tl false 5)) none) (te g 175 (some (.ti .u64)) none)) (tl g 182 (te g 180 (some (.tl false 2)) none) (te g 182 (some (.g S26)) none))))) (tl g 263 (tl g 192 (tl g 188 (tl g 187 (te g 186 (some (.g S20)) none) (te g 187 (some (.g S21)) none)) (tl g 189 (te g 188 (some (.ti .i8)) none) (te g 189 (some (.g S27)) none))) (tl g 236 (tl g 219 (te g 192 (some (.g jl)) none) (te g 219 (some (.tl false 1)) none)) (tl g 260 (te g 236 (some (.tl false 1)) none) (te g 260 (some (.ti .u32)) none)))) (tl g 354 (tl g 300 (tl g 288 (te g 263 (some (.ti .u64)) none) (te g 288 (some (.tl false 2)) none)) (tl g 330 (te g 300 (some (.g S56)) none) (te g 330 (some (.g S60)) none))) (tl g 357 (tl g 355 (te g 354 (some (.ti .u8)) none) (te g 355 (some (.ti .u8)) none)) (tl g 358 (te g 357 (some (.ti .i32)) none) (te g 358 (some (.ti .i32)) none))))))
def w0:jX:=([],.tb,[])
def w1:jX:=([],.ti .i64,[])
def w2:jX:=([],.ts,[])
def w3:jX:=([],.tl false 1,[])
def w4:jX:=([],.t [(false,[.S]),(false,[.I .i64])],[])
def w5:jX:=([],.t [(true,S1),(false,[.I .i64]),(false,[.I .i64]),(false,[.I .i64])],[])
def w6:jX:=([],.tl true 1,[])
def w7:jX:=([],.t [(true,S0),(false,[.I .i64]),(false,[.I .i64]),(false,[.I .i64])],[])
def w8:jX:=([.c fU],.t [],[.c fU])
def w9:jX:=([.c JO,.c bM],.g S1,[.c JO,.c bM])
def w10:jX:=([.c xU,.c bM],.g S1,[.c xU,.c bM])
def w11:jX:=([.c bM],.t [],[.c bM])
def w14:jX:=([],.g S1,[])
def w15:jX:=([],.tl false 5,[])
def w16:jX:=([.c bM],.g jl,[.c bM])
def Ws:jX:=([.c vC,.c Rw,.c bM],.t [],[.c vC,.c Rw,.c bM])
def w20:jX:=([.c S7],.tb,[.c S7])
def w21:jX:=([.c bM],.tb,[.c bM])
def w26:jX:=([.z oD,.c fU],.t [],[.z oD,.c fU])
def w28:jX:=([.z vF,.z kQ,.c S49,.c Rw,.c bM],.t [],[.z vF,.z kQ,.c S49,.c Rw,.c bM])
def w30:jX:=([.c vC,.c xW,.c bM],.t [],[.c vC,.c xW,.c bM])
def w31:jX:=([.c xU,.c bM],.ti .i64,[.c xU,.c bM])
def w32:jX:=([.z oD,.c JQ,.c bM],.g S1,[.z oD,.c JQ,.c bM])
def w33:jX:=([.z oD,.c vC,.c bM],.g S1,[.z oD,.c vC,.c bM])
def wwT (g:FuncId):List jX:=tl g 128 (tl g 70 (tl g 45 (tl g 25 (tl g 17 (tl g 14 (tl g 12 (te g 3 [w0] []) (tl g 13 (te g 12 [w0] []) (te g 13 [w0] []))) (tl g 15 (te g 14 [w1] []) (tl g 16 (te g 15 [w2] []) (te g 16 [w3] [])))) (tl g 21 (tl g 18 (te g 17 [w4] []) (tl g 19 (te g 18 [w1] []) (te g 19 [w2] []))) (tl g 23 (te g 21 [w5] []) (tl g 24 (te g 23 [w0] []) (te g 24 [w0] []))))) (tl g 35 (tl g 28 (tl g 26 (te g 25 [w0] []) (tl g 27 (te g 26 [w0] []) (te g 27 [([],.t [(false,[.I .i64]),(false,[.I .i64])],[])] []))) (tl g 29 (te g 28 [w4] []) (tl g 30 (te g 29 [w6] []) (te g 30 [w2] [])))) (tl g 42 (tl g 36 (te g 35 [w2] []) (tl g 41 (te g 36 [w7] []) (te g 41 [w0] []))) (tl g 43 (te g 42 [w0] []) (tl g 44 (te g 43 [w0] []) (te g 44 [w0] [])))))) (tl g 58 (tl g 52 (tl g 48 (tl g 46 (te g 45 [([],.tl true 3,[])] []) (tl g 47 (te g 46 [w1] []) (te g 47 [w1] []))) (tl g 49 (te g 48 [w1] []) (tl g 50 (te g 49 [w1] []) (te g 50 [w1] [])))) (tl g 55 (tl g 53 (te g 52 [([.c qY],.t [(false,[.I .i64]),(false,[.ni])],[.c qY])] []) (tl g 54 (te g 53 [([.c qY],.ts,[.c Nc])] []) (te g 54 [w3] []))) (tl g 56 (te g 55 [w3] []) (tl g 57 (te g 56 [w6] []) (te g 57 [w8] []))))) (tl g 64 (tl g 61 (tl g 59 (te g 58 [w4] []) (tl g 60 (te g 59 [w3] []) (te g 60 [w2] []))) (tl g 62 (te g 61 [w3] []) (tl g 63 (te g 62 [w2] []) (te g 63 [w3] [])))) (tl g 67 (tl g 65 (te g 64 [w2] []) (tl g 66 (te g 65 [w3] []) (te g 66 [w2] []))) (tl g 68 (te g 67 [w1] []) (tl g 69 (te g 68 [w1] []) (te g 69 [w1] []))))))) (tl g 94 (tl g 82 (tl g 76 (tl g 73 (tl g 71 (te g 70 [w1] []) (tl g 72 (te g 71 [w1] []) (te g 72 [w1] []))) (tl g 74 (te g 73 [w1] []) (tl g 75 (te g 74 [w1] []) (te g 75 [w1] [])))) (tl g 79 (tl g 77 (te g 76 [w1] []) (tl g 78 (te g 77 [w1] []) (te g 78 [w1] []))) (tl g 80 (te g 79 [w1] []) (tl g 81 (te g 80 [w1] []) (te g 81 [w1] []))))) (tl g 88 (tl g 85 (tl g 83 (te g 82 [w1] []) (tl g 84 (te g 83 [w1] []) (te g 84 [w0] []))) (tl g 86 (te g 85 [w1] []) (tl g 87 (te g 86 [w1] []) (te g 87 [w1] [])))) (tl g 91 (tl g 89 (te g 88 [w1] []) (tl g 90 (te g 89 [w1] []) (te g 90 [w1] []))) (tl g 92 (te g 91 [w0] []) (tl g 93 (te g 92 [w0] []) (te g 93 [w1] [])))))) (tl g 107 (tl g 100 (tl g 97 (tl g 95 (te g 94 [w1] []) (tl g 96 (te g 95 [w1] []) (te g 96 [w1] []))) (tl g 98 (te g 97 [w1] []) (tl g 99 (te g 98 [w1] []) (te g 99 [([],.t [(false,[.L false 5]),(false,[.I .i64]),(false,[.I .i64]),(false,[.I .i64])],[])] [])))) (tl g 103 (tl g 101 (te g 100 [([],.z (.pt 0 0),[.c bM])] []) (tl g 102 (te g 101 [w6] []) (te g 102 [w9,w10] []))) (tl g 104 (te g 103 [w11] []) (tl g 106 (te g 104 [([.c bM],.t [(false,[.I .i64]),(false,[.I .i64]),(false,[.I .i64])],[.c bM])] []) (te g 106 [w0] []))))) (tl g 113 (tl g 110 (tl g 108 (te g 107 [w0] []) (tl g 109 (te g 108 [w1] []) (te g 109 [([.c yT],.ti .i64,[.c yT])] []))) (tl g 111 (te g 110 [w1] []) (tl g 112 (te g 111 [w0] []) (te g 112 [w0] [])))) (tl g 116 (tl g 114 (te g 113 [w8] []) (tl g 115 (te g 114 [w4] []) (te g 115 [w1] []))) (tl g 117 (te g 116 [w14] []) (tl g 118 (te g 117 [w14] []) (te g 118 [w2] [])))))))) (tl g 204 (tl g 176 (tl g 164 (tl g 139 (tl g 131 (tl g 129 (te g 128 [w11] []) (tl g 130 (te g 129 [([.c bM],.ts,[.c bM])] []) (te g 130 [([.c xU,.c bM],.tb,[.c xU,.c bM])] []))) (tl g 132 (te g 131 [w16] []) (tl g 133 (te g 132 [Ws] []) (te g 133 [w11] [])))) (tl g 160 (tl g 158 (te g 139 [w0] []) (tl g 159 (te g 158 [w1] []) (te g 159 [w1] []))) (tl g 161 (te g 160 [w1] []) (tl g 162 (te g 161 [w1] []) (te g 162 [([.c qY],.t [],[.c qY])] []))))) (tl g 170 (tl g 167 (tl g 165 (te g 164 [w0] []) (tl g 166 (te g 165 [w8] []) (te g 166 [w8] []))) (tl g 168 (te g 167 [w8] []) (tl g 169 (te g 168 [w8] []) (te g 169 [w8] [])))) (tl g 173 (tl g 171 (te g 170 [([.c fU,.z lT,.c jk],.t [],[.c fU,.z lT,.c jk]),([.c fU,.z lT,.c ik],.t [],[.c fU,.z lT,.c ik]),([.c fU,.z lT,.c rX,.c S9],.t [],[.c fU,.z lT,.c rX,.c S9]),([.c fU,.z lT],.t [],[.c fU,.z lT])] []) (tl g 172 (te g 171 [([.z vF,.c jk,.c fU],.t [],[.z vF,.c jk,.c fU])] []) (te g 172 [([.z vF,.c ik,.c fU],.t [],[.z vF,.c ik,.c fU])] []))) (tl g 174 (te g 173 [([.c Dw,.c JP],.t [],[.c Dw,.c JP])] []) (tl g 175 (te g 174 [([.c qY],.z (.ni),[.c qY])] []) (te g 175 [w15] [])))))) (tl g 188 (tl g 182 (tl g 179 (tl g 177 (te g 176 [w1] []) (tl g 178 (te g 177 [w1] []) (te g 178 [w1] []))) (tl g 180 (te g 179 [w1] []) (tl g 181 (te g 180 [w3] []) (te g 181 [w1] [])))) (tl g 185 (tl g 183 (te g 182 [w1] []) (tl g 184 (te g 183 [w1] []) (te g 184 [w1] []))) (tl g 186 (te g 185 [w1] []) (tl g 187 (te g 186 [w20,w0] []) (te g 187 [w0] []))))) (tl g 194 (tl g 191 (tl g 189 (te g 188 [w1] []) (tl g 190 (te g 189 [w1] []) (te g 190 [w1] []))) (tl g 192 (te g 191 [w1] []) (tl g 193 (te g 192 [w0] []) (te g 193 [w1] [])))) (tl g 201 (tl g 196 (te g 194 [w0] []) (tl g 197 (te g 196 [w9,w10] []) (te g 197 [w21] []))) (tl g 202 (te g 201 [([.c yT],.tb,[.c yT])] []) (tl g 203 (te g 202 [([],.t [(false,[.I .i64]),(false,[.B])],[])] []) (te g 203 [w0] []))))))) (tl g 254 (tl g 225 (tl g 210 (tl g 207 (tl g 205 (te g 204 [([.c rX],.tb,[.c rX])] []) (tl g 206 (te g 205 [w0] []) (te g 206 [w0] []))) (tl g 208 (te g 207 [w1] []) (tl g 209 (te g 208 [w26] []) (te g 209 [w0] [])))) (tl g 222 (tl g 220 (te g 210 [w0] []) (tl g 221 (te g 220 [w16] []) (te g 221 [w28] []))) (tl g 223 (te g 222 [Ws] []) (tl g 224 (te g 223 [w28] []) (te g 224 [Ws] []))))) (tl g 243 (tl g 240 (tl g 226 (te g 225 [w28] []) (tl g 237 (te g 226 [Ws] []) (te g 237 [w20] []))) (tl g 241 (te g 240 [w1] []) (tl g 242 (te g 241 [w6] []) (te g 242 [([.z kQ,.c rX,.c S9,.c fU],.t [],[.z kQ,.c rX,.c S9,.c fU])] [])))) (tl g 246 (tl g 244 (te g 243 [w26] []) (tl g 245 (te g 244 [([.a],.o (.H 0 0 5),[.a]),w15] []) (te g 245 [([],.tl true 5,[])] []))) (tl g 247 (te g 246 [w0] []) (tl g 248 (te g 247 [([.c S7],.ti .i64,[.c S7]),w1] []) (te g 248 [w1] [])))))) (tl g 284 (tl g 275 (tl g 258 (tl g 255 (te g 254 [w9,w10] []) (tl g 257 (te g 255 [([.c JO,.c bM],.t [(false,[.I .i64]),(false,[.B]),(false,[.B])],[.c JO,.c bM]),([.c xU,.c bM],.t [(false,[.I .i64]),(false,[.B]),(false,[.B])],[.c xU,.c bM])] []) (te g 257 [w21] []))) (tl g 272 (te g 258 [([.z oD,.c S41,.c bM],.ti .i64,[.z oD,.c S41,.c bM]),w1,([.z oD,.c S53,.c bM],.ti .i64,[.z oD,.c S53,.c bM])] []) (tl g 273 (te g 272 [([.c xU,.c bM],.ts,[.c xU,.c bM])] []) (te g 273 [w3] [])))) (tl g 279 (tl g 276 (te g 275 [([.c xU,.c bM],.tl false 1,[.c xU,.c bM])] []) (tl g 278 (te g 276 [([.c bM],.ti .i64,[.c bM])] []) (te g 278 [([.c AO,.c xW,.z lT,.c bM],.t [],[.c AO,.c xW,.z lT,.c bM]),([.c AO,.c xR,.z lT,.c bM],.t [],[.c AO,.c xR,.z lT,.c bM])] []))) (tl g 280 (te g 279 [([.c xW,.z vF,.c AO,.c bM],.t [],[.c xW,.z vF,.c AO,.c bM])] []) (tl g 282 (te g 280 [([.c AO,.c xW,.c Dw,.c bM],.t [],[.c AO,.c xW,.c Dw,.c bM])] []) (te g 282 [w30] []))))) (tl g 308 (tl g 298 (tl g 286 (te g 284 [([.c xR,.z vF,.c AO,.c bM],.t [],[.c xR,.z vF,.c AO,.c bM])] []) (tl g 297 (te g 286 [([.c bM,.c xW,.z kQ,.c Dx],.t [],[.c bM,.c xW,.z kQ,.c Dx]),([.c bM,.c xR,.z kQ,.c S62],.t [],[.c bM,.c xR,.z kQ,.c S62]),([.c bM,.c xR,.z kQ,.c Dx],.t [],[.c bM,.c xR,.z kQ,.c Dx]),([.c bM,.c xR,.z kQ,.c S63],.t [],[.c bM,.c xR,.z kQ,.c S63]),([.c bM,.z kQ,.c Ru,.c Dx],.t [],[.c bM,.z kQ,.c Ru,.c Dx]),([.c bM,.z kQ,.c Ru,.c Dy],.t [],[.c bM,.z kQ,.c Ru,.c Dy]),([.c bM,.z kQ,.c Rx,.c Dx],.t [],[.c bM,.z kQ,.c Rx,.c Dx]),([.c bM,.c xW,.z kQ,.c Dy],.t [],[.c bM,.c xW,.z kQ,.c Dy]),([.c bM,.z kQ,.c Rx,.c Dy],.t [],[.c bM,.z kQ,.c Rx,.c Dy]),([.c bM,.c xR,.z kQ,.c Dy],.t [],[.c bM,.c xR,.z kQ,.c Dy])] []) (te g 297 [w6] []))) (tl g 299 (te g 298 [w2] []) (tl g 307 (te g 299 [w1] []) (te g 307 [([.c JQ,.z lT,.c bM],.g S1,[.c JQ,.z lT,.c bM]),([.c vC,.z lT,.c bM],.g S1,[.c vC,.z lT,.c bM])] [])))) (tl g 327 (tl g 310 (te g 308 [w32,w33] []) (tl g 311 (te g 310 [w32,w33] []) (te g 311 [([.c JO,.c bM],.ti .i64,[.c JO,.c bM]),w31] []))) (tl g 328 (te g 327 [([.z oD,.c vC,.c bM],.tl false 1,[.z oD,.c vC,.c bM])] []) (tl g 335 (te g 328 [([.z oD,.c vC,.c bM],.tb,[.z oD,.c vC,.c bM])] []) (te g 335 [([.z oD,.c JQ,.c bM],.t [],[.z oD,.c JQ,.c bM]),([.z oD,.c vC,.c bM],.t [],[.z oD,.c vC,.c bM])] []))))))))
def d0:Rq:=⟨[],[],[],[],[],[],[],[],[],[],[],[],false⟩
def a1H (g:FuncId):Rq:=tl g 128 (tl g 70 (tl g 45 (tl g 25 (tl g 17 (tl g 14 (tl g 12 (te g 3 ⟨[0,1,3,4,5],[],[],[(0,[0,5,9,3,3,2,3])],[(4,[1]),(7,[1,3]),(10,[1,3,4])],[],[(1,[0,5,9,3,3,2,3])],[1],[],[],[],[],false⟩ d0) (tl g 13 (te g 12 ⟨[1,2,3,4,5,6,7,10,11,12],[],[],[],[],[],[(1,[0,5,9,3,3,2,3]),(7,[0,0,0,4])],[],[],[],[],[],false⟩ d0) (te g 13 ⟨[0,1,3,4,6,8,9,11,13,15,17,19,21,23,25,68,69,70,84,85,86,149,150,151,165,166,167,184,185,186,204,205,206,234,235,236,255,256,257,274,275,276,295,296,297],[],[],[(0,[0,5,9,3,3,2,3]),(68,[5]),(84,[9]),(149,[4]),(165,[8]),(184,[5]),(204,[3]),(234,[2]),(255,[2]),(274,[3]),(295,[2])],[(6,[1,3,4,68,69,70]),(8,[1,3,4,68,69,70]),(9,[1,3,4]),(11,[1,3,4,84,85,86]),(16,[1,3,4,9,84,85,86,149,150,151]),(18,[1,3,4,9,84,85,86,149,150,151]),(19,[1,3,4,9,84,85,86]),(21,[1,3,4,84,85,86,165,166,167]),(25,[1,3,4,84,85,86,165,166,167,184,185,186]),(27,[1,3,4,84,85,86,165,166,167,184,185,186]),(28,[1,3,4,84,85,86,165,166,167]),(29,[1,3,4,84,85,86]),(30,[1,3,4]),(32,[1,3,4,204,205,206]),(34,[1,3,4,204,205,206]),(35,[1,3,4]),(37,[1,3,4,234,235,236]),(41,[1,3,4,234,235,236,255,256,257]),(43,[1,3,4,234,235,236,255,256,257]),(44,[1,3,4,234,235,236]),(45,[1,3,4]),(47,[3,4,274,275,276]),(51,[3,4,274,275,276,295,296,297]),(53,[3,4,274,275,276,295,296,297]),(54,[3,4,274,275,276]),(55,[4])],[(5,[1,3,4,68,69,70]),(10,[1,3,4,84,85,86]),(15,[1,3,4,9,84,85,86,149,150,151]),(20,[1,3,4,84,85,86,165,166,167]),(24,[1,3,4,84,85,86,165,166,167,184,185,186]),(31,[1,3,4,204,205,206]),(36,[1,3,4,234,235,236]),(40,[1,3,4,234,235,236,255,256,257]),(46,[3,4,274,275,276]),(50,[3,4,274,275,276,295,296,297])],[(1,[0,5,9,3,3,2,3]),(8,[0,1,1,1,0,0,1,4,8]),(9,[1,0,0,1,4,8]),(13,[0,0,0,0,0,0,4,5]),(15,[0,0,0,0,4]),(17,[0,0,1]),(19,[0,2]),(23,[0,2,0])],[1],[],[],[],[200,203],false⟩ d0))) (tl g 15 (te g 14 ⟨[0,1,3,4,6,7,8,9,49,50,51],[62],[],[(0,[0,5,9,3,3,2,3]),(4,[1]),(49,[9])],[(4,[1]),(7,[1]),(9,[1]),(12,[1,4,49,50,51]),(16,[1,4,6,49,50,51]),(20,[1,4,49,50,51]),(21,[1]),(24,[1])],[(11,[1,4,49,50,51])],[(1,[0,5,9,3,3,2,3]),(6,[0,1,1,1,0,0,1,4,8])],[1],[],[],[],[],false⟩ d0) (tl g 16 (te g 15 ⟨[0,1,5,7,8,10,12,39,40,41,63,64,65],[],[],[(0,[1]),(39,[1]),(63,[1])],[(7,[0,1]),(11,[0,1,5]),(12,[0,1,5]),(14,[0,1,5,39,40,41]),(17,[0,1,5,7,39,40,41]),(18,[0,1,5,39,40,41]),(19,[0,1,5]),(24,[1,8,63,64,65]),(27,[1,8,63,64,65]),(28,[8])],[(13,[0,1,5,39,40,41]),(23,[1,8,63,64,65])],[(8,[0,1])],[],[],[],[],[],false⟩ d0) (te g 16 ⟨[0,1,3,5,6,7,9,10,11,12,14,15,16,18,19,20,25,26,27,42,43,44,72,73,74,88,89,90,116,117,118,128,129,130,153,154,155,165,166,167],[31,50,61,67,78,100,122,135,148,159,172,189],[],[(0,[0,5,9,3,3,2,3]),(3,[1]),(25,[5]),(42,[1]),(72,[9]),(88,[3]),(116,[2]),(128,[2]),(153,[3]),(165,[2])],[(5,[1,3,25,26,27]),(9,[1,3,5,25,26,27,42,43,44]),(12,[1,3,5,25,26,27,42,43,44]),(13,[1,3,5,25,26,27]),(15,[1,3,25,26,27]),(16,[1,3,25,26,27]),(17,[1,3]),(19,[1,3,72,73,74]),(21,[1,3,72,73,74]),(22,[1,3]),(24,[1,3,88,89,90]),(28,[1,3,11,12,88,89,90]),(29,[1,3,88,89,90]),(30,[1,3]),(32,[1,3,116,117,118]),(36,[1,3,116,117,118,128,129,130]),(38,[1,3,116,117,118,128,129,130]),(39,[1,3,116,117,118]),(40,[1,3,116,117,118]),(41,[1,3]),(43,[3,153,154,155]),(47,[3,18,153,154,155,165,166,167]),(49,[3,18,153,154,155,165,166,167]),(50,[3,18,153,154,155]),(51,[3,153,154,155]),(52,[3])],[(4,[1,3,25,26,27]),(8,[1,3,5,25,26,27,42,43,44]),(18,[1,3,72,73,74]),(23,[1,3,88,89,90]),(31,[1,3,116,117,118]),(35,[1,3,116,117,118,128,129,130]),(42,[3,153,154,155]),(46,[3,18,153,154,155,165,166,167])],[(1,[0,5,9,3,3,2,3]),(9,[0,1,1,1,0,0,1,4,8]),(11,[0,0,1]),(14,[0,2]),(18,[0,2,0])],[1],[([1],false)],[],[],[84,87,140,177],false⟩ d0)))) (tl g 21 (tl g 18 (te g 17 ⟨[0,1,4,5,6,7],[],[],[(0,[0,5,9,3,3,2,3])],[(5,[1]),(10,[6]),(12,[6])],[],[(1,[0,5,9,3,3,2,3]),(5,[5])],[1],[],[],[],[],false⟩ d0) (tl g 19 (te g 18 ⟨[0,1,3,4,5,6,7],[],[],[(0,[0,5,9,3,3,2,3])],[],[],[(1,[0,5,9,3,3,2,3]),(3,[3]),(4,[1]),(5,[1]),(6,[1]),(7,[1])],[1],[],[(7,[9000003,9000004,9000005,9000006,9000007])],[],[9,12],false⟩ d0) (te g 19 ⟨[0,1,3,7],[],[],[(0,[0,5,9,3,3,2,3]),(3,[5])],[],[],[(1,[0,5,9,3,3,2,3])],[1],[],[],[],[],false⟩ d0))) (tl g 23 (te g 21 ⟨[0,1,4,5,6,7,8],[],[],[(0,[1])],[(8,[4])],[],[(4,[0,0,0,4])],[],[([0,0,0,4],true),([],true),([],true),([],true)],[],[10],[10],false⟩ d0) (tl g 24 (te g 23 ⟨[0,1,2,3],[],[],[(0,[0,0,0,4]),(1,[0,0,0,4])],[],[],[(2,[0,0,0,4]),(3,[0,0,0,4])],[2,3],[],[],[],[],false⟩ d0) (te g 24 ⟨[0,1],[],[],[(0,[0,0,0,4])],[],[],[(1,[0,0,0,4])],[1],[],[],[],[],false⟩ d0))))) (tl g 35 (tl g 28 (tl g 26 (te g 25 ⟨[0,1],[],[],[(0,[1])],[],[],[],[],[],[],[],[],false⟩ d0) (tl g 27 (te g 26 ⟨[0,3,4,5,7,8],[],[],[],[(4,[0,7,8]),(9,[0,7,8]),(10,[0])],[(3,[0,7,8])],[],[],[],[],[],[],false⟩ d0) (te g 27 ⟨[0,1,2,4,6,7],[],[],[(0,[0,0,0,4])],[(4,[1,2]),(8,[2]),(11,[4])],[],[(2,[0,0,0,4])],[2],[],[],[],[],false⟩ d0))) (tl g 29 (te g 28 ⟨[0,1,3,7,8],[],[],[(0,[1]),(1,[0,0,0,4])],[(4,[0,3]),(7,[0,3])],[],[(3,[0,0,0,4]),(8,[5])],[3],[],[],[],[],false⟩ d0) (tl g 30 (te g 29 ⟨[0,1,2,4,7,8,9,32],[95,105],[],[(0,[1]),(1,[0,0,0,4]),(9,[1])],[(4,[0,4]),(6,[0,4]),(8,[0,4]),(20,[0,4]),(30,[0,4,7])],[],[(4,[0,0,0,4]),(8,[0,0,0,4])],[4],[([1],true)],[],[],[21,25,120,122,125,131,133,138,140,144,150,152],false⟩ d0) (te g 30 ⟨[0,1,5,6,7,8,9,10,11,42],[],[],[],[(7,[0,1]),(9,[0,1]),(12,[0,6]),(15,[0,7]),(31,[0,7]),(36,[0,7,8]),(40,[7,8,9]),(42,[9])],[(39,[7,8,9])],[(9,[0,1])],[],[],[],[],[],false⟩ d0)))) (tl g 42 (tl g 36 (te g 35 ⟨[0],[],[],[],[],[],[],[],[],[],[],[],false⟩ d0) (tl g 41 (te g 36 ⟨[0,2,3,4,5,6],[],[],[],[(7,[2,6]),(8,[2,6]),(10,[2,6]),(13,[2])],[(6,[2,6])],[(2,[0,5,9,3,3,2,3]),(6,[0,0,1])],[],[([0,5,9,3,3,2,3],true),([],true),([],true),([],true)],[],[8,48],[8],false⟩ d0) (te g 41 ⟨[0,1],[],[],[],[],[],[],[],[],[],[],[],false⟩ d0))) (tl g 43 (te g 42 ⟨[0],[],[],[(0,[1])],[],[],[],[],[],[],[],[],false⟩ d0) (tl g 44 (te g 43 ⟨[0,1],[],[],[(0,[1])],[],[],[],[],[],[],[],[],false⟩ d0) (te g 44 ⟨[0],[],[],[],[],[],[],[],[],[],[],[],false⟩ d0)))))) (tl g 58 (tl g 52 (tl g 48 (tl g 46 (te g 45 ⟨[0],[],[],[(0,[3])],[(4,[0])],[],[],[],[([3],true)],[],[],[],false⟩ d0) (tl g 47 (te g 46 ⟨[0,3,5,10,11,12],[],[9],[(0,[5]),(10,[5])],[(4,[0]),(7,[3,10,11,12]),(16,[3,5,10,11,12]),(17,[3,10,11,12]),(18,[])],[(6,[3,10,11,12])],[],[],[],[],[],[],false⟩ d0) (te g 47 ⟨[0,1],[],[],[(0,[1])],[(4,[0,1]),(6,[])],[],[],[],[],[],[],[],false⟩ d0))) (tl g 49 (te g 48 ⟨[0,1,4,5,6,7,8,9,10,11,12,13,15,17,18,19,20,21,26,27,28,32,33,34,59,60,61,101,102,103,117,118,119,166,167,168],[],[],[(0,[0,1,1,1,0,0,1,4,8]),(4,[1]),(26,[1]),(32,[1]),(59,[1]),(101,[4]),(117,[8]),(166,[5])],[(4,[1,26,27,28]),(7,[1,4,26,27,28,32,33,34]),(11,[1,4,26,27,28,32,33,34]),(12,[1,26,27,28]),(13,[1]),(16,[1,8]),(18,[1,8,59,60,61]),(21,[1,8,59,60,61]),(22,[1,8]),(25,[1,8,11]),(27,[1,8,11]),(30,[1,8,11]),(33,[1,8,11]),(35,[1,8,11,101,102,103]),(38,[1,8,11,101,102,103]),(39,[1,8,11]),(41,[1,8,11,117,118,119]),(44,[1,8,11,17,117,118,119]),(47,[1,8,11,17,117,118,119]),(49,[1,8,11,17,117,118,119,166,167,168]),(52,[1,8,11,17,19,20,117,118,119,166,167,168]),(54,[1,8,11,17,20,117,118,119,166,167,168]),(57,[1,8,11,17,117,118,119,166,167,168]),(58,[1,8,11,117,118,119]),(59,[])],[(3,[1,26,27,28]),(6,[1,4,26,27,28,32,33,34]),(17,[1,8,59,60,61]),(34,[1,8,11,101,102,103]),(40,[1,8,11,117,118,119]),(48,[1,8,11,17,117,118,119,166,167,168])],[(1,[0,1,1,1,0,0,1,4,8]),(8,[1,0,0,1,4,8]),(17,[0,0,0,0,0,0,4,5]),(20,[0,0,0,0,4])],[1],[],[],[],[195],false⟩ d0) (tl g 50 (te g 49 ⟨[0,1,3,5,6,8,14,15,16,37,38,39],[27],[],[(0,[0,5,9,3,3,2,3]),(3,[1]),(14,[3]),(37,[1])],[(5,[3,14,15,16]),(9,[3,5,14,15,16]),(12,[3,14,15,16,37,38,39]),(15,[3,14,15,16,37,38,39]),(16,[3,14,15,16]),(17,[])],[(4,[3,14,15,16]),(11,[3,14,15,16,37,38,39])],[(1,[0,5,9,3,3,2,3]),(5,[0,0,1])],[1],[],[],[],[10,13],false⟩ d0) (te g 50 ⟨[0,1,3,5,6,8,10,11,13,15,16,17,38,39,40,57,58,59,80,81,82],[28,70],[],[(0,[0,5,9,3,3,2,3]),(3,[1]),(15,[2]),(38,[2]),(57,[3]),(80,[2])],[(5,[1,3,15,16,17]),(9,[1,3,5,15,16,17]),(12,[1,3,5,15,16,17]),(14,[1,3,15,16,17,38,39,40]),(17,[1,3,15,16,17,38,39,40]),(18,[1,3,15,16,17]),(19,[1]),(22,[3,57,58,59]),(26,[3,10,57,58,59]),(29,[3,10,57,58,59]),(31,[3,10,57,58,59,80,81,82]),(34,[3,10,13,57,58,59,80,81,82]),(36,[3,10,57,58,59,80,81,82]),(37,[3,10,57,58,59]),(39,[3,57,58,59]),(40,[])],[(4,[1,3,15,16,17]),(13,[1,3,15,16,17,38,39,40]),(21,[3,57,58,59]),(30,[3,10,57,58,59,80,81,82])],[(1,[0,5,9,3,3,2,3]),(5,[0,2]),(10,[0,2,0])],[1],[],[],[],[],false⟩ d0)))) (tl g 55 (tl g 53 (te g 52 ⟨[0,1],[12],[],[],[],[],[(0,[0,1])],[],[],[],[],[],false⟩ d0) (tl g 54 (te g 53 ⟨[0],[],[],[],[],[],[(0,[0,1])],[],[],[],[],[],false⟩ d0) (te g 54 ⟨[0,1,3,4,5,6,8,10,11,12,23,24,25,56,57,58,95,96,97,136,137,138],[30,39,47,50,62,67,76,83,101,127,143,156,163,167],[],[(0,[0,1,1,1,0,0,1,4,8]),(3,[1]),(6,[1]),(23,[1]),(56,[4]),(95,[8]),(136,[5])],[(5,[1,3,23,24,25]),(9,[1,3,4,23,24,25]),(11,[1,3,23,24,25]),(12,[1,3,23,24,25]),(13,[1,3]),(16,[1,3,6,56,57,58]),(21,[1,3,6,56,57,58]),(22,[1,3,6]),(24,[1,3,6,95,96,97]),(28,[1,3,6,10,95,96,97]),(30,[1,3,6,95,96,97,136,137,138]),(33,[1,3,6,95,96,97,136,137,138]),(34,[1,3,6,95,96,97]),(35,[1,3,6,95,96,97]),(36,[3])],[(4,[1,3,23,24,25]),(15,[1,3,6,56,57,58]),(23,[1,3,6,95,96,97]),(29,[1,3,6,95,96,97,136,137,138])],[(1,[0,1,1,1,0,0,1,4,8]),(10,[0,0,0,0,0,0,4,5]),(12,[0,0,0,0,4])],[1],[([1],false)],[],[],[14,17,103,107,109,113,115,119,148,153],false⟩ d0))) (tl g 56 (te g 55 ⟨[0,3,4,5,6,7,8],[15,18],[],[(0,[1]),(3,[1]),(6,[1])],[(5,[3,6,7,8]),(8,[3,5,6,7,8]),(9,[3,6,7,8]),(10,[3])],[(4,[3,6,7,8])],[],[],[([1],false)],[],[],[],false⟩ d0) (tl g 57 (te g 56 ⟨[0],[],[],[],[(4,[0])],[],[],[],[([1],true)],[],[],[],false⟩ d0) (te g 57 ⟨[0,1,2,3,5,6,7,9,10,11,13,15,17,27,28,29,44,45,72,73,74,86,87,91,92,93,123,124,125,148,149,150],[],[],[(1,[0,5,9,3,3,2,3]),(11,[3]),(27,[5]),(72,[9]),(86,[3,3]),(91,[3]),(123,[2]),(148,[3])],[(6,[2,3,27,28,29]),(10,[2,3,5,27,28,29,44,45]),(13,[2,3,5,27,28,29,44,45]),(14,[2,3,5,27,28,29]),(17,[2,3,27,28,29]),(18,[2,3,27,28,29]),(19,[2,3]),(21,[2,3,72,73,74]),(23,[2,3,72,73,74]),(24,[2,3]),(26,[2,3,86,87]),(29,[2,3,10,86,87,91,92,93]),(35,[2,3,10,86,87,91,92,93]),(36,[2,3,86,87]),(37,[2,3]),(39,[2,3,123,124,125]),(44,[2,3,123,124,125]),(45,[2,3]),(47,[2,148,149,150]),(54,[2,148,149,150])],[(5,[2,3,27,28,29]),(9,[2,3,5,27,28,29,44,45]),(20,[2,3,72,73,74]),(25,[2,3,86,87]),(28,[2,3,10,86,87,91,92,93]),(38,[2,3,123,124,125]),(46,[2,148,149,150])],[(0,[5]),(3,[0,5,9,3,3,2,3]),(9,[0,1,1,1,0,0,1,4,8]),(13,[0,0,1]),(15,[0,2]),(17,[0,2,0])],[3],[],[],[48,53,55,90,100,104],[],false⟩ d0))))) (tl g 64 (tl g 61 (tl g 59 (te g 58 ⟨[0,5,6,7,8,9,10,12,23,24,25,67],[],[6],[(0,[5]),(23,[5])],[(5,[0]),(11,[6,7,8,9,10,23,24,25]),(15,[6,7,8,9,10,12,23,24,25]),(19,[6,7,8,10,12,23,24,25]),(28,[6,7,8,9,10,23,24,25]),(29,[6,10])],[(10,[6,7,8,9,10,23,24,25])],[(6,[0,1])],[],[],[],[],[],false⟩ d0) (tl g 60 (te g 59 ⟨[0,1,5,7,8,9,10],[14],[],[(0,[3]),(5,[1]),(8,[3])],[(5,[1,5,8,9,10]),(7,[1,5,8,9,10]),(8,[5])],[(4,[1,5,8,9,10])],[(7,[0,0,1])],[],[([1],false)],[],[],[],false⟩ d0) (te g 60 ⟨[0,1],[],[],[(0,[0,0,1])],[],[],[(1,[0,0,1])],[1],[],[],[],[],false⟩ d0))) (tl g 62 (te g 61 ⟨[0,1,5,7,8,9,10],[14],[],[(0,[9]),(5,[1]),(8,[9])],[(5,[1,5,8,9,10]),(7,[1,5,8,9,10]),(8,[5])],[(4,[1,5,8,9,10])],[(7,[0,1,1,1,0,0,1,4,8])],[],[([1],false)],[],[],[],false⟩ d0) (tl g 63 (te g 62 ⟨[0,1],[],[],[(0,[0,1,1,1,0,0,1,4,8])],[],[],[(1,[0,1,1,1,0,0,1,4,8])],[1],[],[],[],[],false⟩ d0) (te g 63 ⟨[0,1,5,7,8,9,10],[14],[],[(0,[2]),(5,[1]),(8,[2])],[(5,[1,5,8,9,10]),(7,[1,5,8,9,10]),(8,[5])],[(4,[1,5,8,9,10])],[(7,[0,2])],[],[([1],false)],[],[],[],false⟩ d0)))) (tl g 67 (tl g 65 (te g 64 ⟨[0,1],[],[],[(0,[0,2])],[],[],[(1,[0,2])],[1],[],[],[],[],false⟩ d0) (tl g 66 (te g 65 ⟨[0,1,5,7,8,9,10],[14],[],[(0,[3]),(5,[1]),(8,[3])],[(5,[1,5,8,9,10]),(7,[1,5,8,9,10]),(8,[5])],[(4,[1,5,8,9,10])],[(7,[0,2,0])],[],[([1],false)],[],[],[],false⟩ d0) (te g 66 ⟨[0,1],[],[],[(0,[0,2,0])],[],[],[(1,[0,2,0])],[1],[],[],[],[],false⟩ d0))) (tl g 68 (te g 67 ⟨[0,4,5,6,7,8],[],[],[(0,[1]),(6,[1])],[(4,[6,7,8]),(8,[6,7,8]),(9,[])],[(3,[6,7,8])],[],[],[],[],[2000013],[],false⟩ d0) (tl g 69 (te g 68 ⟨[0],[],[],[],[],[],[],[],[],[],[],[],false⟩ d0) (te g 69 ⟨[0,1],[],[],[],[(4,[])],[],[],[],[],[],[],[],false⟩ d0))))))) (tl g 94 (tl g 82 (tl g 76 (tl g 73 (tl g 71 (te g 70 ⟨[0],[],[],[],[],[],[],[],[],[],[],[],false⟩ d0) (tl g 72 (te g 71 ⟨[0],[],[],[],[],[],[],[],[],[],[],[],false⟩ d0) (te g 72 ⟨[0,1],[],[],[],[],[],[],[],[],[],[],[],false⟩ d0))) (tl g 74 (te g 73 ⟨[0,1,5,6,8,9],[],[],[(0,[9])],[(4,[1,8,9]),(8,[1,8,9]),(9,[])],[(3,[1,8,9])],[],[],[],[],[],[],false⟩ d0) (tl g 75 (te g 74 ⟨[0,1,2,3],[],[],[],[],[],[],[3],[],[],[],[],false⟩ d0) (te g 75 ⟨[0,1],[],[],[],[],[],[],[],[],[],[],[],false⟩ d0)))) (tl g 79 (tl g 77 (te g 76 ⟨[0,3],[],[],[(0,[1])],[(5,[0,3])],[],[],[],[],[],[],[],false⟩ d0) (tl g 78 (te g 77 ⟨[0,1],[],[],[],[],[],[],[],[],[],[],[],false⟩ d0) (te g 78 ⟨[0,1,3],[],[],[(0,[0,1,1,1,0,0,1,4,8])],[],[],[(1,[0,1,1,1,0,0,1,4,8]),(3,[1,0,0,1,4,8])],[1],[],[(3,[9000003])],[],[],false⟩ d0))) (tl g 80 (te g 79 ⟨[0,1],[],[],[],[],[],[],[],[],[],[],[],false⟩ d0) (tl g 81 (te g 80 ⟨[0,1,5,6,8,9],[],[],[(0,[3])],[(4,[1,8,9]),(8,[1,8,9]),(9,[])],[(3,[1,8,9])],[],[],[],[],[],[],false⟩ d0) (te g 81 ⟨[0,1,2,3],[],[],[],[],[],[],[3],[],[],[],[],false⟩ d0))))) (tl g 88 (tl g 85 (tl g 83 (te g 82 ⟨[0,1],[],[],[],[],[],[],[],[],[],[],[],false⟩ d0) (tl g 84 (te g 83 ⟨[0,1,3],[],[],[(3,[1])],[],[],[],[],[],[],[],[4,5,8,10,11,14],false⟩ d0) (te g 84 ⟨[0],[],[],[(0,[1])],[],[],[],[],[],[],[],[],false⟩ d0))) (tl g 86 (te g 85 ⟨[0,1],[],[],[],[],[],[],[],[],[],[],[],false⟩ d0) (tl g 87 (te g 86 ⟨[0,1,5,6,8,9],[],[],[(0,[2])],[(4,[1,8,9]),(8,[1,8,9]),(9,[])],[(3,[1,8,9])],[],[],[],[],[],[],false⟩ d0) (te g 87 ⟨[0,1,2,3],[],[],[],[],[],[],[3],[],[],[],[],false⟩ d0)))) (tl g 91 (tl g 89 (te g 88 ⟨[0,1],[],[],[],[],[],[],[],[],[],[],[],false⟩ d0) (tl g 90 (te g 89 ⟨[0,1],[],[],[],[],[],[],[],[],[],[],[],false⟩ d0) (te g 90 ⟨[0,1],[],[],[],[],[],[],[],[],[],[],[],false⟩ d0))) (tl g 92 (te g 91 ⟨[0,1],[],[],[(0,[2])],[],[],[],[],[],[],[],[],false⟩ d0) (tl g 93 (te g 92 ⟨[0,1],[],[],[],[],[],[],[1],[],[],[],[],false⟩ d0) (te g 93 ⟨[0,1],[],[],[],[],[],[],[],[],[],[],[],false⟩ d0)))))) (tl g 107 (tl g 100 (tl g 97 (tl g 95 (te g 94 ⟨[0,1,5,6,8,9],[],[],[(0,[3])],[(4,[1,8,9]),(8,[1,8,9]),(9,[])],[(3,[1,8,9])],[],[],[],[],[],[],false⟩ d0) (tl g 96 (te g 95 ⟨[0,1,2,3],[],[],[],[],[],[],[3],[],[],[],[],false⟩ d0) (te g 96 ⟨[0,1],[],[],[],[],[],[],[],[],[],[],[],false⟩ d0))) (tl g 98 (te g 97 ⟨[0,1],[],[],[],[],[],[],[],[],[],[],[],false⟩ d0) (tl g 99 (te g 98 ⟨[0,1,4,10,11,12],[],[],[(0,[0,2,0]),(10,[2])],[(4,[1]),(6,[1,10,11,12]),(9,[1,4,10,11,12]),(11,[1,10,11,12]),(12,[1])],[(5,[1,10,11,12])],[(1,[0,2,0])],[1],[],[],[],[],false⟩ d0) (te g 99 ⟨[0,2,3,4,5],[22],[],[],[(4,[0]),(10,[2,3,4,5])],[],[(2,[5])],[],[([5],false),([],true),([],true),([],true)],[],[],[],false⟩ d0)))) (tl g 103 (tl g 101 (te g 100 ⟨[0,3,4,5,6],[],[],[(3,[5])],[],[],[],[],[],[],[],[],false⟩ d0) (tl g 102 (te g 101 ⟨[0],[],[],[(0,[1])],[(4,[0])],[],[],[],[([1],true)],[],[],[],false⟩ d0) (te g 102 ⟨[0,2,3,4],[],[],[],[(5,[0,2,3])],[],[(0,[0,0,1]),(2,[0,0,0,4]),(3,[0,0,0,4]),(4,[0,0,0,4])],[],[([0,0,0,4],true)],[],[24],[21,22,1000003,1000004],false⟩ d0))) (tl g 104 (te g 103 ⟨[0],[],[],[],[],[],[(0,[5,0,0,0])],[],[],[],[],[],false⟩ d0) (tl g 106 (te g 104 ⟨[0],[],[],[],[(6,[0])],[],[(0,[5,0,0,0])],[],[],[],[],[],false⟩ d0) (te g 106 ⟨[0,1,2,7,8,9,15,16,17],[],[],[(0,[4]),(1,[4]),(15,[4])],[(4,[0,1,2]),(6,[1,2,15,16,17]),(10,[1,2,15,16,17]),(11,[])],[(5,[1,2,15,16,17])],[(8,[0,0,0,4]),(9,[0,0,0,4])],[],[],[],[],[],false⟩ d0))))) (tl g 113 (tl g 110 (tl g 108 (te g 107 ⟨[0,1,3],[],[],[(0,[0,0,0,4])],[],[],[(1,[0,0,0,4])],[1],[],[],[],[],false⟩ d0) (tl g 109 (te g 108 ⟨[0,1,5,7,8],[],[],[(0,[1])],[(4,[0,1,7,8]),(7,[0,1,7,8]),(8,[])],[(3,[0,1,7,8])],[],[],[],[],[],[],false⟩ d0) (te g 109 ⟨[0,1,2,3,4,9,10,12,13,87,88,89],[],[],[(0,[0,0,0,4]),(87,[4])],[(4,[1,2,3,4]),(14,[1,2,3,4]),(16,[1,2,3,87,88,89]),(20,[1,2,3,87,88,89]),(21,[])],[(15,[1,2,3,87,88,89])],[(4,[0,0,0,4]),(12,[0,0,0,4])],[4],[],[],[],[],false⟩ d0))) (tl g 111 (te g 110 ⟨[0,1,3,5,6,7,9,10,11,26],[19],[],[(0,[0,0,0,4]),(9,[4])],[(5,[1,3,9,10,11]),(9,[1,3,6,9,10,11]),(10,[1,3,9,10,11]),(11,[1,3]),(36,[])],[(4,[1,3,9,10,11])],[(1,[0,0,0,4]),(3,[1]),(5,[0,0,0,4])],[1],[],[],[],[54,59,62],false⟩ d0) (tl g 112 (te g 111 ⟨[0],[],[],[],[],[],[],[],[],[],[],[],false⟩ d0) (te g 112 ⟨[0],[],[],[],[],[],[],[],[],[],[],[],false⟩ d0)))) (tl g 116 (tl g 114 (te g 113 ⟨[0,1,2,3,4,5,6,8,9,10],[],[],[(1,[1]),(2,[0,0,0,4])],[(6,[4,5,6,8]),(11,[4,5,6,8,9,10])],[],[(0,[5]),(5,[1]),(6,[0,0,0,4])],[5,6],[],[],[25,70],[38,45,64,66,68],true⟩ d0) (tl g 115 (te g 114 ⟨[0,4,6,7,8,11,14,15,16],[20],[],[(0,[5]),(4,[1]),(8,[5]),(14,[5])],[(6,[0,4,14,15,16]),(8,[0,4,14,15,16]),(9,[0,4]),(13,[7])],[(5,[0,4,14,15,16])],[],[],[],[],[],[],false⟩ d0) (te g 115 ⟨[0,1,12],[],[],[(0,[0,0,0,4])],[(4,[1]),(27,[])],[],[(1,[0,0,0,4])],[1],[],[],[],[3,7],false⟩ d0))) (tl g 117 (te g 116 ⟨[0],[],[],[],[],[],[(0,[0,0,0,4])],[],[([0,0,0,4],true)],[],[],[],false⟩ d0) (tl g 118 (te g 117 ⟨[0],[],[],[],[],[],[(0,[0,0,0,4])],[],[([0,0,0,4],true)],[],[],[],false⟩ d0) (te g 118 ⟨[0,3],[],[],[],[(19,[])],[],[],[],[],[],[],[],false⟩ d0)))))))) (tl g 204 (tl g 176 (tl g 164 (tl g 139 (tl g 131 (tl g 129 (te g 128 ⟨[0,1],[],[],[],[],[],[(0,[5,0,0,0])],[],[],[],[],[],false⟩ d0) (tl g 130 (te g 129 ⟨[0],[],[],[],[(5,[0])],[],[(0,[5,0,0,0])],[],[],[],[],[],false⟩ d0) (te g 130 ⟨[0,5],[],[],[],[],[],[(0,[0,0,1])],[],[],[],[],[],false⟩ d0))) (tl g 132 (te g 131 ⟨[0,2],[],[],[],[(6,[0,2])],[],[(0,[5,0,0,0])],[],[],[],[],[],false⟩ d0) (tl g 133 (te g 132 ⟨[0,1,2,3,4,5,6,7],[],[6000008],[],[],[],[(0,[0,0,1]),(1,[0,5,9,3,3,2,3])],[],[],[],[56],[8,11,14,18,21,25,28,32,35,39,42,1000001,1000004],false⟩ d0) (te g 133 ⟨[0,1,4],[],[],[],[(2,[0,1])],[],[(0,[5,0,0,0])],[],[],[],[],[24,26,1000001],false⟩ d0)))) (tl g 160 (tl g 158 (te g 139 ⟨[0,1,5,12,13],[],[],[(0,[1]),(1,[1])],[(4,[0,1]),(6,[0,1,12,13]),(9,[0,1,12,13]),(10,[])],[(5,[0,1,12,13])],[],[],[],[],[],[19,23],false⟩ d0) (tl g 159 (te g 158 ⟨[0,1,5,7,8],[],[],[(0,[1])],[(4,[0,1,7,8]),(7,[0,1,7,8]),(8,[])],[(3,[0,1,7,8])],[],[],[],[],[],[],false⟩ d0) (te g 159 ⟨[0,1,5,6,7,8,9],[],[],[(0,[1]),(7,[1])],[(4,[0,1,7,8,9]),(7,[0,1,5,6,7,8,9]),(9,[0,1,7,8,9]),(10,[])],[(3,[0,1,7,8,9])],[],[],[],[],[],[],false⟩ d0))) (tl g 161 (te g 160 ⟨[0,3,4,8,9,10],[],[],[(0,[4]),(8,[4])],[(4,[0]),(6,[0,8,9,10]),(17,[0,8,9,10]),(18,[])],[(5,[0,8,9,10])],[],[],[],[],[],[],false⟩ d0) (tl g 162 (te g 161 ⟨[0,1,2,3,7,8],[],[],[(0,[0,0,0,4])],[(5,[8])],[],[(3,[0,0,0,4])],[3],[],[],[],[],false⟩ d0) (te g 162 ⟨[0],[],[],[],[],[],[(0,[0,1])],[],[],[],[],[],false⟩ d0))))) (tl g 170 (tl g 167 (tl g 165 (te g 164 ⟨[0,1],[],[],[(0,[1])],[],[],[],[],[],[],[],[],false⟩ d0) (tl g 166 (te g 165 ⟨[0,1,5,6,7,8],[16],[],[(1,[1]),(6,[1])],[(3,[0,6,7,8]),(5,[0,6,7,8])],[(2,[0,6,7,8])],[(0,[5])],[],[],[],[],[],false⟩ d0) (te g 166 ⟨[0,1,5,6,7,8],[16],[],[(1,[1]),(6,[1])],[(3,[0,6,7,8]),(5,[0,6,7,8])],[(2,[0,6,7,8])],[(0,[5])],[],[],[],[],[],false⟩ d0))) (tl g 168 (te g 167 ⟨[0,1],[15],[],[],[(4,[0,1])],[],[(0,[5])],[],[],[],[],[],false⟩ d0) (tl g 169 (te g 168 ⟨[0,1,2,3,4,5,6,7,9,11,30,31,32,60,61,62,97,98,99],[],[],[(1,[0,1,1,1,0,0,1,4,8]),(30,[1]),(60,[4]),(97,[8])],[(9,[2,3,4,5,30,31,32]),(13,[2,3,4,5,6,30,31,32]),(15,[2,3,4,5,30,31,32]),(16,[2,3,4,5,30,31,32]),(17,[2,3,4,5]),(19,[2,3,4,5,60,61,62]),(28,[2,3,4,5,60,61,62]),(29,[2,3,4,5]),(31,[2,3,5,97,98,99]),(36,[2,3,5,11,97,98,99]),(38,[2,3,5,11,97,98,99]),(40,[2,3,5,97,98,99]),(41,[2])],[(8,[2,3,4,5,30,31,32]),(18,[2,3,4,5,60,61,62]),(30,[2,3,5,97,98,99])],[(0,[5]),(3,[0,1,1,1,0,0,1,4,8]),(4,[1,0,0,1,4,8]),(5,[1]),(11,[0,0,0,0,0,0,4,5])],[3],[],[],[123],[105,109,111,115,117,121],false⟩ d0) (te g 169 ⟨[0,1,2,3],[],[],[(1,[1])],[],[],[(0,[5]),(3,[1])],[3],[],[],[],[],false⟩ d0)))) (tl g 173 (tl g 171 (te g 170 ⟨[0,1,2,3,8,9,10],[],[],[],[(3,[0,2,3,9,10]),(6,[0,2,3,8,9,10]),(7,[0,2,3,9,10])],[(2,[0,2,3,9,10])],[(0,[5])],[],[],[],[],[],false⟩ d0) (tl g 172 (te g 171 ⟨[0,1,2],[],[],[],[],[],[],[],[],[],[18],[10,16],false⟩ d0) (te g 172 ⟨[0,1,2],[],[],[],[],[],[],[],[],[],[11,23],[10,21],false⟩ d0))) (tl g 174 (te g 173 ⟨[0,1],[],[],[],[],[],[],[],[],[],[],[],false⟩ d0) (tl g 175 (te g 174 ⟨[0,1],[11],[],[],[],[],[(0,[0,1])],[],[],[],[],[],false⟩ d0) (te g 175 ⟨[0],[],[4],[(0,[5])],[],[],[],[],[([5],false)],[(0,[1000002])],[5],[],false⟩ d0)))))) (tl g 188 (tl g 182 (tl g 179 (tl g 177 (te g 176 ⟨[0],[],[],[],[],[],[],[],[],[],[],[],false⟩ d0) (tl g 178 (te g 177 ⟨[0,3,4,5,6,7],[],[],[(0,[1]),(5,[1])],[(4,[0,5,6,7]),(7,[0,3,4,5,6,7]),(9,[0,5,6,7]),(10,[])],[(3,[0,5,6,7])],[],[],[],[],[],[],false⟩ d0) (te g 178 ⟨[0],[],[],[],[],[],[],[],[],[],[],[],false⟩ d0))) (tl g 180 (te g 179 ⟨[0,1],[],[],[],[],[],[],[],[],[],[],[4,6],false⟩ d0) (tl g 181 (te g 180 ⟨[0,3,4,5,6],[9],[],[(3,[1])],[(5,[3,5,6]),(7,[3,5,6]),(8,[3])],[(4,[3,5,6])],[],[],[([1],false)],[],[],[],false⟩ d0) (te g 181 ⟨[0,1],[],[],[],[],[],[],[],[],[],[],[],false⟩ d0)))) (tl g 185 (tl g 183 (te g 182 ⟨[0],[],[],[],[],[],[],[],[],[],[],[],false⟩ d0) (tl g 184 (te g 183 ⟨[0],[],[],[],[],[],[],[],[],[],[],[],false⟩ d0) (te g 184 ⟨[0],[],[],[],[],[],[],[],[],[],[],[],false⟩ d0))) (tl g 186 (te g 185 ⟨[0],[],[],[],[],[],[],[],[],[],[],[],false⟩ d0) (tl g 187 (te g 186 ⟨[0,1],[],[],[(0,[4])],[],[],[],[],[],[],[],[],false⟩ d0) (te g 187 ⟨[0,1],[],[],[],[],[],[],[1],[],[],[],[],false⟩ d0))))) (tl g 194 (tl g 191 (tl g 189 (te g 188 ⟨[0,1],[],[],[],[],[],[],[],[],[],[],[],false⟩ d0) (tl g 190 (te g 189 ⟨[0,1,5,6,8,9],[],[],[(0,[8])],[(4,[1,8,9]),(8,[1,8,9]),(9,[])],[(3,[1,8,9])],[],[],[],[],[],[],false⟩ d0) (te g 190 ⟨[0,1,2],[],[],[],[],[],[],[],[],[],[],[5,7,10],false⟩ d0))) (tl g 192 (te g 191 ⟨[0,1,2,3,5,6,7,8,9,59,60,61],[],[],[(0,[0,1,1,1,0,0,1,4,8]),(1,[0,0,0,0,0,0,4,5]),(59,[5])],[(5,[3,5]),(8,[3,5]),(10,[3,5,59,60,61]),(13,[3,5,7,8,59,60,61]),(15,[3,5,8,59,60,61]),(18,[3,5,59,60,61]),(19,[])],[(9,[3,5,59,60,61])],[(2,[0,1,1,1,0,0,1,4,8]),(3,[0,0,0,0,0,0,4,5]),(8,[0,0,0,0,4])],[2,3],[],[],[],[81,86],false⟩ d0) (tl g 193 (te g 192 ⟨[0],[],[],[],[],[],[],[],[],[],[],[],false⟩ d0) (te g 193 ⟨[0,1,5,7,8],[],[],[(0,[2])],[(4,[0,1,7,8]),(7,[0,1,7,8]),(8,[])],[(3,[0,1,7,8])],[],[],[],[],[],[],false⟩ d0)))) (tl g 201 (tl g 196 (te g 194 ⟨[0],[],[],[],[],[],[],[],[],[],[],[],false⟩ d0) (tl g 197 (te g 196 ⟨[0,1,4,5,6,7,8,9],[],[38],[(9,[4])],[(4,[0,1,4]),(8,[0,1,4,5,6,7]),(12,[0,1,4,5,6,9])],[(5,[0,1,4,5])],[(0,[0,0,1]),(4,[0,0,0,4]),(5,[0,0,0,4])],[],[([0,0,0,4],true)],[(12,[1000009])],[37,41],[33,1000003],false⟩ d0) (te g 197 ⟨[0,1,5],[],[],[],[(5,[5])],[],[(0,[5,0,0,0])],[],[],[],[],[],false⟩ d0))) (tl g 202 (te g 201 ⟨[0,1,2,3,7],[],[],[(0,[0,0,0,4])],[(4,[1,2,3]),(8,[1,2,3,7]),(7,[1,2,3,7]),(10,[])],[(6,[1,2,3,7])],[(3,[0,0,0,4])],[3],[],[],[],[],false⟩ d0) (tl g 203 (te g 202 ⟨[0,4],[],[],[],[(21,[])],[],[],[],[],[],[],[],false⟩ d0) (te g 203 ⟨[0,1],[],[],[],[],[],[],[],[],[],[],[],false⟩ d0))))))) (tl g 254 (tl g 225 (tl g 210 (tl g 207 (tl g 205 (te g 204 ⟨[0,1,2],[],[],[],[],[],[],[2],[],[],[],[],false⟩ d0) (tl g 206 (te g 205 ⟨[0,1],[],[],[(0,[1])],[],[],[],[],[],[],[],[],false⟩ d0) (te g 206 ⟨[0,1],[],[],[],[],[],[],[],[],[],[],[],false⟩ d0))) (tl g 208 (te g 207 ⟨[0,1],[],[],[(0,[0,0,0,4])],[(6,[1])],[],[(1,[0,0,0,4])],[1],[],[],[24],[4,8],false⟩ d0) (tl g 209 (te g 208 ⟨[0,1,2,3,4],[],[],[],[],[],[],[],[],[],[15],[8,10,13],false⟩ d0) (te g 209 ⟨[0,1,2,7,8,9,15,16,17],[],[],[(0,[5]),(1,[5]),(15,[5])],[(4,[0,1,2]),(6,[1,2,15,16,17]),(10,[1,2,15,16,17]),(11,[])],[(5,[1,2,15,16,17])],[],[],[],[],[],[],false⟩ d0)))) (tl g 222 (tl g 220 (te g 210 ⟨[0,1,2,3],[],[],[],[],[],[],[2,3],[],[],[],[],false⟩ d0) (tl g 221 (te g 220 ⟨[0,2,3],[],[],[],[(5,[2,3])],[],[(0,[5,0,0,0])],[],[],[],[],[],false⟩ d0) (te g 221 ⟨[0,1],[],[],[],[],[],[],[],[],[],[],[],false⟩ d0))) (tl g 223 (te g 222 ⟨[0,1,4,5],[49],[],[(5,[1])],[(6,[0,1,4])],[],[(0,[0,0,1]),(1,[0,5,9,3,3,2,3])],[],[],[],[],[19,22,25],false⟩ d0) (tl g 224 (te g 223 ⟨[0,1],[],[],[],[],[],[],[],[],[],[],[],false⟩ d0) (te g 224 ⟨[0,1,2,4,5],[81],[],[],[(8,[1,2,4,5]),(14,[1,2,4])],[(6,[1,2,4,5])],[(0,[0,0,1]),(1,[0,5,9,3,3,2,3]),(4,[0,1,1,1,0,0,1,4,8])],[],[],[],[12],[4,6,10,1000001,1000003],false⟩ d0))))) (tl g 243 (tl g 240 (tl g 226 (te g 225 ⟨[0,1],[],[],[],[],[],[],[],[],[],[7],[],false⟩ d0) (tl g 237 (te g 226 ⟨[0,1,2,3,6],[43],[],[],[],[],[(0,[0,0,1]),(1,[0,5,9,3,3,2,3]),(2,[3]),(6,[0,0,1])],[],[],[],[19],[6,7,11,16,1000001,1000003],false⟩ d0) (te g 237 ⟨[0,1,2],[],[],[],[],[],[],[2],[],[],[],[],false⟩ d0))) (tl g 241 (te g 240 ⟨[0,1,5,7,8],[],[],[(0,[1])],[(4,[0,1,7,8]),(7,[0,1,7,8]),(8,[])],[(3,[0,1,7,8])],[],[],[],[],[],[],false⟩ d0) (tl g 242 (te g 241 ⟨[0],[],[],[(0,[4])],[],[],[],[],[([1],true)],[],[],[],false⟩ d0) (te g 242 ⟨[0,1,2,3],[],[],[],[],[],[],[],[],[],[16,28],[12,14,27],false⟩ d0)))) (tl g 246 (tl g 244 (te g 243 ⟨[0,1,2],[],[],[],[],[],[],[],[],[],[10],[5,8],false⟩ d0) (tl g 245 (te g 244 ⟨[0,1,5,6,7],[],[],[(0,[5])],[(5,[0,1,5]),(8,[0,1,5,6]),(7,[0,1,5,6]),(12,[0,5])],[(6,[0,1,5,6])],[],[],[([5],false)],[],[24,33],[10],false⟩ d0) (te g 245 ⟨[0],[],[],[(0,[5])],[(4,[0])],[],[],[],[([5],true)],[],[],[],false⟩ d0))) (tl g 247 (te g 246 ⟨[0,1],[],[],[],[],[],[],[1],[],[],[],[],false⟩ d0) (tl g 248 (te g 247 ⟨[0,1,5,7,8],[],[],[(0,[4])],[(4,[0,1,7,8]),(7,[0,1,7,8]),(8,[])],[(3,[0,1,7,8])],[],[],[],[],[],[],false⟩ d0) (te g 248 ⟨[0,1,2,3,7,8],[],[],[(0,[0,0,0,4])],[(5,[2,7])],[],[(3,[0,0,0,4])],[3],[],[],[],[],false⟩ d0)))))) (tl g 284 (tl g 275 (tl g 258 (tl g 255 (te g 254 ⟨[0,1,2],[],[],[],[(14,[1,2])],[],[(0,[0,0,1]),(2,[0,0,0,4])],[],[([0,0,0,4],true)],[],[72],[],false⟩ d0) (tl g 257 (te g 255 ⟨[0,1,7,8,9,10],[],[],[],[(5,[1,7])],[],[(0,[0,0,1])],[],[],[],[],[],false⟩ d0) (te g 257 ⟨[0,1,5],[],[],[],[],[],[(0,[5,0,0,0])],[],[],[],[],[],false⟩ d0))) (tl g 272 (te g 258 ⟨[0,1,5,7,8],[],[],[(0,[1])],[(4,[0,1,7,8]),(7,[0,1,7,8]),(8,[])],[(3,[0,1,7,8])],[],[],[],[],[],[],false⟩ d0) (tl g 273 (te g 272 ⟨[0,1,5],[],[],[(1,[1])],[(5,[0])],[],[(0,[0,0,1])],[],[],[],[],[],false⟩ d0) (te g 273 ⟨[0,1,5,7,8,9,10],[14],[],[(0,[5]),(5,[1]),(8,[5])],[(5,[1,5,8,9,10]),(7,[1,5,8,9,10]),(8,[5])],[(4,[1,5,8,9,10])],[],[],[([1],false)],[],[],[],false⟩ d0)))) (tl g 279 (tl g 276 (te g 275 ⟨[0,1,2],[],[],[(1,[1])],[],[],[(0,[0,0,1])],[],[([1],false)],[],[],[],false⟩ d0) (tl g 278 (te g 276 ⟨[0,1,2,7,8,9,10],[],[],[],[(7,[0,1,2,7]),(11,[0,1,2,7,9]),(15,[0,10])],[],[(0,[5,0,0,0])],[],[],[],[],[],false⟩ d0) (te g 278 ⟨[0,1],[],[],[],[(4,[0])],[],[(0,[0,0,1])],[],[],[],[],[],false⟩ d0))) (tl g 280 (te g 279 ⟨[0,1],[3],[],[],[],[],[],[],[],[],[7],[4,6,1000000,1000001],false⟩ d0) (tl g 282 (te g 280 ⟨[0,1,2,6],[11,65],[],[],[(5,[0,1,2,6]),(7,[0,1,6]),(9,[0])],[],[(0,[0,0,1]),(1,[0,1,1,1,0,0,1,4,8])],[],[],[],[17],[16,1000001],false⟩ d0) (te g 282 ⟨[0,1,2,4],[66],[],[],[(7,[1,2,4]),(9,[1,2,4])],[],[(0,[0,0,1]),(1,[0,1,1,1,0,0,1,4,8]),(4,[0,0,0,0,0,0,4,5])],[],[],[],[12,18,24],[7,11,13,17,19,23,1000001,1000003],false⟩ d0))))) (tl g 308 (tl g 298 (tl g 286 (te g 284 ⟨[0,1],[3],[],[],[],[],[],[],[],[],[8],[4,7,1000001,1000002],false⟩ d0) (tl g 297 (te g 286 ⟨[0,1],[],[],[],[(2,[0,1]),(4,[0,1])],[(3,[0,1])],[(0,[5,0,0,0])],[],[],[],[],[],false⟩ d0) (te g 297 ⟨[0,1,5,7,8,9,10],[14,21],[],[(0,[4]),(5,[1]),(8,[4])],[(5,[1,5,8,9,10]),(7,[1,5,8,9,10]),(8,[5])],[(4,[1,5,8,9,10])],[],[],[([1],true)],[],[],[],false⟩ d0))) (tl g 299 (te g 298 ⟨[0,1],[],[],[],[],[],[],[1],[],[],[],[],false⟩ d0) (tl g 307 (te g 299 ⟨[0,1,5,7,8],[],[],[(0,[5])],[(4,[0,1,7,8]),(7,[0,1,7,8]),(8,[])],[(3,[0,1,7,8])],[],[],[],[],[],[],false⟩ d0) (te g 307 ⟨[0,1,2,4],[],[],[],[(5,[1,2,4])],[],[(0,[0,0,1]),(4,[0,0,0,4])],[],[([0,0,0,4],true)],[],[],[],true⟩ d0)))) (tl g 327 (tl g 310 (te g 308 ⟨[0,1],[],[],[],[],[],[(1,[0,0,0,4])],[],[([0,0,0,4],true)],[],[],[],false⟩ d0) (tl g 311 (te g 310 ⟨[0,1,2],[],[],[],[],[],[(1,[0,0,0,4]),(2,[0,0,0,4])],[],[([0,0,0,4],true)],[],[],[],false⟩ d0) (te g 311 ⟨[0,1,5],[],[],[(1,[1])],[(5,[0,5])],[],[(0,[0,0,1])],[],[],[],[],[],false⟩ d0))) (tl g 328 (te g 327 ⟨[0,1,5,7,8,9,10],[14],[],[(0,[1]),(5,[1]),(8,[1])],[(5,[1,5,8,9,10]),(7,[1,5,8,9,10]),(8,[5])],[(4,[1,5,8,9,10])],[],[],[([1],false)],[],[],[],false⟩ d0) (tl g 335 (te g 328 ⟨[0,1],[],[],[],[],[],[],[],[],[],[],[],false⟩ d0) (te g 335 ⟨[0],[],[],[],[],[],[],[],[],[],[],[],false⟩ d0))))))))
noncomputable def SS:SE:=⟨Tryz.prog,a1H,Xb vvT,WWt wwT,CS⟩
theorem dO:SS.OK:=⟨aLY _,aM2 _⟩
abbrev cG (r:RS) (g:FuncId) (a:List PV) (K:RS.F r R):R:=iI SS.CC g a fun p=>Ll r p K
abbrev cH (r:RS) (o:List OS) (g:FuncId) (a:List PV) (h:aF) (K:RS.F r (jU o)):R:=xg SS.CC g a h fun p h=>hv r o p h K
theorem cc {g:FuncId} {a:List PV} {h:aF} {v:R} (h0:SS.C0 g a h=none:=by rfl) (e:SS.run SS.CC SS.LL g a h=v:=by kernel_rfl):SS.CC g a h=v:=CCk dO h0 e
theorem ll {E:AE} {m0:Nat} {l:List Nat} {m:Nat} {x:Code} {K:KT} {Z:ASt} {v:R} (hm:m0<=m:=by decide) (hg:Ap l m Z=true:=by kernel_rfl) (hP:SS.wp E=E:=by kernel_rfl) (e:chk (DF l m Z) (bI (SS.xe SS.CC SS.LL E m0) x (tK (fun Z'=>SS.LL E m0 l m x K (Z'.gc l m)) K) (Z.gc l m))=v:=by kernel_rfl):SS.LL E m0 l m x K Z=v:=LLk dO hm hg hP e
abbrev G0:=cG (.t [(false,[.S]),(false,[.I .i64])])
abbrev G1:=cG (.ti .i64)
abbrev G2:=cG (.ts)
abbrev G3:=cG (.tb)
abbrev G4:=cG (.tl false 1)
abbrev G6:=cG (.t [(false,[.I .i64]),(false,[.I .i64])])
abbrev G7:=cG (.tl true 1)
abbrev NV:=cG (.tl true 3)
abbrev aX:=cH (.t []) [.c fU]
abbrev XK:=cG (.t [(false,[.L false 5]),(false,[.I .i64]),(false,[.I .i64]),(false,[.I .i64])])
abbrev XL:=cH (.ti .i64) [.c yT]
abbrev wK:=cG (.g S1)
abbrev NW:=cG (.tl false 5)
abbrev H24:=cH (.g jl) [.c bM]
abbrev H28:=cH (.t []) [.c fU,.z lT,.c jk]
abbrev H29:=cH (.t []) [.c fU,.z lT,.c ik]
abbrev JI:=cH (.t []) [.c Dw,.c JP]
abbrev H31:=cH (.ts) [.c Nc]
abbrev XM:=cH (.t [(false,[.I .i64]),(false,[.ni])]) [.c qY]
abbrev XN:=cH (.z (.ni)) [.c qY]
abbrev XO:=cH (.tb) [.c yT]
abbrev G37:=cG (.t [(false,[.I .i64]),(false,[.B])])
abbrev wL:=cH (.tb) [.c rX]
abbrev dh:=cH (.t []) [.z oD,.c fU]
abbrev XP:=cH (.tb) [.c S7]
abbrev H45:=cH (.t []) [.c fU,.z lT,.c rX,.c S9]
abbrev H46:=cH (.t []) [.c fU,.z lT]
abbrev XQ:=cH (.t []) [.z vF,.c jk,.c fU]
abbrev XR:=cH (.t []) [.z vF,.c ik,.c fU]
abbrev G49:=cG (.tl true 5)
abbrev H50:=cH (.o (.H 0 0 5)) [.a]
abbrev XT:=cH (.t []) [.c qY]
abbrev H63:=cH (.ti .i64) [.c S7]
abbrev XU:=cH (.t []) [.z kQ,.c rX,.c S9,.c fU]
end
end Go.Proofs.YtcdceiloganlnaaGreatDoor.W
end

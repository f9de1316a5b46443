/- A part of the proof. -/
import Derived.Test.YtmbehibpfkkjbaaGreatDoorPs2
import Derived.Shelf.Lay
import Derived.Shelf.Strings.Builder1
import Derived.Shelf.Strings.OnBuilder
import Derived.Shelf.Strconv.Itoa3
import Derived.Test.YtmbehibpfkkjbaaGreatDoorPs3
import Derived.Test.YtmbehibpfkkjbaaGreatDoorChecked
import Derived.Shelf.LaysM
import Derived.Shelf.Strings.Search1
import Derived.Shelf.Strings.Shaped
import Derived.Shelf.Strings.Repeat
set_option linter.unusedVariables false
set_option linter.defProp false
set_option linter.unusedSimpArgs false
set_option linter.unnecessarySimpa false
set_option linter.unusedSectionVars false
noncomputable section
open Go.IntKind (i64)
namespace Go.Proofs
open Go.Shelf
shelf_lay Lays.n171 Nm 171 at Tryz as Tryz.lays171
shelf_lay Lays.n156 Nm 156 at Tryz as Tryz.lays156
shelf_lay Lays.n169 Nm 169 at Tryz as Tryz.lays169
end Go.Proofs
namespace Go.Proofs.YtmbehibpfkkjbaaGreatDoor
open Go.RowKit Go.Shelf
def Uz:Builder.Extra Tryz.prog Tryz.lays156_ren where
 sizeBuilder:=by kernel_rfl
 liesBuilder:=by kernel_rfl
 t5:=Tryz.underlying5
 a5:=Tryz.isAgg5
 z5:=Tryz.sizeOf5
 v5:=Tryz.zeroValue5
 infoByte:=by kernel_rfl
 cellsByte:=by kernel_rfl
 sizeByte:=by kernel_rfl
 neB5:=by decide
def OE:Builder.Extra Tryz.prog Tryz.lays169_ren where
 sizeBuilder:=by kernel_rfl
 liesBuilder:=by kernel_rfl
 t5:=Tryz.underlying5
 a5:=Tryz.isAgg5
 z5:=Tryz.sizeOf5
 v5:=Tryz.zeroValue5
 infoByte:=by kernel_rfl
 cellsByte:=by kernel_rfl
 sizeByte:=by kernel_rfl
 neB5:=by decide
def lays240:Lays.n240 Tryz.prog Tryz.lays156_ren := { Tryz.lays156 with }
def bX5 (i:Nat) (a:i<100) (w:World):Calls Tryz.prog 74 #[.int .i64 i] w fun e b=>e = .returned (.string ⟨(Lib.decDigits i).toArray⟩)/\b=w:=Any.strconv_Itoa_small Tryz.lays171 i a w
def bXA (h o c:Nat) (d:List ByteArray) (a:ByteArray) (w:World) (b:∀ (j:Nat) x,d[j]? = some x->w.cell? ⟨h,o+j,none⟩=some (.string x)) (i:h<w.heap.size) (l:d.length<=140737488355328) (f:d.length<=c)
 (g:(Lib.join (d.map (·.data.toList)) a.data.toList).length<=140737488355328) :
 Calls Tryz.prog 21 #[.slice (some ⟨h,o,none⟩) d.length c,.string a] w fun e m=>e = .returned (.string ⟨(Lib.join (d.map (·.data.toList)) a.data.toList).toArray⟩)/\Below w.heap.size w m :=
 Any.strings_Join Tryz.lays156 Uz h o c d a w b i l f g
def bX9 (a:Option Addr) (c:Nat) (b:ByteArray) (w:World):Calls Tryz.prog 21 #[.slice a 0 c,.string b] w fun e d=>e = .returned (.string ⟨#[]⟩)/\d=w :=Any.strings_Join_none Tryz.lays156 Uz a c b w
def b83 (b:Nat) (w:World) (a:w.cell? ⟨b,0,none⟩=some (.pointer (some ⟨b,0,none⟩))):Calls Tryz.prog 176 #[.pointer (some ⟨b,0,none⟩)] w fun e c=>e = .returned (.tuple #[])/\c=w :=Any.Builder_copyCheck_used lays240 Uz.toX72 b w a
section
variable {P:Program} {ρ:Ren}
set_option maxHeartbeats 1000000 in
set_option maxRecDepth 100000 in
def b82 (L:Lays.n240 P ρ) (X:Builder.X72 P ρ) (T:TypeId) (b:Nat) (w:World) (h0:w.cell? ⟨b,0,none⟩=some (.pointer none)) (hsh:w.shape? b=some (T,2)) (hfz:w.frozen? ⟨b,0,none⟩=false)
 (hlies:liesAt P P.depth T (2 / P.cellsOf T) 0 (ρ.t 72) 1=true) :
 Calls P (ρ.f 240) #[.pointer (some ⟨b,0,none⟩)] w fun e w'=>e = .returned (.tuple #[])/\w'=w.setCell ⟨b,0,none⟩ (.pointer (some ⟨b,0,none⟩)):=by
 obtain ⟨j,hj,hjs⟩:=NW.1 X.sizeBuilder;have mixed:=L.mixed;have t72:=L.t72; have a72:=L.a72; have z72:=L.z72; have v72:=L.v72; have u72:=gm L.t72;have t70:=L.t70; have a70:=L.a70; have z70:=L.z70; have v70:=L.v70; have u70:=gm L.t70;have t9:=L.t9; have a9:=L.a9; have z9:=L.z9; have v9:=L.v9; have u9:=gm L.t9;have t4:=L.t4; have a4:=L.a4; have z4:=L.z4; have v4:=L.v4; have u4:=gm L.t4;have t164:=L.t164; have a164:=L.a164; have z164:=L.z164; have v164:=L.v164; have u164:=gm L.t164;go_enter L.f240,Body.n240_ntmps ρ
 go_wp2
 rw[Lib.run_to_unsafe w ⟨b,0,none⟩ L.t70 L.t164 hj (by rw[hjs]; decide) hsh (Nat.zero_lt_succ 1)];simp only[Result.andThen];rw[a9Z];go_wp2
 rw[run_callFunc_extern L.f276 (by kernel_rfl) (by kernel_rfl) (by kernel_rfl) (e:=Extern.AbiNoEscape.same) (by kernel_rfl)];rw[Lib.run_noEscape];simp only[Result.andThen];rw[a9Z];go_wp2
 rw[Lib.run_from_unsafe w ⟨b,0,none⟩ L.t164 L.t70 hj hsh hlies];simp only[Result.andThen];rw[a9Z];go_wp2
 go_end0
 exact ⟨rfl,rfl⟩
end
def b81 (b:Nat) (w:World) (d:w.cell? ⟨b,0,none⟩=some (.pointer none)) (a:w.shape? b=some (163,2)) (c:w.frozen? ⟨b,0,none⟩=false) :
 Calls Tryz.prog 176 #[.pointer (some ⟨b,0,none⟩)] w fun e f=>e = .returned (.tuple #[])/\f=w.setCell ⟨b,0,none⟩ (.pointer (some ⟨b,0,none⟩)) :=
 b82 lays240 Uz.toX72 163 b w d a c (by kernel_rfl)
end Go.Proofs.YtmbehibpfkkjbaaGreatDoor
namespace Go.Proofs
open Go.Shelf Go.RowKit Go.Sort Go.Lib
shelf_lay LaysM.n171 Nm 171 at Tryz as Tryz.laysM171
namespace YtmbehibpfkkjbaaGreatDoor
section
variable {P:Program} {ρ:Ren}
def rO (w:World) (k:Nat) (a:Array Obj):Below w.heap.size w (grow (w.drewN k) a) :=⟨rfl,rfl,rfl,by simp,fun i b=>by show (w.heap ++ a)[i]? = _; rw[Dz b]⟩
def Jr (P:Program) (ρ:Ren) (w:World):Prop:=∀ i,i<20->w.cell? ⟨ρ.g 17,i,none⟩=some (.int .u64 ((10 ^ i:Nat):Int))
def Jr.alloc {w:World} (h:Jr P ρ w) (o:Obj):Jr P ρ (w.alloc o):=fun i a=>by have b:=Af _ _ (h i a);rw[T_ _ _ _ (Nat.ne_of_lt b)]; exact h i a
set_option maxHeartbeats 2000000 in
set_option maxRecDepth 100000 in
theorem b9N (L:LaysM.n284 P ρ) (u:Nat) (h1:1<=u) (h2:u<18446744073709551616) (w:World) (htab:Jr P ρ w) :
 Calls P (ρ.f 284) #[.int .u64 u] w fun e w'=>e = .returned (.int .i64 (Lib.nDigits u))/\w'=w:=by
 have mixed:=L.mixed;have t53:=L.t53; have a53:=L.a53; have z53:=L.z53; have v53:=L.v53;have t3:=L.t3; have a3:=L.a3; have z3:=L.z3; have v3:=L.v3;have t212:=L.t212; have a212:=L.a212; have z212:=L.z212; have v212:=L.v212;have t0:=L.t0; have a0:=L.a0; have z0:=L.z0; have v0:=L.v0;have t4:=L.t4; have a4:=L.a4; have z4:=L.z4; have v4:=L.v4;have e129:∀ args w,(callFunc (ρ.f 129) args).run P w = .ok (.enter (ρ.f 129) args) w:=enters_of L.f129 (by kernel_rfl) rfl;have e317:∀ args w,(callFunc (ρ.f 317) args).run P w = .ok (.enter (ρ.f 317) args) w:=enters_of L.f317 (by kernel_rfl) rfl;have e318:∀ args w,(callFunc (ρ.f 318) args).run P w = .ok (.enter (ρ.f 318) args) w:=enters_of L.f318 (by kernel_rfl) rfl;obtain ⟨hnd,h19⟩:=Lib.numDigits_eq u h1 h2;have hL:Lib.bitLen u<=64:=Lib.bitLen_le u 64 (dO _) h2;have hcell:=htab (Lib.l10 (Lib.bitLen u)) (by omega);have hto:((u:Int)).toNat=u:=by omega
 generalize hq:Lib.l10 (Lib.bitLen u)=q at hnd h19 hcell;generalize hT:10 ^ q=T at hnd hcell;have h20:q<20:=by omega
 have Hnd:=Lib.hid hnd;clear hnd htab;go_enter L.f284,Body.n284_ntmps ρ
 go_wp2_with (first
  | (go_at_fn (ρ.f 129); refine (Any.bits_Len64 { L with } _ _ (by omega) (by omega)).mono ?_; rintro e w' ⟨rfl,rfl⟩)
  | (go_at_fn (ρ.f 317); refine (Any.internal_strconv_log10Pow2 { L with } _ (by first | exact hL | (rw[hto]; exact hL)) _).mono ?_; rintro e w' ⟨rfl,rfl⟩)
  | (go_at_fn (ρ.f 318); refine (Any.internal_strconv_bool2_int { L with } _ _).mono ?_; rintro e w' ⟨rfl,rfl⟩))
 all_goals go_ret
 all_goals (
  refine ⟨?_,rfl⟩;have hnd:=Hnd.out;congr 2
  split at hnd<;>simp_all<;>omega)
set_option maxHeartbeats 6400000 in
set_option maxRecDepth 100000 in
def bB4 (L:LaysM.n246 P ρ) (u:Nat) (hu1:100<=u) (hu:u<9223372036854775808) (w:World) (htab:Jr P ρ w) :
 Calls P (ρ.f 246) #[.int .i64 u,.int .i64 10] w fun e w'=>e = .returned (.string ⟨(Lib.decDigits u).toArray⟩)/\Below w.heap.size w w':=by
 have mixed:=L.mixed;have t2:=L.t2; have a2:=L.a2; have z2:=L.z2; have v2:=L.v2;have t3:=L.t3; have a3:=L.a3; have z3:=L.z3; have v3:=L.v3;have t9:=L.t9; have a9:=L.a9; have z9:=L.z9; have v9:=L.v9;have t4:=L.t4; have a4:=L.a4; have z4:=L.z4; have v4:=L.v4;have t171:=L.t171; have a171:=L.a171; have z171:=L.z171; have v171:=L.v171;have t0:=L.t0; have a0:=L.a0; have z0:=L.z0; have v0:=L.v0;have t53:=L.t53; have a53:=L.a53; have z53:=L.z53; have v53:=L.v53;have t37:=L.t37; have a37:=L.a37; have z37:=L.z37; have v37:=L.v37;have t5:=L.t5; have a5:=L.a5; have z5:=L.z5; have v5:=L.v5;have t173:=L.t173; have a173:=L.a173; have z173:=L.z173; have v173:=L.v173;have e283:∀ args w,(callFunc (ρ.f 283) args).run P w = .ok (.enter (ρ.f 283) args) w:=enters_of L.f283 (by kernel_rfl) rfl;have e284:∀ args w,(callFunc (ρ.f 284) args).run P w = .ok (.enter (ρ.f 284) args) w:=enters_of L.f284 (by kernel_rfl) rfl;have e285:∀ args w,(callFunc (ρ.f 285) args).run P w = .ok (.enter (ρ.f 285) args) w:=enters_of L.f285 (by kernel_rfl) rfl;have hu64:u<18446744073709551616:=by omega
 have hnd20:Lib.nDigits u<=20:=by have:=Lib.numDigits_eq u (by omega) hu64; split at this<;>omega
 have hb3:Lib.nDigits u<=23:=by omega
 have hal:P.arrayLen (ρ.t 171)=24:=by simp[Program.arrayLen,L.t171]
 have hsl1:∀ W,(Instr.sliceAt (ρ.t 171) (.pointer (some ⟨w.heap.size,0,none⟩)) (some (.int .i64 1)) (some (.int .i64 (1+(Lib.nDigits u:Int)))) none).run P W = .ok (.slice (some ⟨w.heap.size,1,none⟩) (Lib.nDigits u) 23) W:=fun W=>by
  rw[run_sliceAt_array_lh W (ρ.t 171) ⟨w.heap.size,0,none⟩ (by simp[Program.arrayLen,Program.elem,L.t171]) .i64 .i64 1 (1+(Lib.nDigits u:Int)) (by omega) (by omega) (by rw[hal]; omega)];go_simp
  omega
 have hH0:=Lib.holds_zero w (ρ.t 171) (Lib.nDigits u) (by omega);have hfmt:=Any.internal_strconv_formatBase10 { L with } w.heap.size 1 23 u (Array.replicate (Lib.nDigits u) 0) (w.alloc (.cells Lib.zeros24 (ρ.t 171))) hH0 (by rw[aJJ]; exact Lib.lt_pow_nDigits u) hu64 (by rw[aJJ]; omega);rw[aJJ] at hfmt;have HH0:=Lib.hid hH0;clear hH0 hal;go_enter L.f246,Body.n246_ntmps ρ
 go_wp2_with (first
  | (go_at_fn (ρ.f 284); refine (b9N { L with } u (by omega) hu64 _ (htab.alloc _)).mono ?_; rintro e w' ⟨rfl,rfl⟩))
 go_at_fn (ρ.f 285)
 refine hfmt.mono ?_;rintro e w' ⟨rfl,k,v',dk,rfl,hF⟩;have hcv:(convert (ρ.t 37) (ρ.t 9) (.slice (some ⟨w.heap.size,1,none⟩) (Lib.nDigits u) 23)).run P ((putRow (fun (b:UInt8)=>Value.int .u8 (b.toNat:Int)) (w.alloc (.cells Lib.zeros24 (ρ.t 171))) w.heap.size 1 dk).drewN k) = .ok (.string ⟨(Lib.decDigits u).toArray⟩) ((putRow (fun (b:UInt8)=>Value.int .u8 (b.toNat:Int)) (w.alloc (.cells Lib.zeros24 (ρ.t 171))) w.heap.size 1 dk).drewN k):=by have h:=run_convert_bytes_back (P:=P) ((putRow (fun (b:UInt8)=>Value.int .u8 (b.toNat:Int)) (w.alloc (.cells Lib.zeros24 (ρ.t 171))) w.heap.size 1 dk).drewN k) (ρ.t 37) (ρ.t 9) (ρ.t 5) ⟨w.heap.size,1,none⟩ 23 (Lib.decDigits u) L.t37 L.t5 L.t9 (fun j hj=>by rw[Lib.row_is_numeral hF j hj,Lib.add_plain,World.cell?_drewN];exact cell?_putRow (fun (b:UInt8)=>Value.int .u8 (b.toNat:Int)) _ w.heap.size 1 _ dk HH0.out (by rw[hF.size,aJJ]) j (by rw[hF.size]; rw[Lib.decDigits_length] at hj; exact hj));rw[Lib.decDigits_length] at h;exact h
 go_wp2
 go_ret
 obtain ⟨os,eo⟩:=Lib.fin_pos w (.cells Lib.zeros24 (ρ.t 171)) dk k;refine ⟨rfl,?_⟩;rw[eo];exact rO w k os
set_option maxRecDepth 100000 in
def bX1 (L:LaysM.n243 P ρ) (u:Nat) (hu1:100<=u) (hu:u<9223372036854775808) (w:World) (htab:Jr P ρ w) :
 Calls P (ρ.f 243) #[.int .i64 u] w fun e w'=>e = .returned (.string ⟨(Lib.decDigits u).toArray⟩)/\Below w.heap.size w w':=by
 have mixed:=L.mixed;have t3:=L.t3; have a3:=L.a3; have z3:=L.z3; have v3:=L.v3;have t9:=L.t9; have a9:=L.a9; have z9:=L.z9; have v9:=L.v9;have t2:=L.t2; have a2:=L.a2; have z2:=L.z2; have v2:=L.v2;have e246:∀ args w,(callFunc (ρ.f 246) args).run P w = .ok (.enter (ρ.f 246) args) w:=enters_of L.f246 (by kernel_rfl) rfl;go_enter L.f243,Body.n243_ntmps ρ
 go_wp2_with (go_at_fn (ρ.f 246); refine (bB4 { L with } u hu1 hu _ htab).mono ?_; rintro e w' ⟨rfl,hb⟩)
 go_ret
 exact ⟨rfl,hb⟩
set_option maxRecDepth 100000 in
def bX4 (L:LaysM.n171 P ρ) (u:Nat) (hu1:100<=u) (hu:u<9223372036854775808) (w:World) (htab:Jr P ρ w) :
 Calls P (ρ.f 171) #[.int .i64 u] w fun e w'=>e = .returned (.string ⟨(Lib.decDigits u).toArray⟩)/\Below w.heap.size w w':=by
 have mixed:=L.mixed;have t3:=L.t3; have a3:=L.a3; have z3:=L.z3; have v3:=L.v3;have t9:=L.t9; have a9:=L.a9; have z9:=L.z9; have v9:=L.v9;have e243:∀ args w,(callFunc (ρ.f 243) args).run P w = .ok (.enter (ρ.f 243) args) w:=enters_of L.f243 (by kernel_rfl) rfl;go_enter L.f171,Body.n171_ntmps ρ
 go_wp2_with (go_at_fn (ρ.f 243); refine (bX1 { L with } u hu1 hu _ htab).mono ?_; rintro e w' ⟨rfl,hb⟩)
 go_ret
 exact ⟨rfl,hb⟩
end
end YtmbehibpfkkjbaaGreatDoor
end Go.Proofs
namespace Go.Proofs
open Go.Shelf
shelf_lay Lays.n217 Nm 217 at Tryz as Tryz.lays217
end Go.Proofs
namespace Go.Proofs.YtmbehibpfkkjbaaGreatDoor
open Go.RowKit Go.Shelf
def bWK (s:ByteArray) (c:Int) (w:World):Calls Tryz.prog 239 #[.string s,.int .u8 c] w fun e a=>e = .returned (.int .i64 (Lib.indexByte s.data.toList c.toNat.toUInt8))/\a=w:=Any.stringslite_IndexByte Tryz.lays217 s c w
def C16:l7:=fun g args h=>match g,args with
 | 239,[.str s,.int .u8 c]=>some (.int .i64 (Lib.indexByte s.data.toList c.toNat.toUInt8),h)
 | _,_=>none
theorem aBE {P:Program} {g:FuncId} {args:List PV} {r:PV} {v:Value} (m:j_ P g=true) (n:∀ M B,dC M B r v) (o:r.own=false)
 (h:∀ (M:Mem) (B:aT) (w:World) (a:Array Value),bI M B args a.toList->Calls P g a w fun e f=>e = .returned v/\f=w) (i:aH):Ev P g args i r i:=by
 refine ⟨m,fun p M B w a d c j l hv=>(h M B w a hv).mono ?_⟩;rintro e f ⟨rfl,rfl⟩;refine ⟨v,M,B,rfl,d,gQ.refl _ _,Fr.refl _ _ _,c,n M B,ig o,fun b _ => ?_,fun b => ?_,fun b q => ?_⟩;grind [gY]
 grind [gY]
 grind [gY]
def Hm:qL Tryz.prog C16:=by
 intro g args h r h' hv;unfold C16 at hv;split at hv
 .rename_i s c;injection hv with hv; injection hv with e f; subst e; subst f
  refine aBE (v := .int .i64 (Lib.indexByte s.data.toList c.toNat.toUInt8)) (by kernel_rfl) (fun _ _=>iK.2 rfl) rfl (fun M B w a hv => ?_) h;obtain ⟨l,i,j,b,hv⟩:=eP.1 hv;obtain ⟨m,i,rfl,d,hv⟩:=eP.1 hv;rw[gZ] at hv;subst hv;rw[kz] at b; rw[iK] at d;subst b; subst d;have:a = #[.string s,.int .u8 c]:=by rw[<- Ac]; exact j
  rw[this];exact bWK s c w
 .cases hv
end Go.Proofs.YtmbehibpfkkjbaaGreatDoor
namespace Go.Proofs.YtmbehibpfkkjbaaGreatDoor
open Go.RowKit
set_option maxRecDepth 1000000
def QK (p:PV) (K:Int->ByteArray->Int->Int->Int->R):R:=match p with | .agg [.int .i64 a,.str b,.int .i64 c,.int .i64 d,.int .i64 e]=>K a b c d e | _=>none
def aJ9 (p:PV):(∀ K:PV->R,QK p (fun a b c d e=>K (.agg [af a,.str b,af c,af d,af e]))=K p)\/(∀ K:PV->R,QK p (fun a b c d e=>K (.agg [af a,.str b,af c,af d,af e]))=none):=by
 unfold QK; split
 .exact .inl fun _=>rfl
 .exact .inr fun _=>rfl
@[simp] def cEK (a : Int) (b : ByteArray) (c  d  e : Int) (K : Int -> ByteArray -> Int -> Int -> Int -> R) : QK (.agg [af a, .str b, af c, af d, af e]) K = K a b c d e := rfl
def VV (t:TypeId) (p:PV) (K:PV->R):R :=
 aB (Nat.beq t 2) (vI .i64 p fun a=>K (af a))
  (aB (Nat.beq t 3) (vI .i64 p fun a=>K (af a))
  (aB (Nat.beq t 4) (vB p fun g=>K (.bool g))
  (aB (Nat.beq t 5) (vI .u8 p fun a=>K (.int .u8 a))
  (aB (Nat.beq t 6) (vI .u8 p fun a=>K (.int .u8 a))
  (aB (Nat.beq t 9) (vS p fun s1=>K (.str s1))
  (aB (Nat.beq t 10) (vS p fun s1=>K (.str s1))
  (aB (Nat.beq t 11) (vS p fun s1=>K (.str s1))
  (aB (Nat.beq t 12) (vI .u64 p fun a=>K (.int .u64 a))
  (aB (Nat.beq t 21) (vI .i32 p fun a=>K (.int .i32 a))
  (aB (Nat.beq t 38) (vL false 5 p fun b=>K (.sl false 5 b))
  (aB (Nat.beq t 47) (vI .i64 p fun a=>K (af a))
  (aB (Nat.beq t 57) (vL false 1 p fun b=>K (.sl false 1 b))
  (aB (Nat.beq t 30) (vI .u16 p fun a=>K (.int .u16 a))
  (aB (Nat.beq t 61) (vL false 1 p fun b=>K (.sl false 1 b))
  (aB (Nat.beq t 132) (vL false 5 p fun b=>K (.sl false 5 b))
  (aB (Nat.beq t 71) (vL false 1 p fun b=>K (.sl false 1 b))
  (aB (Nat.beq t 169) (vL false 1 p fun b=>K (.sl false 1 b))
  (aB (Nat.beq t 78) (vL false 5 p fun b=>K (.sl false 5 b))
  (aB (Nat.beq t 247) (vI .u64 p fun a=>K (.int .u64 a))
  (aB (Nat.beq t 95) (vI .i8 p fun a=>K (.int .i8 a))
  (aB (Nat.beq t 109) (QK p fun a c d e f=>K (.agg [af a,.str c,af d,af e,af f]))
  (aB (Nat.beq t 110) (QK p fun a c d e f=>K (.agg [af a,.str c,af d,af e,af f]))
  (aB (Nat.beq t 289) (vL false 1 p fun b=>K (.sl false 1 b))
  (aB (Nat.beq t 267) (vL false 1 p fun b=>K (.sl false 1 b))
  (aB (Nat.beq t 298) (vI .u32 p fun a=>K (.int .u32 a))
  (aB (Nat.beq t 301) (vI .u64 p fun a=>K (.int .u64 a))
  (aB (Nat.beq t 336) (vI .u8 p fun a=>K (.int .u8 a))
  (aB (Nat.beq t 337) (vI .u8 p fun a=>K (.int .u8 a))
  (aB (Nat.beq t 339) (vI .i32 p fun a=>K (.int .i32 a))
  (aB (Nat.beq t 340) (vI .i32 p fun a=>K (.int .i32 a))
  (K p)))))))))))))))))))))))))))))))
def b5A:AV VV:=fun t p =>mg (uo .i64 p) (mg (uo .i64 p) (mg (N9 p) (mg (uo .u8 p) (mg (uo .u8 p) (mg (Zk p) (mg (Zk p) (mg (Zk p) (mg (uo .u64 p) (mg (uo .i32 p) (mg (DJ false 5 p) (mg (uo .i64 p) (mg (DJ false 1 p) (mg (uo .u16 p) (mg (DJ false 1 p) (mg (DJ false 5 p) (mg (DJ false 1 p) (mg (DJ false 1 p) (mg (DJ false 5 p) (mg (uo .u64 p) (mg (uo .i8 p) (mg (aJ9 p) (mg (aJ9 p) (mg (DJ false 1 p) (mg (DJ false 1 p) (mg (uo .u32 p) (mg (uo .u64 p) (mg (uo .u8 p) (mg (uo .u8 p) (mg (uo .i32 p) (mg (uo .i32 p) (.inl fun _=>rfl)))))))))))))))))))))))))))))))
def Zm (p:PV) (K:List PV->Int->Int->Int->R):R:=match p with | .tuple [.sl false 5 a,.int .i64 b,.int .i64 c,.int .i64 d]=>K a b c d | _=>none
def cAB (p:PV) (h:aH):(∀ K:PV->aH->R,Zm p (fun a b c d=>K (.tuple [.sl false 5 a,af b,af c,af d]) h)=K p h)\/(∀ K:PV->aH->R,Zm p (fun a b c d=>K (.tuple [.sl false 5 a,af b,af c,af d]) h)=none):=by
 unfold Zm; split
 .exact .inl fun _=>rfl
 .exact .inr fun _=>rfl
@[simp] def cEM (a : List PV) (b  c  d : Int) (K : List PV -> Int -> Int -> Int -> R) : Zm (.tuple [.sl false 5 a, af b, af c, af d]) K = K a b c d := rfl
def Hf (p:PV) (K:Int->ByteArray->Int->Int->Int->Int->R):R:=match p with | .tuple [.agg [.int .i64 a,.str b,.int .i64 c,.int .i64 d,.int .i64 e],.int .i64 f]=>K a b c d e f | _=>none
def aJB (p:PV) (h:aH):(∀ K:PV->aH->R,Hf p (fun a b c d e f=>K (.tuple [.agg [af a,.str b,af c,af d,af e],af f]) h)=K p h)\/(∀ K:PV->aH->R,Hf p (fun a b c d e f=>K (.tuple [.agg [af a,.str b,af c,af d,af e],af f]) h)=none):=by
 unfold Hf; split
 .exact .inl fun _=>rfl
 .exact .inr fun _=>rfl
@[simp] def cEN (a : Int) (b : ByteArray) (c  d  e  f : Int) (K : Int -> ByteArray -> Int -> Int -> Int -> Int -> R) : Hf (.tuple [.agg [af a, .str b, af c, af d, af e], af f]) K = K a b c d e f := rfl
def Oo (p:PV) (h:aH) (K:Int->ByteArray->Int->Int->Int->Int->Int->Int->R):R:=match p,h with | .agg [.int .i64 a,.str b,.int .i64 c,.int .i64 d,.int .i64 e],[some [.int .i64 f],some [.int .i64 g],some [.int .i64 i]]=>K a b c d e f g i | _,_=>none
def bVY (p:PV) (h:aH):(∀ K:PV->aH->R,Oo p h (fun a b c d e f g i=>K (.agg [af a,.str b,af c,af d,af e]) [some [af f],some [af g],some [af i]])=K p h)\/(∀ K:PV->aH->R,Oo p h (fun a b c d e f g i=>K (.agg [af a,.str b,af c,af d,af e]) [some [af f],some [af g],some [af i]])=none):=by
 unfold Oo; split
 .exact .inl fun _=>rfl
 .exact .inr fun _=>rfl
@[simp] def cC9 (a : Int) (b : ByteArray) (c  d  e  f  g  h : Int) (K : Int -> ByteArray -> Int -> Int -> Int -> Int -> Int -> Int -> R) : Oo (.agg [af a, .str b, af c, af d, af e]) [some [af f], some [af g], some [af h]] K = K a b c d e f g h := rfl
def a0M (f:aH) (r:PV) (h:aH) (K:PV->aH->R):R:=match f with
 | [some [.int .i64 _],some [.int .i64 _],some [.int .i64 _]]=>Oo r h (fun a b c d e g i j=>K (.agg [.int .i64 a,.str b,.int .i64 c,.int .i64 d,.int .i64 e]) [some [.int .i64 g],some [.int .i64 i],some [.int .i64 j]])
 | []=>QK r fun a b c d e=>K (.agg [.int .i64 a,.str b,.int .i64 c,.int .i64 d,.int .i64 e]) h
 | _=>K r h
def b5C (a:aH) (r:PV) (h:aH):(∀ K:PV->aH->R,a0M a r h K=K r h)\/(∀ K:PV->aH->R,a0M a r h K=none):=by
 unfold a0M; split
 .exact bVY r h
 .exact BM (aJ9 r) h
 .exact .inl fun _=>rfl
def aAM (g:FuncId) (j:aH) (r:PV) (h:aH) (K:PV->aH->R):R :=
 aB (Nat.beq g 253) (vB r fun a=>K (.bool a) h)
  (aB (Nat.beq g 254) (Hf r fun b c d e f i=>K (.tuple [.agg [af b,.str c,af d,af e,af f],af i]) h)
  (aB (Nat.beq g 255) (vB r fun a=>K (.bool a) h)
  (aB (Nat.beq g 256) (Hf r fun b c d e f i=>K (.tuple [.agg [af b,.str c,af d,af e,af f],af i]) h)
  (aB (Nat.beq g 289) (vS r fun s1=>K (.str s1) h)
  (aB (Nat.beq g 290) (vB r fun a=>K (.bool a) h)
  (K r h))))))
def b5F (g:FuncId) (a:aH) (r:PV) (h:aH):(∀ K:PV->aH->R,aAM g a r h K=K r h)\/(∀ K:PV->aH->R,aAM g a r h K=none) :=vV (BM (N9 r) h) (vV (aJB r h) (vV (BM (N9 r) h) (vV (aJB r h) (vV (BM (Zk r) h) (vV (BM (N9 r) h) (.inl fun _=>rfl))))))
def aAL (g:FuncId) (f:aH) (r:PV) (h:aH) (K:PV->aH->R):R :=
 aB (Nat.beq g 20) (Zm r fun b i d e=>K (.tuple [.sl false 5 b,af i,af d,af e]) h)
  (aB (Nat.beq g 185) (vB r fun c=>K (.bool c) h)
  (aB (Nat.beq g 266) (vB r fun c=>K (.bool c) h)
  (aB (Nat.beq g 171) (w0 r (K (.tuple []) h))
  (aB (Nat.beq g 172) (vI .i64 r fun a=>K (af a) h)
  (aB (Nat.beq g 173) (a0M f r h K)
  (aB (Nat.beq g 174) (Hf r fun a j d e l m=>K (.tuple [.agg [af a,.str j,af d,af e,af l],af m]) h)
  (aB (Nat.beq g 175) (vL false 2 r fun b=>K (.sl false 2 b) h)
  (aB (Nat.beq g 239) (vI .i64 r fun a=>K (af a) h)
  (aB (Nat.beq g 250) (vB r fun c=>K (.bool c) h)
  (aB (Nat.beq g 251) (vI .i64 r fun a=>K (af a) h)
  (aB (Nat.beq g 252) (vL false 1 r fun b=>K (.sl false 1 b) h)
  (aAM g f r h K))))))))))))
def b5E (g:FuncId) (a:aH) (r:PV) (h:aH):(∀ K:PV->aH->R,aAL g a r h K=K r h)\/(∀ K:PV->aH->R,aAL g a r h K=none) :=vV (cAB r h) (vV (BM (N9 r) h) (vV (BM (N9 r) h) (vV (cAA r h) (vV (BM (uo .i64 r) h) (vV (b5C a r h) (vV (aJB r h) (vV (BM (DJ false 2 r) h) (vV (BM (uo .i64 r) h) (vV (BM (N9 r) h) (vV (BM (uo .i64 r) h) (vV (BM (DJ false 1 r) h) (b5F g a r h))))))))))))
def WW:FuncId->aH->PV->aH->(PV->aH->R)->R:=aAL
def b5D:wJ WW:=b5E
def aG2 (g:FuncId):yR:=match g with
 | 20=>⟨[0,2,3,4,5],[22],[],[],[(4,[0]),(10,[2,3,4,5])],[],[(2,[5])],[],[([5],false),([],true),([],true),([],true)],[],[],[],false⟩
 | 185=>⟨[0,1],[],[],[],[],[],[],[],[],[],[],[],false⟩
 | 70=>⟨[0,1],[],[],[],[],[],[],[1],[],[],[],[],false⟩
 | 266=>⟨[0,1],[],[],[],[],[],[],[],[],[],[],[],false⟩
 | 171=>⟨[0,1,3,4,5,6,7,8,9,11,12,13,47,48,49],[],[],[(47,[2])],[(2,[0,1,3,4,5]),(6,[0,1,3,4,5,6,7]),(5,[0,1,3,4,5,6,7]),(8,[0,1,3,4,5,6]),(12,[0,1,3,4,5,8]),(15,[0,1,3,4,5,8,9,47,48,49]),(18,[0,1,3,4,5,8,9,47,48,49]),(19,[0,1,3,4,5,8,9]),(21,[0,1,3,4,5,12])],[(2,[0,1,3,4,5]),(4,[0,1,3,4,5,6,7]),(14,[0,1,3,4,5,8,9,47,48,49])],[],[],[],[],[],[],false⟩
 | 172=>⟨[0,3,4],[],[],[],[(5,[0,3]),(11,[0,3,4]),(12,[3])],[(3,[0,3])],[],[],[],[],[],[],false⟩
 | 173=>⟨[0,1,2,3,4,5],[],[],[],[],[],[],[],[],[],[],[6,7,8,1000000,1000001,1000002],false⟩
 | 174=>⟨[0,2,5,6,7,8],[],[],[(6,[1])],[(4,[0,2,6,7,8]),(7,[0,2,6,7,8]),(8,[2])],[(3,[0,2,6,7,8])],[],[],[],[],[],[],false⟩
 | 175=>⟨[],[],[],[],[],[],[],[],[([2],false)],[],[],[],false⟩
 | 239=>⟨[0,1],[],[],[],[],[],[],[],[],[],[],[],false⟩
 | 250=>⟨[0],[],[],[],[],[],[],[],[],[],[],[],false⟩
 | 251=>⟨[0,1],[],[],[],[],[],[],[],[],[],[],[],false⟩
 | 252=>⟨[],[],[],[],[],[],[],[],[([1],false)],[],[],[],false⟩
 | 253=>⟨[0],[],[],[],[],[],[],[],[],[],[],[],false⟩
 | 254=>⟨[0,2,4],[],[],[],[(5,[2,4])],[],[],[],[],[],[],[],false⟩
 | 255=>⟨[0],[],[],[],[],[],[],[],[],[],[],[],false⟩
 | 256=>⟨[0,2,4,5,6,27,28],[],[],[],[(5,[2,4]),(8,[2,4,5,27,28]),(12,[2,4,5,27,28]),(13,[2,4,5])],[(7,[2,4,5,27,28])],[],[],[],[],[],[],false⟩
 | 289=>⟨[0,1,5,7,8],[],[],[],[(4,[0,1,7,8]),(7,[0,1,7,8]),(8,[0])],[(3,[0,1,7,8])],[],[],[],[],[],[],false⟩
 | 290=>⟨[0],[],[],[],[],[],[],[],[],[],[],[],false⟩
 | _=>⟨[],[],[],[],[],[],[],[],[],[],[],[],false⟩
noncomputable def SS:SE:=⟨Tryz.prog,aG2,VV,WW,C16⟩
def fG:SS.OK:=⟨b5A,b5D⟩
def aQM:Code:=tZ Tryz.f172
def aC4:AE:=SS.ae 172 34
def bK5:XE:=SS.xe SS.CC SS.LL aC4 0
def aQK:AX->ASt->R:=JH SS.P Tryz.f172.results.toList (SS.jG 172).ro 0 []
def aQN:Code:=Code.sub [true,true,true] aQM
def bK3:AX->ASt->R:=yM (y9 aC4 0 aQN (bD bK5 aQN aQK)) aQK
def bK4:AX->ASt->R:=aS 0 bK3
def bK6:Code:=Code.sub [true,true,false,false,false] aQM
def XO (a:ByteArray) (b:Int):R:=SS.LL aC4 0 [0,3] 0 bK6 bK4 ⟨[(0,.str a),(3,af b)],[]⟩
def aQL (b:ByteArray) (a:Int):XO b a=aB (decide (a<(b.size:Int))) (xx b a fun d=>kE SS.CC 250 [.int .u8 d] fun e=>vB e fun f=>aB f (XO b (i64.wrap (a+1))) (bJ (decide (0<=a)&&decide (a<=(b.size:Int))) (kE SS.CC 185 [.str (b.extract a.toNat b.size),.str ⟨#[47,47]⟩] fun g=>vB g fun h=>aB h (bJ (decide (0<=a)&&decide (a<=(b.size:Int))) (kE SS.CC 251 [.str (b.extract a.toNat b.size),.int .u8 10] fun i=>vI .i64 i fun c=>aB (decide (c<0)) (some (af (b.size:Int),[])) (XO b (i64.wrap (a+c))))) (some (af a,[]))))) (some (af a,[])):=(FQ fG (by decide) (by kernel_rfl) (by kernel_rfl)).trans (by kernel_rfl)
def bK7 (a0:ByteArray):SS.CC 172 [.str a0] []=XO a0 0:=(vg fG rfl).trans (by kernel_rfl)
def aQR:Code:=tZ Tryz.f174
def aC5:AE:=SS.ae 174 19
def bKA:XE:=SS.xe SS.CC SS.LL aC5 0
def aQP:AX->ASt->R:=JH SS.P Tryz.f174.results.toList (SS.jG 174).ro 0 []
def aQS:Code:=Code.sub [true,true] aQR
def bK8:AX->ASt->R:=yM (y9 aC5 0 aQS (bD bKA aQS aQP)) aQP
def bK9:AX->ASt->R:=aS 0 bK8
def bKB:Code:=Code.sub [true,false,true,false,false] aQR
def a3Q (b:ByteArray) (a:ai) (c:Int):R:=SS.LL aC5 0 [0,2,6,7,8] 1 bKB bK9 ⟨[(0,.str b),(2,.ptr 0 0),(6,.sl false 1 a),(7,af (a.length:Int)),(8,af c)],[some [af 0,.str ⟨#[]⟩,af 0,af 0,af 0]]⟩
def aQQ (c:ByteArray) (a:ai) (b:Int):a3Q c a b=aB (decide (b<(a.length:Int))) (dD a b fun e=>vS e fun d=>kE SS.CC 185 [.str c,.str d] fun f=>vB f fun g=>aB g (some (.tuple [.agg [af 3,.str d,af 0,af 0,af 0],af 0],[])) (a3Q c a (i64.wrap (b+1)))) (some (.tuple [.agg [af 0,.str ⟨#[]⟩,af 0,af 0,af 0],af 14],[])):=(FQ fG (by decide) (by kernel_rfl) (by kernel_rfl)).trans (by kernel_rfl)
def bKC (a0:ByteArray):SS.CC 174 [.str a0] []=kE SS.CC 252 [] fun a=>vL false 1 a fun b=>a3Q a0 b 0:=(vg fG rfl).trans (by kernel_rfl)
def bO2 (a0:ByteArray):SS.CC 254 [.str a0] []=kE SS.CC 289 [.str a0,.func (.func 290) [] []] fun a=>vS a fun s1=>aB (decide (32<(s1.size:Int))) (some (.tuple [.agg [af 0,.str ⟨#[]⟩,af 0,af 0,af 0],af 15],[])) (some (.tuple [.agg [af 1,.str s1,af 0,af 0,af 0],af 0],[])):=(vg fG rfl).trans (by kernel_rfl)
def aCE:Code:=tZ Tryz.f256
def aCC:AE:=SS.ae 256 46
def aRW:XE:=SS.xe SS.CC SS.LL aCC 0
def aCD:AX->ASt->R:=JH SS.P Tryz.f256.results.toList (SS.jG 256).ro 0 []
def bO7:Code:=Code.sub [true,true,true] aCE
def aRX:Code:=Code.sub [true,true,true,true,true] aCE
def bO5:AX->ASt->R:=yM (y9 aCC 0 aRX (bD aRW aRX aCD)) aCD
def bO6:AX->ASt->R:=aS 0 bO5
def bO8:Code:=Code.sub [true,true,true,true,false,true,false,false] aCE
def Me (a:ByteArray):R:=bD aRW bO7 aCD ⟨[(2,.ptr 0 0),(4,.str a)],[some [af 0,.str ⟨#[]⟩,af 0,af 0,af 0]]⟩
def a4S (b:ByteArray) (c a:Int):R:=SS.LL aCC 0 [2,4,5,27,28] 1 bO8 bO6 ⟨[(2,.ptr 0 0),(4,.str b),(5,af c),(27,af (b.size:Int)),(28,af a)],[some [af 0,.str ⟨#[]⟩,af 0,af 0,af 0]]⟩
def bO4 (a:ByteArray):Me a=a4S a 0 0:=by kernel_rfl
def aRV (b:ByteArray) (c a:Int):a4S b c a=aB (decide (a<(b.size:Int))) (xx b a fun d=>aB (decide (65536<(i64.wrap ((i64.wrap (10*c))+(i64.wrap (IntKind.u8.wrap (d-48))))))) (some (.tuple [.agg [af 0,.str ⟨#[]⟩,af 0,af 0,af 0],af 2],[])) (a4S b (i64.wrap ((i64.wrap (10*c))+(i64.wrap (IntKind.u8.wrap (d-48))))) (i64.wrap (a+1)))) (some (.tuple [.agg [af 2,.str b,af c,af 0,af 0],af 0],[])):=(FQ fG (by decide) (by kernel_rfl) (by kernel_rfl)).trans (by kernel_rfl)
def bO9 (a0:ByteArray):SS.CC 256 [.str a0] []=kE SS.CC 289 [.str a0,.func (.func 255) [] []] fun a=>vS a fun s1=>kE SS.CC 289 [.str a0,.func (.func 290) [] []] fun b=>vS b fun c=>aB (decide ((s1.size:Int)<(c.size:Int))) (some (.tuple [.agg [af 0,.str ⟨#[]⟩,af 0,af 0,af 0],af 6],[])) (aB (decide (1<(s1.size:Int))) (xx s1 0 fun d=>aB (d==48) (some (.tuple [.agg [af 0,.str ⟨#[]⟩,af 0,af 0,af 0],af 6],[])) (Me s1)) (Me s1)):=(vg fG rfl).trans (by kernel_rfl)
def bKD:SS.CC 175 [] []=some (.sl false 2 [.agg [.func (.func 253) [] [],.func (.func 254) [] []],.agg [.func (.func 255) [] [],.func (.func 256) [] []]],[]):=(vg fG rfl).trans (by kernel_rfl)
def bNZ (a0:Int):SS.CC 250 [.int .u8 a0] []=aB (a0==32) (some (.bool true,[])) (aB (a0==9) (some (.bool true,[])) (aB (a0==13) (some (.bool true,[])) (some (.bool (a0==10),[])))):=(vg fG rfl).trans (by kernel_rfl)
def bC3 (a0 a1:ByteArray):SS.CC 185 [.str a0,.str a1] []=kE SS.CC 266 [.str a0,.str a1] fun a=>vB a fun b=>some (.bool b,[]):=(vg fG rfl).trans (by kernel_rfl)
def bN' (a0:ByteArray) (a1:Int):SS.CC 251 [.str a0,.int .u8 a1] []=kE SS.CC 239 [.str a0,.int .u8 a1] fun a=>vI .i64 a fun b=>some (af b,[]):=(vg fG rfl).trans (by kernel_rfl)
def bO0:SS.CC 252 [] []=some (.sl false 1 [.str ⟨#[45,62]⟩,.str ⟨#[58,61]⟩,.str ⟨#[61,61]⟩,.str ⟨#[33,61]⟩,.str ⟨#[60,61]⟩,.str ⟨#[62,61]⟩,.str ⟨#[46,46]⟩,.str ⟨#[38,38]⟩,.str ⟨#[124,124]⟩,.str ⟨#[123]⟩,.str ⟨#[125]⟩,.str ⟨#[40]⟩,.str ⟨#[41]⟩,.str ⟨#[91]⟩,.str ⟨#[93]⟩,.str ⟨#[44]⟩,.str ⟨#[59]⟩,.str ⟨#[58]⟩,.str ⟨#[61]⟩,.str ⟨#[60]⟩,.str ⟨#[62]⟩,.str ⟨#[43]⟩,.str ⟨#[45]⟩,.str ⟨#[42]⟩,.str ⟨#[33]⟩,.str ⟨#[63]⟩],[]):=(vg fG rfl).trans (by kernel_rfl)
def aSC:Code:=tZ Tryz.f289
def aCM:AE:=SS.ae 289 22
def bPE:XE:=SS.xe SS.CC SS.LL aCM 0
def aSA:AX->ASt->R:=JH SS.P Tryz.f289.results.toList (SS.jG 289).ro 0 []
def aSD:Code:=Code.sub [true,true] aSC
def bPC:AX->ASt->R:=yM (y9 aCM 0 aSD (bD bPE aSD aSA)) aSA
def bPD:AX->ASt->R:=aS 0 bPC
def bPF:Code:=Code.sub [true,false,true,false,false] aSC
def Kq (a:ByteArray) (b:Int):R:=SS.LL aCM 0 [0,1,7,8] 0 bPF bPD ⟨[(0,.str a),(1,.func (.func 290) [] []),(7,af (a.size:Int)),(8,af b)],[]⟩
theorem aSB (a:ByteArray) (b:Int):Kq a b=aB (decide (b<(a.size:Int))) (xx a b fun c=>kE SS.CC 290 [.int .u8 c] fun d=>vB d fun e=>aB (!e) (bJ (decide (0<=b)&&decide (b<=(a.size:Int))) (some (.str (a.extract 0 b.toNat),[]))) (Kq a (i64.wrap (b+1)))) (some (.str a,[])):=(FQ fG (by decide) (by kernel_rfl) (by kernel_rfl)).trans (by kernel_rfl)
def bPG (a0:ByteArray):SS.CC 289 [.str a0,.func (.func 290) [] []] []=Kq a0 0:=(vg fG rfl).trans (by kernel_rfl)
def aS8:Code:=tZ Tryz.f289
def aCL:AE:=SS.ae 289 22
def bP9:XE:=SS.xe SS.CC SS.LL aCL 0
def aS6:AX->ASt->R:=JH SS.P Tryz.f289.results.toList (SS.jG 289).ro 0 []
def aS9:Code:=Code.sub [true,true] aS8
def bP7:AX->ASt->R:=yM (y9 aCL 0 aS9 (bD bP9 aS9 aS6)) aS6
def bP8:AX->ASt->R:=aS 0 bP7
def bPA:Code:=Code.sub [true,false,true,false,false] aS8
def a5A (a:ByteArray) (b:Int):R:=SS.LL aCL 0 [0,1,7,8] 0 bPA bP8 ⟨[(0,.str a),(1,.func (.func 255) [] []),(7,af (a.size:Int)),(8,af b)],[]⟩
theorem aS7 (a:ByteArray) (b:Int):a5A a b=aB (decide (b<(a.size:Int))) (xx a b fun c=>kE SS.CC 255 [.int .u8 c] fun d=>vB d fun e=>aB (!e) (bJ (decide (0<=b)&&decide (b<=(a.size:Int))) (some (.str (a.extract 0 b.toNat),[]))) (a5A a (i64.wrap (b+1)))) (some (.str a,[])):=(FQ fG (by decide) (by kernel_rfl) (by kernel_rfl)).trans (by kernel_rfl)
def bPB (a0:ByteArray):SS.CC 289 [.str a0,.func (.func 255) [] []] []=a5A a0 0:=(vg fG rfl).trans (by kernel_rfl)
def bIK (a0 a1:ByteArray):SS.CC 266 [.str a0,.str a1] []=aB (decide ((a1.size:Int)<=(a0.size:Int))) (bJ (decide (0<=(a1.size:Int))&&decide ((a1.size:Int)<=(a0.size:Int))) (some (.bool ((a0.extract 0 (a1.size:Int).toNat).toList==a1.toList),[]))) (some (.bool false,[])):=(vg fG rfl).trans (by kernel_rfl)
def bPH (a0:Int):SS.CC 290 [.int .u8 a0] []=kE SS.CC 253 [.int .u8 a0] fun a=>vB a fun b=>aB b (some (.bool true,[])) (kE SS.CC 255 [.int .u8 a0] fun c=>vB c fun d=>some (.bool d,[])):=(vg fG rfl).trans (by kernel_rfl)
def bO3 (a0:Int):SS.CC 255 [.int .u8 a0] []=aB (decide (48<=a0)) (some (.bool (decide (a0<=57)),[])) (some (.bool false,[])):=(vg fG rfl).trans (by kernel_rfl)
def bO1 (a0:Int):SS.CC 253 [.int .u8 a0] []=aB (decide (97<=a0)) (aB (decide (a0<=122)) (some (.bool true,[])) (aB (decide (65<=a0)) (aB (decide (a0<=90)) (some (.bool true,[])) (some (.bool (a0==95),[]))) (some (.bool (a0==95),[])))) (aB (decide (65<=a0)) (aB (decide (a0<=90)) (some (.bool true,[])) (some (.bool (a0==95),[]))) (some (.bool (a0==95),[]))):=(vg fG rfl).trans (by kernel_rfl)
def aQO (a0:Int) (d:ByteArray) (e f g a b c:Int):SS.CC 173 [.agg [af a0,.str d,af e,af f,af g],.ptr 0 0,.ptr 1 0,.ptr 2 0] [some [af a],some [af b],some [af c]]=some (.agg [af a0,.str d,af e,af a,af (i64.wrap ((i64.wrap (b-c))+1))],[some [af a],some [af b],some [af c]]):=(show SS.CC 173 [.agg [af a0,.str d,af e,af f,af g],.ptr 0 0,.ptr 1 0,.ptr 2 0] [some [af a],some [af b],some [af c]]=au (au (some (.agg [af a0,.str d,af e,af a,af (i64.wrap ((i64.wrap (b-c))+1))],[some [af a],some [af b],some [af c]])) (some (.agg [af a0,.str d,af e,af a,af (i64.wrap ((i64.wrap (b-c))+1))],[some [af a],some [af b],some [af c]]))) (au (au (some (.agg [af a0,.str d,af e,af a,af (i64.wrap ((i64.wrap (b-c))+1))],[some [af a],some [af b],some [af c]])) (some (.agg [af a0,.str d,af e,af a,af (i64.wrap ((i64.wrap (b-c))+1))],[some [af a],some [af b],some [af c]]))) (some (.agg [af a0,.str d,af e,af a,af (i64.wrap ((i64.wrap (b-c))+1))],[some [af a],some [af b],some [af c]]))) from (vg fG rfl).trans (by kernel_rfl)).trans (by simp only[tV])
abbrev o6 (p:PV):R:=some (p,[])
variable {u:Prop} {p:Nat->Bool} {a:d_} {j:UInt8}
def aK [Decidable u] (h:u):decide u=true:=by simp[h]
theorem aU [Decidable u] (h:¬ u):decide u=false:=by simp[h]
def bs (l:d_):ByteArray:=⟨l.toArray⟩
@[simp] theorem lH (l : d_) : (bs l).size = l.length := by rfl
theorem KJ (l:d_) (i:Nat):(bs l)[i]? = l[i]? := by
 by_cases h:i<l.length
 .rw[kV h];have:i<(bs l).size:=by simpa using h
  rw[getElem?_pos (bs l) i this];rfl
 simp_all
theorem EH (l:d_):(bs l).toList=l:=by rw[NL];rfl
theorem RY (l:d_) (a b:Nat):(bs l).extract a b=bs ((l.drop a).take (b-a)):=by apply ByteArray.ext;rw[ByteArray.data_extract];grind [bs]
theorem a1G (s:ByteArray):bs s.data.toList=s:=by rfl
def iU (n:Nat):Bool:=(decide (97<=n)&&decide (n<=122))||((decide (65<=n)&&decide (n<=90))||n==95)
def gq (n:Nat):Bool:=decide (48<=n)&&decide (n<=57)
def iy (n:Nat):Bool:=iU n||gq n
def xC (n:Nat):Bool:=n==32||(n==9||(n==13||n==10))
def OC (n k:Nat):((n:Int)==(k:Int))=(n==k):=by rw[Ef,qi,qi]; omega
def P5 (k n:Nat):decide ((k:Int)<=(n:Int))=decide (k<=n):=by simp
theorem c78 (n:Nat):SS.CC 253 [.int .u8 n] []=o6 (.bool (iU n)):=by
 rw[bO1,show decide ((97:Int)<=n)=decide (97<=n) from P5 97 n,show decide ((n:Int)<=122)=decide (n<=122) from P5 n 122,show decide ((65:Int)<=n)=decide (65<=n) from P5 65 n,show decide ((n:Int)<=90)=decide (n<=90) from P5 n 90,
  show ((n:Int)==95)=(n==95) from OC n 95]
 grind [Rf,iU]
theorem c80 (n:Nat):SS.CC 255 [.int .u8 n] []=o6 (.bool (gq n)):=by rw[bO3,show decide ((48:Int)<=n)=decide (48<=n) from P5 48 n,show decide ((n:Int)<=57)=decide (n<=57) from P5 n 57];grind [Rf,gq]
def c91 (n:Nat):SS.CC 290 [.int .u8 n] []=o6 (.bool (iy n)):=by rw[bPH,rq (c78 n),BX,rq (c80 n),BX,Rf,iy];cases iU n<;>rfl
theorem c75 (n:Nat):SS.CC 250 [.int .u8 n] []=o6 (.bool (xC n)):=by rw[bNZ,show ((n:Int)==32)=(n==32) from OC n 32,show ((n:Int)==9)=(n==9) from OC n 9,show ((n:Int)==13)=(n==13) from OC n 13,show ((n:Int)==10)=(n==10) from OC n 10];grind [Rf,xC]
theorem bK {k:Nat} (h:k<1000000000000000):i64.wrap ((k:Int)+1)=((k+1:Nat):Int):=by rw[wrap64 (by omega) (by omega)]; omega
def dQ (p:Nat->Bool) (l:d_):d_:=l.takeWhile fun b=>p b.toNat
theorem a_L (p:Nat->Bool) (l:d_):(dQ p l).length<=l.length:=(List.takeWhile_sublist _).length_le
theorem a_N:∀ {k:Nat} {b:UInt8},a[k]? = some b->(∀ j c,j<k->a[j]? = some c->p c.toNat=true)->p b.toNat=false->dQ p a=a.take k:=by
 induction a with
 | nil=>simp
 | cons d a f =>
  intro k b h e g;cases k with
  | zero=>grind [dQ,List.takeWhile_cons]
  | succ k =>have i:=e 0 d (by omega) (by simp);have:=f (k:=k) (b:=b) (by grind) (fun j c m n=>e (j+1) c (by omega) (by grind)) g;grind [dQ,List.takeWhile_cons]
theorem Py {l:d_} (h:∀ (j:Nat) c,l[j]? = some c->p c.toNat=true):dQ p l=l:=by
 induction l with
 | nil=>rfl
 | cons a l b =>
  have d:=h 0 a (by simp);have:=b fun j c e=>h (j+1) c (by grind)
  grind [dQ,List.takeWhile_cons]
theorem c90 (l:d_) (g:l.length<=1000000):SS.CC 289 [.str (bs l),.func (.func 290) [] []] []=o6 (.str (bs (dQ iy l))):=by
 rw[bPG];have a:∀ (m k:Nat),k+m=l.length->(∀ j c,j<k->l[j]? = some c->iy c.toNat=true)->Kq (bs l) (k:Int)=o6 (.str (bs (dQ iy l))):=by
  intro m;induction m with
  | zero =>grind [aSB,lH,aF,Py]
  | succ m e =>
   intro k hk h;obtain ⟨b,d⟩:∃ b,l[k]? = some b:=⟨l[k],kV (by omega)⟩;rw[aSB,aK (by rw[lH]; omega),aI,IC (b:=b) (by omega) (by rw[KJ]; simpa using d),rq (c91 b.toNat),BX,bK (by omega)];cases f:iy b.toNat with
   | true =>exact e (k+1) (by omega) fun j c i n=>by grind
   | false =>rw[a_N d h f];simp only[su,aI];rw[aQ (by simp; omega),RY];simp
 exact a l.length 0 (by omega) (by omega)
theorem b7D (l:d_) (g:l.length<=1000000):SS.CC 289 [.str (bs l),.func (.func 255) [] []] []=o6 (.str (bs (dQ gq l))):=by
 rw[bPB];have a:∀ (m k:Nat),k+m=l.length->(∀ j c,j<k->l[j]? = some c->gq c.toNat=true)->a5A (bs l) (k:Int)=o6 (.str (bs (dQ gq l))):=by
  intro m;induction m with
  | zero =>grind [aS7,lH,aF,Py]
  | succ m e =>
   intro k hk h;obtain ⟨b,d⟩:∃ b,l[k]? = some b:=⟨l[k],kV (by omega)⟩;rw[aS7,aK (by rw[lH]; omega),aI,IC (b:=b) (by omega) (by rw[KJ]; simpa using d),rq (c80 b.toNat),BX,bK (by omega)];cases f:gq b.toNat with
   | true =>exact e (k+1) (by omega) fun j c i n=>by grind
   | false =>rw[a_N d h f];simp only[su,aI];rw[aQ (by simp; omega),RY];simp
 exact a l.length 0 (by omega) (by omega)
structure Tok where
 kind:Int
 text:d_
 value:Int
 line:Int
 uS:Int
 deriving DecidableEq
def Tok.zero:Tok:=⟨0,[],0,0,0⟩
def bM (t:Tok):PV := .agg [af t.kind,.str (bs t.text),af t.value,af t.line,af t.uS]
def rd (r:Tok×Int):PV := .tuple [bM r.1,af r.2]
def DN (l:d_):Tok×Int:=if 32<(dQ iy l).length then (.zero,15) else (⟨1,dQ iy l,0,0,0⟩,0)
theorem c79 (l:d_) (a:l.length<=1000000):SS.CC 254 [.str (bs l)] []=o6 (rd (DN l)):=by
 rw[bO2,rq (c90 l a),je,lH,show decide ((32:Int)<((dQ iy l).length:Int))=decide (32<(dQ iy l).length) by grind];unfold DN;by_cases h:32<(dQ iy l).length
 .rw[aK h,ay h]; rfl
 .rw[aU h,aX h]; rfl
def sK:d_->Nat->Option Nat
 | [],n=>some n
 | b::l,n=>if 65536<10*n+(b.toNat-48) then none else sK l (10*n+(b.toNat-48))
def Cm (l:d_):Tok×Int :=
 if (dQ gq l).length<(dQ iy l).length then (.zero,6)
 else if 1<(dQ gq l).length/\(dQ gq l)[0]? = some 48 then (.zero,6)
 else match sK (dQ gq l) 0 with
  | none=>(.zero,2)
  | some n=>(⟨2,dQ gq l,n,0,0⟩,0)
def aDD {n:Nat}:gq n=true↔48<=n/\n<=57:=by simp[gq]
theorem b9M (h:gq j.toNat=true):i64.wrap (IntKind.u8.wrap ((j.toNat:Int)-48))=((j.toNat-48:Nat):Int):=by obtain ⟨a,c⟩:=aDD.1 h;rw[show IntKind.u8.wrap ((j.toNat:Int)-48)=(j.toNat:Int)-48 by grind [IntKind.wrap,IntKind.bits]];rw[wrap64 (by omega) (by omega)]; omega
theorem a_M (h:j∈dQ p a):p j.toNat=true:=by
 induction a with
 | nil=>cases h
 | cons c a d =>grind [dQ,List.takeWhile_cons]
theorem b7C (l:d_) (e:∀ b,b∈l->gq b.toNat=true) (g:l.length<=1000000):∀ (m k n:Nat),k+m=l.length->n<=65536 ->
 a4S (bs l) (n:Int) (k:Int)=(match sK (l.drop k) n with | none=>o6 (rd (.zero,2)) | some v=>o6 (rd (⟨2,l,v,0,0⟩,0))):=by
 intro m;induction m with
 | zero =>intro k n hk f;rw[aRV,aU (by rw[lH]; omega),aF,NP (by omega)];rfl
 | succ m h =>
  intro k n hk f;obtain ⟨b,d⟩:∃ b,l[k]? = some b:=⟨l[k],kV (by omega)⟩;have c:=e b (tC d);obtain ⟨i,j⟩:=aDD.1 c;have a:l.drop k=b::l.drop (k+1):=by grind [List.drop_eq_getElem_cons]
  rw[aRV,aK (by rw[lH]; omega),aI,IC (b:=b) (by omega) (by rw[KJ]; simpa using d),b9M c,wrap64 (n:=10*(n:Int)) (by omega) (by omega),wrap64 (by omega) (by omega),bK (by omega),a,sK];by_cases hv:65536<10*n+(b.toNat-48)
  .rw[aK (by omega),aI,ay hv]; rfl
  grind [aF]
theorem c81 (l:d_) (g:l.length<=1000000):SS.CC 256 [.str (bs l)] []=o6 (rd (Cm l)):=by
 have m:=a_L gq l;have a:Me (bs (dQ gq l))=(match sK (dQ gq l) 0 with | none=>o6 (rd (.zero,2)) | some v=>o6 (rd (⟨2,dQ gq l,v,0,0⟩,0))):=by have:=b7C (dQ gq l) (fun b c=>a_M c) (by omega) (dQ gq l).length 0 0 (by omega) (by omega);rw[bO4]; exact this
 have d:(match sK (dQ gq l) 0 with | none=>o6 (rd (.zero,2)) | some v=>o6 (rd (⟨2,dQ gq l,v,0,0⟩,0)))=o6 (rd (match sK (dQ gq l) 0 with | none=>(.zero,2) | some n=>(⟨2,dQ gq l,n,0,0⟩,0))):=by cases sK (dQ gq l) 0<;>rfl
 rw[bO9,rq (b7D l g),je,rq (c90 l g),je,lH,lH];unfold Cm;by_cases i:(dQ gq l).length<(dQ iy l).length
 .rw[aK (by omega),aI,ay i]; rfl
 .rw[aU (by omega),aF,aX i];by_cases j:1<(dQ gq l).length
  .obtain ⟨b,c⟩:∃ b,(dQ gq l)[0]? = some b:=⟨(dQ gq l)[0],kV (by omega)⟩;rw[aK (by omega),aI,IC (b:=b) (by omega) (by rw[KJ]; grind),c];rw[show ((b.toNat:Int)==48)=(b.toNat==48) from OC b.toNat 48];by_cases f:b=48
   .subst f;rw[ay ⟨j,rfl⟩]; rfl
   .have:b.toNat≠48:=fun e=>f (UInt8.toNat_inj.1 (by rw[e]; rfl))
    rw[aX (fun h=>f (by simp_all)),show (b.toNat==48)=false by simp_all,aF,a,d]
  grind [aF]
def lC:List (d_) := [[45,62],[58,61],[61,61],[33,61],[60,61],[62,61],[46,46],[38,38],[124,124],[123],[125],[40],[41],[91],[93],[44],[59],[58],[61],[60],[62],[43],[45],[42],[33],[63]]
def H9 (l:d_):Option (d_):=lC.find? fun x=>x.isPrefixOf l
def Es (l:d_):Tok×Int:=match H9 l with
 | some x=>(⟨3,x,0,0,0⟩,0)
 | none=>(.zero,14)
theorem a'W:∀ (x l:d_),(decide (x.length<=l.length)&&(l.take x.length==x))=x.isPrefixOf l
 | [],l=>by simp
 | a::x,[]=>by simp
 | a::x,b::l=>by have:=a'W x l;grind
theorem c87 (l x:d_):SS.CC 266 [.str (bs l),.str (bs x)] []=o6 (.bool (x.isPrefixOf l)):=by
 rw[bIK,<- a'W,lH,lH,show decide ((x.length:Int)<=(l.length:Int))=decide (x.length<=l.length) from P5 _ _];by_cases h:x.length<=l.length;grind [aI,aQ,RY,EH]
 .rw[aU h]; rfl
def c69 (l x:d_):SS.CC 185 [.str (bs l),.str (bs x)] []=o6 (.bool (x.isPrefixOf l)):=by rw[bC3,rq (c87 l x),BX]
def c77:SS.CC 252 [] []=o6 (.sl false 1 (lC.map fun x => .str (bs x))):=bO0
def b7B (l:d_) (a:List (d_)) (d:a.length<=1000):∀ (m k:Nat),k+m=a.length ->
 a3Q (bs l) (a.map fun x => .str (bs x)) (k:Int)=o6 (rd (match (a.drop k).find? (fun x=>x.isPrefixOf l) with | some x=>(⟨3,x,0,0,0⟩,0) | none=>(.zero,14))):=by
 intro m;induction m with
 | zero =>intro k hk;rw[aQQ,aU (by rw[aZ]; omega),aF,NP (by omega)];rfl
 | succ m c =>
  intro k hk;have b:k<a.length:=by omega
  rw[aQQ,aK (by rw[aZ]; omega),aI,nK (e := .str (bs a[k])) (by omega) (by simp[b]),je,rq (c69 l a[k]),BX,bK (by omega),F7 b,List.find?_cons];cases a[k].isPrefixOf l with
  | true=>rfl
  | false=>exact c (k+1) (by omega)
def c61 (l:d_):SS.CC 174 [.str (bs l)] []=o6 (rd (Es l)):=by rw[bKC,rq c77,Jz];exact b7B l lC (by decide) lC.length 0 (by omega)
def jJ:Bool->d_->Nat
 | _,[]=>0
 | true,b::l=>if b=10 then 1+jJ false l else 1+jJ true l
 | false,b::l=>if xC b.toNat then 1+jJ false l else if [47,47].isPrefixOf (b::l) then 1+jJ true l else 0
theorem c6T (l:d_):if Lib.indexByte l 10<0 then jJ true l=l.length else ∃ j:Nat,Lib.indexByte l 10=j/\j<l.length/\jJ true l=j+jJ false (l.drop j):=by
 induction l with
 | nil=>rfl
 | cons b l c =>
  have d:=Lib.indexByte_ge l 10;rw[Lib.indexByte];by_cases e:b=10
  .subst e;grind [jJ,xC]
  .have a:(b==10)=false:=by grind
   simp only[a,V8,if_false];by_cases h:Lib.indexByte l 10<0;grind [jJ]
   .rw[aX h] at c;obtain ⟨j,f,g,i⟩:=c;have:(Lib.indexByte l 10 == -1)=false:=by simp; omega
    rw[this];simp only[V8,if_false];rw[aX (by omega)];exact ⟨j+1,by omega,by simp; omega,by grind [jJ]⟩
def c76 (l:d_):SS.CC 251 [.str (bs l),.int .u8 10] []=o6 (af (Lib.indexByte l 10)):=by
 have a:SS.CC 239 [.str (bs l),.int .u8 10] []=o6 (af (Lib.indexByte l 10)):=by rw[Nb fG]; rfl
 rw[bN',rq a,vZ]
theorem c59 (l:d_) (t:l.length<=1000000):SS.CC 172 [.str (bs l)] []=o6 (af ((jJ false l:Nat):Int)):=by
 rw[bK7];have d:∀ (m k:Nat),l.length<=k+m->k<=l.length->XO (bs l) (k:Int)=o6 (af ((k+jJ false (l.drop k):Nat):Int)):=by
  intro m;induction m with
  | zero =>intro k hk e;rw[aQL,aU (by rw[lH]; omega),aF,NP (by omega)];rfl
  | succ m f =>
   intro k hk e;by_cases c:k<l.length
   .have a:l.drop k=l[k]::l.drop (k+1):=F7 c;have he:(bs l).extract k l.length=bs (l.drop k):=by rw[RY,VD (by simp)]
    rw[aQL,aK (by rw[lH]; omega),aI,IC (b:=l[k]) (by omega) (by rw[KJ]; simp[c]),rq (c75 _),BX,lH,nC,he,show (⟨#[47,47]⟩:ByteArray)=bs [47,47] from rfl,rq (c69 _ _),BX,rq (c76 _),vZ,bK (by omega)];cases i:xC l[k].toNat with
    | true =>rw[aI,f (k+1) (by omega) (by omega),a,jJ,ay i];grind
    | false =>
     rw[aF,aQ (by simp; omega)];cases n : [47,47].isPrefixOf (l.drop k) with
     | false =>rw[aF];grind [jJ]
     | true =>
      rw[aI,aQ (by simp; omega)];have o:jJ false (l.drop k)=jJ true (l.drop k):=by rw[a] at n ⊢;grind [jJ]
      have g:=c6T (l.drop k);rw[o];by_cases h:Lib.indexByte (l.drop k) 10<0;simp_all
      .rw[aX h] at g;obtain ⟨j,p,q,r⟩:=g;have u:0<j:=by grind [Lib.indexByte]
       simp at q;rw[aU h,aF,p,wrap64 (by omega) (by omega),show ((k:Int)+(j:Int))=((k+j:Nat):Int) by omega,f (k+j) (by omega) (by omega),r,QW];grind
   grind
 have:=d l.length 0 (by omega) (by omega);simp_all
def gK:Code->Array Oper | .region _ a _=>a | _ => #[]
def jE:Code:=tZ Tryz.f171
def PR:AE:=SS.ae 171 86
def D6:XE:=SS.xe SS.CC SS.LL PR 7
def c0A:Code:=Code.sub [false,true,true,false,false,false,false] jE
def c0B (l:Nat) (K:AX->ASt->R) (s:ByteArray) (L:ai) (c d e b start a:Int):bD D6 c0A K ⟨[(0,.func (.yield l) [] []),(1,.cst (.str s)),(3,.ptr 4 0),(4,.ptr 5 0),(5,.ptr 6 0)],[some [.sl true 5 L],some [af c],some [af d],some [af e],some [af b],some [af start],some [af a]]⟩=bJ (decide (0<=a)&&decide (a<=(s.size:Int))) (kE SS.CC 172 [.str (s.extract a.toNat s.size)] fun g=>vI .i64 g fun f=>K .normal ⟨[(0,.func (.yield l) [] []),(1,.cst (.str s)),(3,.ptr 4 0),(4,.ptr 5 0),(5,.ptr 6 0),(6,af f),(14,.str s),(15,af a),(16,.str (s.extract a.toNat s.size)),(17,af f)],[some [.sl true 5 L],some [af c],some [af d],some [af e],some [af b],some [af start],some [af a]]⟩):=by kernel_rfl
def a'H:Code:=tZ Tryz.f171
def a'F:AE:=SS.ae 171 86
def c0D:XE:=SS.xe SS.CC SS.LL a'F 7
def c0E:Code:=Code.sub [false,true,true,false,false,false,true,false] a'H
def c0C (K:AX->ASt->R):AX->ASt->R:=aS 2 K
def c0F:Code:=Code.sub [false,true,true,false,false,false,true,false,true,false,false] a'H
def Yl (l:Nat) (K:AX->ASt->R) (a:ByteArray) (b c:Int) (d:ai) (e f g h i j:Int):R:=SS.LL a'F 7 [0,1,3,4,5,6,7] 7 c0F (c0C K) ⟨[(0,.func (.yield l) [] []),(1,.cst (.str a)),(3,.ptr 4 0),(4,.ptr 5 0),(5,.ptr 6 0),(6,af b),(7,af c)],[some [.sl true 5 d],some [af e],some [af f],some [af g],some [af h],some [af i],some [af j]]⟩
def a'G (l:Nat) (K:AX->ASt->R) (d:ByteArray) (b a:Int) (e:ai) (f g h i j c:Int):Yl l K d b a e f g h i j c=aB (decide (a<(i64.wrap (c+b)))) (xx d a fun m=>aB (m==10) (Yl l K d b (i64.wrap (a+1)) e f g h (i64.wrap (i+1)) (i64.wrap (a+1)) c) (Yl l K d b (i64.wrap (a+1)) e f g h i j c)) (K .normal ⟨[(0,.func (.yield l) [] []),(1,.cst (.str d)),(3,.ptr 4 0),(4,.ptr 5 0),(5,.ptr 6 0),(6,af b),(7,af a),(19,af a),(20,af c),(21,af b),(22,af (i64.wrap (c+b))),(23,.bool false)],[some [.sl true 5 e],some [af f],some [af g],some [af h],some [af i],some [af j],some [af c]]⟩):=(FQ fG (by decide) (by kernel_rfl) (by kernel_rfl)).trans (by kernel_rfl)
def c0G (l:Nat) (K:AX->ASt->R) (s:ByteArray) (g:Int) (L:ai) (c d e a start b:Int):bD c0D c0E K ⟨[(0,.func (.yield l) [] []),(1,.cst (.str s)),(3,.ptr 4 0),(4,.ptr 5 0),(5,.ptr 6 0),(6,af g)],[some [.sl true 5 L],some [af c],some [af d],some [af e],some [af a],some [af start],some [af b]]⟩=Yl l K s g b L c d e a start b:=by kernel_rfl
def c0J:Code:=tZ Tryz.f171
def c0H:AE:=SS.ae 171 86
def c0I:XE:=SS.xe SS.CC SS.LL c0H 7
def c0K:Code:=Code.sub [false,true,true,false,false,false,true,true,false] c0J
def c0L (l:Nat) (K:AX->ASt->R) (s:ByteArray) (g:Int) (L:ai) (c d e b start a:Int):bD c0I c0K K ⟨[(0,.func (.yield l) [] []),(1,.cst (.str s)),(3,.ptr 4 0),(4,.ptr 5 0),(5,.ptr 6 0),(6,af g)],[some [.sl true 5 L],some [af c],some [af d],some [af e],some [af b],some [af start],some [af a]]⟩=K .normal ⟨[(0,.func (.yield l) [] []),(1,.cst (.str s)),(3,.ptr 4 0),(4,.ptr 5 0),(5,.ptr 6 0),(6,af g),(34,af a),(35,af g),(36,af (i64.wrap (a+g)))],[some [.sl true 5 L],some [af c],some [af d],some [af e],some [af b],some [af start],some [af (i64.wrap (a+g))]]⟩:=by kernel_rfl
def c0O:Code:=tZ Tryz.f171
def c0M:AE:=SS.ae 171 86
def c0N:XE:=SS.xe SS.CC SS.LL c0M 7
def c0P:Code:=Code.sub [false,true,true,false,false,false,true,true,true,false] c0O
def c0Q (l:Nat) (K:AX->ASt->R) (s:ByteArray) (L:ai) (c d e a start b:Int):bD c0N c0P K ⟨[(0,.func (.yield l) [] []),(1,.cst (.str s)),(3,.ptr 4 0),(4,.ptr 5 0),(5,.ptr 6 0)],[some [.sl true 5 L],some [af c],some [af d],some [af e],some [af a],some [af start],some [af b]]⟩=K .normal ⟨[(0,.func (.yield l) [] []),(1,.cst (.str s)),(3,.ptr 4 0),(4,.ptr 5 0),(5,.ptr 6 0),(8,.func (.func 173) [] [.ptr 4 0,.ptr 6 0,.ptr 5 0]),(37,.func (.func 173) [] [.ptr 4 0,.ptr 6 0,.ptr 5 0])],[some [.sl true 5 L],some [af c],some [af d],some [af e],some [af a],some [af start],some [af b]]⟩:=by kernel_rfl
def c0T:Code:=tZ Tryz.f171
def c0R:AE:=SS.ae 171 86
def c0S:XE:=SS.xe SS.CC SS.LL c0R 7
def c0U:Code:=Code.sub [false,true,true,false,false,false,true,true,true,true,false,false] c0T
def a'I (l:Nat) (K:AX->ASt->R) (s:ByteArray) (L:ai) (c d e b start a:Int):bD c0S c0U K ⟨[(0,.func (.yield l) [] []),(1,.cst (.str s)),(3,.ptr 4 0),(4,.ptr 5 0),(5,.ptr 6 0),(8,.func (.func 173) [] [.ptr 4 0,.ptr 6 0,.ptr 5 0])],[some [.sl true 5 L],some [af c],some [af d],some [af e],some [af b],some [af start],some [af a]]⟩=K .normal ⟨[(0,.func (.yield l) [] []),(1,.cst (.str s)),(3,.ptr 4 0),(4,.ptr 5 0),(5,.ptr 6 0),(8,.func (.func 173) [] [.ptr 4 0,.ptr 6 0,.ptr 5 0]),(38,af a),(39,.str s),(40,af (s.size:Int)),(41,.bool (a==(s.size:Int)))],[some [.sl true 5 L],some [af c],some [af d],some [af e],some [af b],some [af start],some [af a]]⟩:=by kernel_rfl
def c0W:Code:=tZ Tryz.f171
def c0V:AE:=SS.ae 171 86
def a'J:XE:=SS.xe SS.CC SS.LL c0V 7
def a8A:Code:=Code.sub [false,true,true,false,false,false,true,true,true,true,false,true,false,false] c0W
def c0X (l:Nat) (K:AX->ASt->R) (s:ByteArray) (L:ai) (d e f a start b:Int):lI a'J false (gK a8A) (((gK a8A).toList.drop 0).take 4) (K .normal) ⟨[(0,.func (.yield l) [] []),(1,.cst (.str s)),(3,.ptr 4 0),(4,.ptr 5 0),(5,.ptr 6 0),(8,.func (.func 173) [] [.ptr 4 0,.ptr 6 0,.ptr 5 0])],[some [.sl true 5 L],some [af d],some [af e],some [af f],some [af a],some [af start],some [af b]]⟩=Bo SS.CC 173 [.agg [af 4,.str ⟨#[]⟩,af 0,af 0,af 0],.ptr 0 0,.ptr 1 0,.ptr 2 0] [some [af a],some [af b],some [af start]] fun g c=>Oo g c fun h i j m n o p q=>K .normal ⟨[(0,.func (.yield l) [] []),(1,.cst (.str s)),(3,.ptr 4 0),(4,.ptr 5 0),(5,.ptr 6 0),(8,.func (.func 173) [] [.ptr 4 0,.ptr 6 0,.ptr 5 0]),(42,.func (.yield l) [] []),(43,.func (.func 173) [] [.ptr 4 0,.ptr 6 0,.ptr 5 0]),(44,.agg [af 4,.str ⟨#[]⟩,af 0,af 0,af 0]),(45,.agg [af h,.str i,af j,af m,af n])],[some [.sl true 5 L],some [af d],some [af e],some [af f],some [af o],some [af q],some [af p]]⟩:=by kernel_rfl
def c1A:Code:=tZ Tryz.f171
def c0Y:AE:=SS.ae 171 86
def c0Z:XE:=SS.xe SS.CC SS.LL c0Y 7
def c1B:Code:=Code.sub [false,true,true,false,false,false,true,true,true,true,true,false] c1A
def c1C (l:Nat) (K:AX->ASt->R) (s:ByteArray) (L:ai) (c d e a start b:Int):bD c0Z c1B K ⟨[(0,.func (.yield l) [] []),(1,.cst (.str s)),(3,.ptr 4 0),(4,.ptr 5 0),(5,.ptr 6 0),(8,.func (.func 173) [] [.ptr 4 0,.ptr 6 0,.ptr 5 0])],[some [.sl true 5 L],some [af c],some [af d],some [af e],some [af a],some [af start],some [af b]]⟩=K .normal ⟨[(0,.func (.yield l) [] []),(1,.cst (.str s)),(3,.ptr 4 0),(4,.ptr 5 0),(5,.ptr 6 0),(8,.func (.func 173) [] [.ptr 4 0,.ptr 6 0,.ptr 5 0]),(9,.func (.func 174) [] [])],[some [.sl true 5 L],some [af c],some [af d],some [af e],some [af a],some [af start],some [af b]]⟩:=by kernel_rfl
def c1G:Code:=tZ Tryz.f171
def c1E:AE:=SS.ae 171 86
def c1F:XE:=SS.xe SS.CC SS.LL c1E 7
def c1H:Code:=Code.sub [false,true,true,false,false,false,true,true,true,true,true,true,true,false] c1G
def c1I (l:Nat) (K:AX->ASt->R) (s:ByteArray) (L:ai) (i j m b start a:Int):bD c1F c1H K ⟨[(0,.func (.yield l) [] []),(1,.cst (.str s)),(3,.ptr 4 0),(4,.ptr 5 0),(5,.ptr 6 0),(8,.func (.func 173) [] [.ptr 4 0,.ptr 6 0,.ptr 5 0]),(9,.func (.func 174) [] [])],[some [.sl true 5 L],some [af i],some [af j],some [af m],some [af b],some [af start],some [af a]]⟩=bJ (decide (0<=a)&&decide (a<=(s.size:Int))) (kE SS.CC 174 [.str (s.extract a.toNat s.size)] fun n=>Hf n fun c d e f g h=>K .normal ⟨[(0,.func (.yield l) [] []),(1,.cst (.str s)),(3,.ptr 4 0),(4,.ptr 5 0),(5,.ptr 6 0),(8,.func (.func 173) [] [.ptr 4 0,.ptr 6 0,.ptr 5 0]),(9,.func (.func 174) [] []),(12,.ptr 7 0),(13,af h),(62,.tuple [.agg [af c,.str d,af e,af f,af g],af h]),(63,.func (.func 174) [] []),(64,.str s),(65,af a),(66,.str (s.extract a.toNat s.size)),(67,.tuple [.agg [af c,.str d,af e,af f,af g],af h]),(68,.agg [af c,.str d,af e,af f,af g]),(69,af h)],[some [.sl true 5 L],some [af i],some [af j],some [af m],some [af b],some [af start],some [af a],some [af c,.str d,af e,af f,af g]]⟩):=by kernel_rfl
def c1M:Code:=tZ Tryz.f171
def c1J:AE:=SS.ae 171 86
def c1K:XE:=SS.xe SS.CC SS.LL c1J 7
def c1N:Code:=Code.sub [false,true,true,false,false,false,true,true,true,true,true,true,true,false] c1M
def c1O (l:Nat) (K:AX->ASt->R) (s:ByteArray) (L:ai) (i j m b start a:Int):bD c1K c1N K ⟨[(0,.func (.yield l) [] []),(1,.cst (.str s)),(3,.ptr 4 0),(4,.ptr 5 0),(5,.ptr 6 0),(8,.func (.func 173) [] [.ptr 4 0,.ptr 6 0,.ptr 5 0]),(9,.func (.func 254) [] [])],[some [.sl true 5 L],some [af i],some [af j],some [af m],some [af b],some [af start],some [af a]]⟩=bJ (decide (0<=a)&&decide (a<=(s.size:Int))) (kE SS.CC 254 [.str (s.extract a.toNat s.size)] fun n=>Hf n fun c d e f g h=>K .normal ⟨[(0,.func (.yield l) [] []),(1,.cst (.str s)),(3,.ptr 4 0),(4,.ptr 5 0),(5,.ptr 6 0),(8,.func (.func 173) [] [.ptr 4 0,.ptr 6 0,.ptr 5 0]),(9,.func (.func 254) [] []),(12,.ptr 7 0),(13,af h),(62,.tuple [.agg [af c,.str d,af e,af f,af g],af h]),(63,.func (.func 254) [] []),(64,.str s),(65,af a),(66,.str (s.extract a.toNat s.size)),(67,.tuple [.agg [af c,.str d,af e,af f,af g],af h]),(68,.agg [af c,.str d,af e,af f,af g]),(69,af h)],[some [.sl true 5 L],some [af i],some [af j],some [af m],some [af b],some [af start],some [af a],some [af c,.str d,af e,af f,af g]]⟩):=by kernel_rfl
def c1R:Code:=tZ Tryz.f171
def c1P:AE:=SS.ae 171 86
def c1Q:XE:=SS.xe SS.CC SS.LL c1P 7
def c1S:Code:=Code.sub [false,true,true,false,false,false,true,true,true,true,true,true,true,false] c1R
def c1T (l:Nat) (K:AX->ASt->R) (s:ByteArray) (L:ai) (i j m b start a:Int):bD c1Q c1S K ⟨[(0,.func (.yield l) [] []),(1,.cst (.str s)),(3,.ptr 4 0),(4,.ptr 5 0),(5,.ptr 6 0),(8,.func (.func 173) [] [.ptr 4 0,.ptr 6 0,.ptr 5 0]),(9,.func (.func 256) [] [])],[some [.sl true 5 L],some [af i],some [af j],some [af m],some [af b],some [af start],some [af a]]⟩=bJ (decide (0<=a)&&decide (a<=(s.size:Int))) (kE SS.CC 256 [.str (s.extract a.toNat s.size)] fun n=>Hf n fun c d e f g h=>K .normal ⟨[(0,.func (.yield l) [] []),(1,.cst (.str s)),(3,.ptr 4 0),(4,.ptr 5 0),(5,.ptr 6 0),(8,.func (.func 173) [] [.ptr 4 0,.ptr 6 0,.ptr 5 0]),(9,.func (.func 256) [] []),(12,.ptr 7 0),(13,af h),(62,.tuple [.agg [af c,.str d,af e,af f,af g],af h]),(63,.func (.func 256) [] []),(64,.str s),(65,af a),(66,.str (s.extract a.toNat s.size)),(67,.tuple [.agg [af c,.str d,af e,af f,af g],af h]),(68,.agg [af c,.str d,af e,af f,af g]),(69,af h)],[some [.sl true 5 L],some [af i],some [af j],some [af m],some [af b],some [af start],some [af a],some [af c,.str d,af e,af f,af g]]⟩):=by kernel_rfl
def RL:ai := [.agg [.func (.func 253) [] [],.func (.func 254) [] []],.agg [.func (.func 255) [] [],.func (.func 256) [] []]]
def c62:SS.CC 175 [] []=o6 (.sl false 2 RL):=bKD
def aFV:Code:=Code.sub [false,true,true,false,false,false,true,true,true,true,true,true,false] jE
def a'L:Code:=Code.sub [false,true,true,false,false,false,true,true,true,true,true,true,false,true,false,false] jE
abbrev oN:PV := .func (.func 173) [] [.ptr 4 0,.ptr 6 0,.ptr 5 0]
abbrev mO (L:ai) (c1 c2 c3 line start at_:Int):aH := [some [.sl true 5 L],some [af c1],some [af c2],some [af c3],some [af line],some [af start],some [af at_]]
def L8 (l:Nat) (K:AX->ASt->R) (L:ai) (c d e:Int) (s:ByteArray) (a start b:Int) (f:Nat) (i:Int):R :=SS.LL PR 7 [0,1,3,4,5,8,9,47,48,49] 7 a'L (aS 4 K) ⟨[(0,.func (.yield l) [] []),(1,.cst (.str s)),(3,.ptr 4 0),(4,.ptr 5 0),(5,.ptr 6 0),(8,oN),(9,.func (.func f) [] []),(47,.sl false 2 RL),(48,af (RL.length:Int)),(49,af i)],mO L c d e a start b⟩
def b59 (l:Nat) (K:AX->ASt->R) (L:ai) (c d e:Int) (s:ByteArray) (a start b:Int) :
 bD D6 aFV K ⟨[(0,.func (.yield l) [] []),(1,.cst (.str s)),(3,.ptr 4 0),(4,.ptr 5 0),(5,.ptr 6 0),(8,oN),(9,.func (.func 174) [] [])],mO L c d e a start b⟩=L8 l K L c d e s a start b 174 0:=by
 have:bD D6 aFV K ⟨[(0,.func (.yield l) [] []),(1,.cst (.str s)),(3,.ptr 4 0),(4,.ptr 5 0),(5,.ptr 6 0),(8,oN),(9,.func (.func 174) [] [])],mO L c d e a start b⟩=kE SS.CC 175 [] fun g=>vL false 2 g fun f=>SS.LL PR 7 [0,1,3,4,5,8,9,47,48,49] 7 a'L (aS 4 K) ⟨[(0,.func (.yield l) [] []),(1,.cst (.str s)),(3,.ptr 4 0),(4,.ptr 5 0),(5,.ptr 6 0),(8,oN),(9,.func (.func 174) [] []),(47,.sl false 2 f),(48,af (f.length:Int)),(49,af 0)],mO L c d e a start b⟩:=by kernel_rfl
 rw[this,rq c62,Jz]; rfl
def b55 (l:Nat) (K:AX->ASt->R) (L:ai) (e f g:Int) (s:ByteArray) (a start d:Int) (h:Nat):L8 l K L e f g s a start d h 0=xx s d fun c=>kE SS.CC 253 [.int .u8 c] fun r=>vB r fun b=>aB b (L8 l K L e f g s a start d 254 1) (L8 l K L e f g s a start d h 1):=(FQ fG (by decide) (by kernel_rfl) (by kernel_rfl)).trans (by kernel_rfl)
theorem b56 (l:Nat) (K:AX->ASt->R) (L:ai) (e f g:Int) (s:ByteArray) (a start d:Int) (h:Nat):L8 l K L e f g s a start d h 1=xx s d fun c=>kE SS.CC 255 [.int .u8 c] fun r=>vB r fun b=>aB b (L8 l K L e f g s a start d 256 2) (L8 l K L e f g s a start d h 2):=(FQ fG (by decide) (by kernel_rfl) (by kernel_rfl)).trans (by kernel_rfl)
theorem b58 (l:Nat) (K:AX->ASt->R) (L:ai) (c d e:Int) (s:ByteArray) (a start b:Int) (f:Nat):L8 l K L c d e s a start b f 2=K .normal ⟨[(0,.func (.yield l) [] []),(1,.cst (.str s)),(3,.ptr 4 0),(4,.ptr 5 0),(5,.ptr 6 0),(8,oN),(9,.func (.func f) [] []),(47,.sl false 2 RL),(48,af (RL.length:Int)),(49,af 2),(50,.bool false)],mO L c d e a start b⟩:=(FQ fG (by decide) (by kernel_rfl) (by kernel_rfl)).trans (by kernel_rfl)
end Go.Proofs.YtmbehibpfkkjbaaGreatDoor
namespace Go.Proofs.YtmbehibpfkkjbaaGreatDoor
open Go.RowKit
set_option maxRecDepth 1000000
def yD:Code:=tZ Tryz.f20
def nZ:AE := { SS.ae 20 27 with vars := [2,3,4,5,6,7,13,14] }
def c05:Code:=tZ Tryz.f20
def c04:AE := { SS.ae 20 27 with vars := [2,3,4,5,6,7,13,14] }
def aFR:XE:=SS.xe SS.CC SS.LL c04 7
def aFS:Code:=Code.sub [true,true,false,true,false,true] c05
def c06 (l:Nat) (K:AX->ASt->R) (e k:Int) (t:ByteArray) (v ln a:Int) (L:ai) (d f g b start c:Int):bD aFR aFS K ⟨[(2,.ptr 0 0),(3,.ptr 1 0),(4,.ptr 2 0),(5,.ptr 3 0),(6,.ptr 7 0),(7,af e),(13,.agg [af k,.str t,af v,af ln,af a]),(14,af e)],[some [.sl true 5 L],some [af d],some [af f],some [af g],some [af b],some [af start],some [af c],some [af k,.str t,af v,af ln,af a]]⟩=aB (e != 0) (K .ret ⟨[(2,.ptr 0 0),(3,.ptr 1 0),(4,.ptr 2 0),(5,.ptr 3 0),(6,.ptr 7 0),(7,af e),(13,.agg [af k,.str t,af v,af ln,af a]),(14,af e),(17,.ptr 7 3),(18,af ln),(19,.ptr 7 4),(20,af a),(21,af e)],[some [.sl true 0 []],some [af ln],some [af a],some [af e],some [af b],some [af start],some [af c],some [af k,.str t,af v,af ln,af a]]⟩) (bJ (decide (L.length+1<=aN)) (K .normal ⟨[(2,.ptr 0 0),(3,.ptr 1 0),(4,.ptr 2 0),(5,.ptr 3 0),(6,.ptr 7 0),(7,af e),(13,.agg [af k,.str t,af v,af ln,af a]),(14,af e),(22,.sl false 5 L),(23,.agg [af k,.str t,af v,af ln,af a]),(24,.sl true 5 [.agg [af k,.str t,af v,af ln,af a]]),(25,.sl false 5 (L ++ [.agg [af k,.str t,af v,af ln,af a]]))],[some [.sl true 5 (L ++ [.agg [af k,.str t,af v,af ln,af a]])],some [af d],some [af f],some [af g],some [af b],some [af start],some [af c],some [af k,.str t,af v,af ln,af a]]⟩)):=(show bD aFR aFS K ⟨[(2,.ptr 0 0),(3,.ptr 1 0),(4,.ptr 2 0),(5,.ptr 3 0),(6,.ptr 7 0),(7,af e),(13,.agg [af k,.str t,af v,af ln,af a]),(14,af e)],[some [.sl true 5 L],some [af d],some [af f],some [af g],some [af b],some [af start],some [af c],some [af k,.str t,af v,af ln,af a]]⟩=aB (e != 0) (au (au (K .ret ⟨[(2,.ptr 0 0),(3,.ptr 1 0),(4,.ptr 2 0),(5,.ptr 3 0),(6,.ptr 7 0),(7,af e),(13,.agg [af k,.str t,af v,af ln,af a]),(14,af e),(17,.ptr 7 3),(18,af ln),(19,.ptr 7 4),(20,af a),(21,af e)],[some [.sl true 0 []],some [af ln],some [af a],some [af e],some [af b],some [af start],some [af c],some [af k,.str t,af v,af ln,af a]]⟩) (au (K .ret ⟨[(2,.ptr 0 0),(3,.ptr 1 0),(4,.ptr 2 0),(5,.ptr 3 0),(6,.ptr 7 0),(7,af e),(13,.agg [af k,.str t,af v,af ln,af a]),(14,af e),(17,.ptr 7 3),(18,af ln),(19,.ptr 7 4),(20,af a),(21,af e)],[some [.sl true 0 []],some [af ln],some [af a],some [af e],some [af b],some [af start],some [af c],some [af k,.str t,af v,af ln,af a]]⟩) (K .ret ⟨[(2,.ptr 0 0),(3,.ptr 1 0),(4,.ptr 2 0),(5,.ptr 3 0),(6,.ptr 7 0),(7,af e),(13,.agg [af k,.str t,af v,af ln,af a]),(14,af e),(17,.ptr 7 3),(18,af ln),(19,.ptr 7 4),(20,af a),(21,af e)],[some [.sl true 0 []],some [af ln],some [af a],some [af e],some [af b],some [af start],some [af c],some [af k,.str t,af v,af ln,af a]]⟩))) (au (au (K .ret ⟨[(2,.ptr 0 0),(3,.ptr 1 0),(4,.ptr 2 0),(5,.ptr 3 0),(6,.ptr 7 0),(7,af e),(13,.agg [af k,.str t,af v,af ln,af a]),(14,af e),(17,.ptr 7 3),(18,af ln),(19,.ptr 7 4),(20,af a),(21,af e)],[some [.sl true 0 []],some [af ln],some [af a],some [af e],some [af b],some [af start],some [af c],some [af k,.str t,af v,af ln,af a]]⟩) (K .ret ⟨[(2,.ptr 0 0),(3,.ptr 1 0),(4,.ptr 2 0),(5,.ptr 3 0),(6,.ptr 7 0),(7,af e),(13,.agg [af k,.str t,af v,af ln,af a]),(14,af e),(17,.ptr 7 3),(18,af ln),(19,.ptr 7 4),(20,af a),(21,af e)],[some [.sl true 0 []],some [af ln],some [af a],some [af e],some [af b],some [af start],some [af c],some [af k,.str t,af v,af ln,af a]]⟩)) (au (K .ret ⟨[(2,.ptr 0 0),(3,.ptr 1 0),(4,.ptr 2 0),(5,.ptr 3 0),(6,.ptr 7 0),(7,af e),(13,.agg [af k,.str t,af v,af ln,af a]),(14,af e),(17,.ptr 7 3),(18,af ln),(19,.ptr 7 4),(20,af a),(21,af e)],[some [.sl true 0 []],some [af ln],some [af a],some [af e],some [af b],some [af start],some [af c],some [af k,.str t,af v,af ln,af a]]⟩) (K .ret ⟨[(2,.ptr 0 0),(3,.ptr 1 0),(4,.ptr 2 0),(5,.ptr 3 0),(6,.ptr 7 0),(7,af e),(13,.agg [af k,.str t,af v,af ln,af a]),(14,af e),(17,.ptr 7 3),(18,af ln),(19,.ptr 7 4),(20,af a),(21,af e)],[some [.sl true 0 []],some [af ln],some [af a],some [af e],some [af b],some [af start],some [af c],some [af k,.str t,af v,af ln,af a]]⟩)))) (bJ (decide (L.length+1<=aN)) (K .normal ⟨[(2,.ptr 0 0),(3,.ptr 1 0),(4,.ptr 2 0),(5,.ptr 3 0),(6,.ptr 7 0),(7,af e),(13,.agg [af k,.str t,af v,af ln,af a]),(14,af e),(22,.sl false 5 L),(23,.agg [af k,.str t,af v,af ln,af a]),(24,.sl true 5 [.agg [af k,.str t,af v,af ln,af a]]),(25,.sl false 5 (L ++ [.agg [af k,.str t,af v,af ln,af a]]))],[some [.sl true 5 (L ++ [.agg [af k,.str t,af v,af ln,af a]])],some [af d],some [af f],some [af g],some [af b],some [af start],some [af c],some [af k,.str t,af v,af ln,af a]]⟩)) from by kernel_rfl).trans (by simp only[tV])
def c08:Code:=tZ Tryz.f20
def c07:AE := { SS.ae 20 27 with vars := [2,3,4,5,6,7,13,14] }
def aFT:XE:=SS.xe SS.CC SS.LL c07 8
def aFU:Code:=Code.sub [true,true,false,true,false,true] c08
def c09 (l:Nat) (K:AX->ASt->R) (e k:Int) (t:ByteArray) (v ln a:Int) (L:ai) (j m n b start c d:Int) (f:ByteArray) (g h i:Int):bD aFT aFU K ⟨[(2,.ptr 0 0),(3,.ptr 1 0),(4,.ptr 2 0),(5,.ptr 3 0),(6,.ptr 8 0),(7,af e),(13,.agg [af k,.str t,af v,af ln,af a]),(14,af e)],[some [.sl true 5 L],some [af j],some [af m],some [af n],some [af b],some [af start],some [af c],some [af d,.str f,af g,af h,af i],some [af k,.str t,af v,af ln,af a]]⟩=aB (e != 0) (K .ret ⟨[(2,.ptr 0 0),(3,.ptr 1 0),(4,.ptr 2 0),(5,.ptr 3 0),(6,.ptr 8 0),(7,af e),(13,.agg [af k,.str t,af v,af ln,af a]),(14,af e),(17,.ptr 8 3),(18,af ln),(19,.ptr 8 4),(20,af a),(21,af e)],[some [.sl true 0 []],some [af ln],some [af a],some [af e],some [af b],some [af start],some [af c],some [af d,.str f,af g,af h,af i],some [af k,.str t,af v,af ln,af a]]⟩) (bJ (decide (L.length+1<=aN)) (K .normal ⟨[(2,.ptr 0 0),(3,.ptr 1 0),(4,.ptr 2 0),(5,.ptr 3 0),(6,.ptr 8 0),(7,af e),(13,.agg [af k,.str t,af v,af ln,af a]),(14,af e),(22,.sl false 5 L),(23,.agg [af k,.str t,af v,af ln,af a]),(24,.sl true 5 [.agg [af k,.str t,af v,af ln,af a]]),(25,.sl false 5 (L ++ [.agg [af k,.str t,af v,af ln,af a]]))],[some [.sl true 5 (L ++ [.agg [af k,.str t,af v,af ln,af a]])],some [af j],some [af m],some [af n],some [af b],some [af start],some [af c],some [af d,.str f,af g,af h,af i],some [af k,.str t,af v,af ln,af a]]⟩)):=(show bD aFT aFU K ⟨[(2,.ptr 0 0),(3,.ptr 1 0),(4,.ptr 2 0),(5,.ptr 3 0),(6,.ptr 8 0),(7,af e),(13,.agg [af k,.str t,af v,af ln,af a]),(14,af e)],[some [.sl true 5 L],some [af j],some [af m],some [af n],some [af b],some [af start],some [af c],some [af d,.str f,af g,af h,af i],some [af k,.str t,af v,af ln,af a]]⟩=aB (e != 0) (au (au (K .ret ⟨[(2,.ptr 0 0),(3,.ptr 1 0),(4,.ptr 2 0),(5,.ptr 3 0),(6,.ptr 8 0),(7,af e),(13,.agg [af k,.str t,af v,af ln,af a]),(14,af e),(17,.ptr 8 3),(18,af ln),(19,.ptr 8 4),(20,af a),(21,af e)],[some [.sl true 0 []],some [af ln],some [af a],some [af e],some [af b],some [af start],some [af c],some [af d,.str f,af g,af h,af i],some [af k,.str t,af v,af ln,af a]]⟩) (au (K .ret ⟨[(2,.ptr 0 0),(3,.ptr 1 0),(4,.ptr 2 0),(5,.ptr 3 0),(6,.ptr 8 0),(7,af e),(13,.agg [af k,.str t,af v,af ln,af a]),(14,af e),(17,.ptr 8 3),(18,af ln),(19,.ptr 8 4),(20,af a),(21,af e)],[some [.sl true 0 []],some [af ln],some [af a],some [af e],some [af b],some [af start],some [af c],some [af d,.str f,af g,af h,af i],some [af k,.str t,af v,af ln,af a]]⟩) (K .ret ⟨[(2,.ptr 0 0),(3,.ptr 1 0),(4,.ptr 2 0),(5,.ptr 3 0),(6,.ptr 8 0),(7,af e),(13,.agg [af k,.str t,af v,af ln,af a]),(14,af e),(17,.ptr 8 3),(18,af ln),(19,.ptr 8 4),(20,af a),(21,af e)],[some [.sl true 0 []],some [af ln],some [af a],some [af e],some [af b],some [af start],some [af c],some [af d,.str f,af g,af h,af i],some [af k,.str t,af v,af ln,af a]]⟩))) (au (au (K .ret ⟨[(2,.ptr 0 0),(3,.ptr 1 0),(4,.ptr 2 0),(5,.ptr 3 0),(6,.ptr 8 0),(7,af e),(13,.agg [af k,.str t,af v,af ln,af a]),(14,af e),(17,.ptr 8 3),(18,af ln),(19,.ptr 8 4),(20,af a),(21,af e)],[some [.sl true 0 []],some [af ln],some [af a],some [af e],some [af b],some [af start],some [af c],some [af d,.str f,af g,af h,af i],some [af k,.str t,af v,af ln,af a]]⟩) (K .ret ⟨[(2,.ptr 0 0),(3,.ptr 1 0),(4,.ptr 2 0),(5,.ptr 3 0),(6,.ptr 8 0),(7,af e),(13,.agg [af k,.str t,af v,af ln,af a]),(14,af e),(17,.ptr 8 3),(18,af ln),(19,.ptr 8 4),(20,af a),(21,af e)],[some [.sl true 0 []],some [af ln],some [af a],some [af e],some [af b],some [af start],some [af c],some [af d,.str f,af g,af h,af i],some [af k,.str t,af v,af ln,af a]]⟩)) (au (K .ret ⟨[(2,.ptr 0 0),(3,.ptr 1 0),(4,.ptr 2 0),(5,.ptr 3 0),(6,.ptr 8 0),(7,af e),(13,.agg [af k,.str t,af v,af ln,af a]),(14,af e),(17,.ptr 8 3),(18,af ln),(19,.ptr 8 4),(20,af a),(21,af e)],[some [.sl true 0 []],some [af ln],some [af a],some [af e],some [af b],some [af start],some [af c],some [af d,.str f,af g,af h,af i],some [af k,.str t,af v,af ln,af a]]⟩) (K .ret ⟨[(2,.ptr 0 0),(3,.ptr 1 0),(4,.ptr 2 0),(5,.ptr 3 0),(6,.ptr 8 0),(7,af e),(13,.agg [af k,.str t,af v,af ln,af a]),(14,af e),(17,.ptr 8 3),(18,af ln),(19,.ptr 8 4),(20,af a),(21,af e)],[some [.sl true 0 []],some [af ln],some [af a],some [af e],some [af b],some [af start],some [af c],some [af d,.str f,af g,af h,af i],some [af k,.str t,af v,af ln,af a]]⟩)))) (bJ (decide (L.length+1<=aN)) (K .normal ⟨[(2,.ptr 0 0),(3,.ptr 1 0),(4,.ptr 2 0),(5,.ptr 3 0),(6,.ptr 8 0),(7,af e),(13,.agg [af k,.str t,af v,af ln,af a]),(14,af e),(22,.sl false 5 L),(23,.agg [af k,.str t,af v,af ln,af a]),(24,.sl true 5 [.agg [af k,.str t,af v,af ln,af a]]),(25,.sl false 5 (L ++ [.agg [af k,.str t,af v,af ln,af a]]))],[some [.sl true 5 (L ++ [.agg [af k,.str t,af v,af ln,af a]])],some [af j],some [af m],some [af n],some [af b],some [af start],some [af c],some [af d,.str f,af g,af h,af i],some [af k,.str t,af v,af ln,af a]]⟩)) from by kernel_rfl).trans (by simp only[tV])
def Gz:Code:=Code.sub [true,true,false,true,false,false] yD
def DD:Code:=Code.sub [true,true,false,true,false,true] yD
def b04:qU Gz=true:=by kernel_rfl
def b05:qU DD=true:=by kernel_rfl
def Ec:Tryz.prog.follows .mixedOrders=true:=by kernel_rfl
abbrev a8U (L:ai) (c1 c2 c3 line start at_ k:Int) (t:ByteArray) (v ln cl e:Int):ASt:=⟨[(2,.ptr 0 0),(3,.ptr 1 0),(4,.ptr 2 0),(5,.ptr 3 0),(6,.ptr 7 0),(7,af e),(13,.agg [af k,.str t,af v,af ln,af cl]),(14,af e)],[some [.sl true 5 L],some [af c1],some [af c2],some [af c3],some [af line],some [af start],some [af at_],some [af k,.str t,af v,af ln,af cl]]⟩
def c5W (K:AX->ASt->R) (L:ai) (c d f a start b k:Int) (t:ByteArray) (v ln g e:Int):bD (SS.xe SS.CC SS.LL nZ 7) Gz K ⟨[(2,.ptr 0 0),(3,.ptr 1 0),(4,.ptr 2 0),(5,.ptr 3 0),(13,.agg [af k,.str t,af v,af ln,af g]),(14,af e)],[some [.sl true 5 L],some [af c],some [af d],some [af f],some [af a],some [af start],some [af b]]⟩=K .normal (a8U L c d f a start b k t v ln g e):=by kernel_rfl
def aI5 (L:ai) (d f g a start c k:Int) (t:ByteArray) (v ln b e:Int):ASt:=⟨[(2,.ptr 0 0),(3,.ptr 1 0),(4,.ptr 2 0),(5,.ptr 3 0),(6,.ptr 7 0),(7,af e),(13,.agg [af k,.str t,af v,af ln,af b]),(14,af e),(17,.ptr 7 3),(18,af ln),(19,.ptr 7 4),(20,af b),(21,af e)],[some [.sl true 0 []],some [af ln],some [af b],some [af e],some [af a],some [af start],some [af c],some [af k,.str t,af v,af ln,af b]]⟩
def aI7 (L:ai) (d f g b start c k:Int) (t:ByteArray) (v ln a e:Int):ASt:=⟨[(2,.ptr 0 0),(3,.ptr 1 0),(4,.ptr 2 0),(5,.ptr 3 0),(6,.ptr 7 0),(7,af e),(13,.agg [af k,.str t,af v,af ln,af a]),(14,af e),(22,.sl false 5 L),(23,.agg [af k,.str t,af v,af ln,af a]),(24,.sl true 5 [.agg [af k,.str t,af v,af ln,af a]]),(25,.sl false 5 (L ++ [.agg [af k,.str t,af v,af ln,af a]]))],[some [.sl true 5 (L ++ [.agg [af k,.str t,af v,af ln,af a]])],some [af d],some [af f],some [af g],some [af b],some [af start],some [af c],some [af k,.str t,af v,af ln,af a]]⟩
def a_' (K:AX->ASt->R) (L:ai) (c d f a start b k:Int) (t:ByteArray) (v ln g e:Int):bD (SS.xe SS.CC SS.LL nZ 7) DD K (a8U L c d f a start b k t v ln g e)=aB (e != 0) (K .ret (aI5 L c d f a start b k t v ln g e)) (bJ (decide (L.length+1<=aN)) (K .normal (aI7 L c d f a start b k t v ln g e))) :=(show bD (SS.xe SS.CC SS.LL nZ 7) DD K (a8U L c d f a start b k t v ln g e)=bD aFR aFS K (a8U L c d f a start b k t v ln g e) from by kernel_rfl).trans (c06 0 K e k t v ln g L c d f a start b)
theorem c5Y (L:ai) (d f g a start b k:Int) (t:ByteArray) (v ln i e:Int) (n:L.length+1<=aN):fH nZ 7 Gz (Ff (fH nZ 7 DD fun j c=>if e=0 then j = .normal/\c=aI7 L d f g a start b k t v ln i e else j = .ret/\c=aI5 L d f g a start b k t v ln i e) fun _ _=>False) ⟨[(2,.ptr 0 0),(3,.ptr 1 0),(4,.ptr 2 0),(5,.ptr 3 0),(13,.agg [af k,.str t,af v,af ln,af i]),(14,af e)],[some [.sl true 5 L],some [af d],some [af f],some [af g],some [af a],some [af start],some [af b]]⟩:=by
 have l:qL (SS.xe SS.CC SS.LL nZ 7).E.P (SS.xe SS.CC SS.LL nZ 7).C:=Qe Ec fG Hm;have m:LV (SS.xe SS.CC SS.LL nZ 7):=a0H Ec fG Hm rfl;refine zo Gz (fun j c h => ?_) (MC (X:=(SS.xe SS.CC SS.LL nZ 7)) fG.V fG.W l m fun K=>c5W K L d f g a start b k t v ln i e);obtain ⟨rfl,rfl⟩:=h;show fH nZ 7 DD _ _;by_cases he:e=0
 .simp only[ay he];refine MC (X:=(SS.xe SS.CC SS.LL nZ 7)) fG.V fG.W l m fun K => ?_
  rw[a_',show (e != 0)=false by simp[he],aF,aQ (by grind)]
 .simp only[aX he];refine MC (X:=(SS.xe SS.CC SS.LL nZ 7)) fG.V fG.W l m fun K => ?_
  rw[a_',show (e != 0)=true by simp[he],aI]
abbrev a8V (L:ai) (c1 c2 c3 line start at_ x1:Int) (x2:ByteArray) (x3 x4 x5 k:Int) (t:ByteArray) (v ln cl e:Int):ASt:=⟨[(2,.ptr 0 0),(3,.ptr 1 0),(4,.ptr 2 0),(5,.ptr 3 0),(6,.ptr 8 0),(7,af e),(13,.agg [af k,.str t,af v,af ln,af cl]),(14,af e)],[some [.sl true 5 L],some [af c1],some [af c2],some [af c3],some [af line],some [af start],some [af at_],some [af x1,.str x2,af x3,af x4,af x5],some [af k,.str t,af v,af ln,af cl]]⟩
def c5X (K:AX->ASt->R) (L:ai) (c d f a start b g:Int) (h:ByteArray) (i j l k:Int) (t:ByteArray) (v ln m e:Int):bD (SS.xe SS.CC SS.LL nZ 8) Gz K ⟨[(2,.ptr 0 0),(3,.ptr 1 0),(4,.ptr 2 0),(5,.ptr 3 0),(13,.agg [af k,.str t,af v,af ln,af m]),(14,af e)],[some [.sl true 5 L],some [af c],some [af d],some [af f],some [af a],some [af start],some [af b],some [af g,.str h,af i,af j,af l]]⟩=K .normal (a8V L c d f a start b g h i j l k t v ln m e):=by kernel_rfl
def aI6 (L:ai) (j l m a start c d:Int) (f:ByteArray) (g h i k:Int) (t:ByteArray) (v ln b e:Int):ASt:=⟨[(2,.ptr 0 0),(3,.ptr 1 0),(4,.ptr 2 0),(5,.ptr 3 0),(6,.ptr 8 0),(7,af e),(13,.agg [af k,.str t,af v,af ln,af b]),(14,af e),(17,.ptr 8 3),(18,af ln),(19,.ptr 8 4),(20,af b),(21,af e)],[some [.sl true 0 []],some [af ln],some [af b],some [af e],some [af a],some [af start],some [af c],some [af d,.str f,af g,af h,af i],some [af k,.str t,af v,af ln,af b]]⟩
def aI8 (L:ai) (d f g b start c h:Int) (i:ByteArray) (j l m k:Int) (t:ByteArray) (v ln a e:Int):ASt:=⟨[(2,.ptr 0 0),(3,.ptr 1 0),(4,.ptr 2 0),(5,.ptr 3 0),(6,.ptr 8 0),(7,af e),(13,.agg [af k,.str t,af v,af ln,af a]),(14,af e),(22,.sl false 5 L),(23,.agg [af k,.str t,af v,af ln,af a]),(24,.sl true 5 [.agg [af k,.str t,af v,af ln,af a]]),(25,.sl false 5 (L ++ [.agg [af k,.str t,af v,af ln,af a]]))],[some [.sl true 5 (L ++ [.agg [af k,.str t,af v,af ln,af a]])],some [af d],some [af f],some [af g],some [af b],some [af start],some [af c],some [af h,.str i,af j,af l,af m],some [af k,.str t,af v,af ln,af a]]⟩
def b03 (K:AX->ASt->R) (L:ai) (c d f a start b g:Int) (h:ByteArray) (i j l k:Int) (t:ByteArray) (v ln m e:Int):bD (SS.xe SS.CC SS.LL nZ 8) DD K (a8V L c d f a start b g h i j l k t v ln m e)=aB (e != 0) (K .ret (aI6 L c d f a start b g h i j l k t v ln m e)) (bJ (decide (L.length+1<=aN)) (K .normal (aI8 L c d f a start b g h i j l k t v ln m e))) :=(show bD (SS.xe SS.CC SS.LL nZ 8) DD K (a8V L c d f a start b g h i j l k t v ln m e)=bD aFT aFU K (a8V L c d f a start b g h i j l k t v ln m e) from by kernel_rfl).trans (c09 0 K e k t v ln m L c d f a start b g h i j l)
theorem c5Z (L:ai) (d f g a start b i:Int) (j:ByteArray) (l m n k:Int) (t:ByteArray) (v ln o e:Int) (u:L.length+1<=aN):fH nZ 8 Gz (Ff (fH nZ 8 DD fun p c=>if e=0 then p = .normal/\c=aI8 L d f g a start b i j l m n k t v ln o e else p = .ret/\c=aI6 L d f g a start b i j l m n k t v ln o e) fun _ _=>False) ⟨[(2,.ptr 0 0),(3,.ptr 1 0),(4,.ptr 2 0),(5,.ptr 3 0),(13,.agg [af k,.str t,af v,af ln,af o]),(14,af e)],[some [.sl true 5 L],some [af d],some [af f],some [af g],some [af a],some [af start],some [af b],some [af i,.str j,af l,af m,af n]]⟩:=by
 have q:qL (SS.xe SS.CC SS.LL nZ 8).E.P (SS.xe SS.CC SS.LL nZ 8).C:=Qe Ec fG Hm;have r:LV (SS.xe SS.CC SS.LL nZ 8):=a0H Ec fG Hm rfl;refine zo Gz (fun p c h => ?_) (MC (X:=(SS.xe SS.CC SS.LL nZ 8)) fG.V fG.W q r fun K=>c5X K L d f g a start b i j l m n k t v ln o e);obtain ⟨rfl,rfl⟩:=h;show fH nZ 8 DD _ _;by_cases he:e=0
 .simp only[ay he];refine MC (X:=(SS.xe SS.CC SS.LL nZ 8)) fG.V fG.W q r fun K => ?_
  rw[b03,show (e != 0)=false by simp[he],aF,aQ (by grind)]
 .simp only[aX he];refine MC (X:=(SS.xe SS.CC SS.LL nZ 8)) fG.V fG.W q r fun K => ?_
  rw[b03,show (e != 0)=true by simp[he],aI]
def c1W:Code:=tZ Tryz.f171
def c1V:AE:=SS.ae 171 86
def a'K:XE:=SS.xe SS.CC SS.LL c1V 8
def a8B:Code:=Code.sub [false,true,true,false,false,false,true,true,true,true,true,true,true,true,false,false] c1W
def c1X (l:Nat) (K:AX->ASt->R) (s:ByteArray) (e:Int) (L:ai) (g h i c start d k:Int) (t:ByteArray) (v a b:Int):lI a'K false (gK a8B) (((gK a8B).toList.drop 0).take 5) (K .normal) ⟨[(0,.func (.yield l) [] []),(1,.cst (.str s)),(3,.ptr 4 0),(4,.ptr 5 0),(5,.ptr 6 0),(8,.func (.func 173) [] [.ptr 4 0,.ptr 6 0,.ptr 5 0]),(12,.ptr 7 0),(13,af e)],[some [.sl true 5 L],some [af g],some [af h],some [af i],some [af c],some [af start],some [af d],some [af k,.str t,af v,af a,af b]]⟩=Bo SS.CC 173 [.agg [af k,.str t,af v,af a,af b],.ptr 0 0,.ptr 1 0,.ptr 2 0] [some [af c],some [af d],some [af start]] fun j f=>Oo j f fun m n o p q r u w=>K .normal ⟨[(0,.func (.yield l) [] []),(1,.cst (.str s)),(3,.ptr 4 0),(4,.ptr 5 0),(5,.ptr 6 0),(8,.func (.func 173) [] [.ptr 4 0,.ptr 6 0,.ptr 5 0]),(12,.ptr 7 0),(13,af e),(70,.func (.yield l) [] []),(71,.func (.func 173) [] [.ptr 4 0,.ptr 6 0,.ptr 5 0]),(72,.agg [af k,.str t,af v,af a,af b]),(73,.agg [af m,.str n,af o,af p,af q]),(74,af e)],[some [.sl true 5 L],some [af g],some [af h],some [af i],some [af r],some [af w],some [af u],some [af k,.str t,af v,af a,af b]]⟩:=by kernel_rfl
def c22:Code:=tZ Tryz.f171
def c1Y:AE:=SS.ae 171 86
def c1Z:XE:=SS.xe SS.CC SS.LL c1Y 8
def c26:Code:=Code.sub [false,true,true,false,false,false,true,true,true,true,true,true,true,true,true,false] c22
def c27 (l:Nat) (K:AX->ASt->R) (s:ByteArray) (L:ai) (e f g d start c k:Int) (t:ByteArray) (v a b:Int):bD c1Z c26 K ⟨[(0,.func (.yield l) [] []),(1,.cst (.str s)),(3,.ptr 4 0),(4,.ptr 5 0),(5,.ptr 6 0),(12,.ptr 7 0)],[some [.sl true 5 L],some [af e],some [af f],some [af g],some [af d],some [af start],some [af c],some [af k,.str t,af v,af a,af b]]⟩=K .normal ⟨[(0,.func (.yield l) [] []),(1,.cst (.str s)),(3,.ptr 4 0),(4,.ptr 5 0),(5,.ptr 6 0),(12,.ptr 7 0),(81,af c),(82,.ptr 7 1),(83,.str t),(84,af (t.size:Int)),(85,af (i64.wrap (c+(t.size:Int))))],[some [.sl true 5 L],some [af e],some [af f],some [af g],some [af d],some [af start],some [af (i64.wrap (c+(t.size:Int)))],some [af k,.str t,af v,af a,af b]]⟩:=by kernel_rfl
def k:Code:=Code.sub [] jE
def k0:Code:=Code.sub [false] jE
def k00:Code:=Code.sub [false,false] jE
def k01:Code:=Code.sub [false,true] jE
def aW8:Code:=Code.sub [false,true,false] jE
def bXC:aW8 = .label 0:=by kernel_rfl
def aDL:Code:=Code.sub [false,true,true] jE
def aW9:Code:=Code.sub [false,true,true,false] jE
def Ou:Code:=Code.sub [false,true,true,false,false] jE
def aDM:Code:=Code.sub [false,true,true,false,false,false] jE
def bXD:Code:=Code.sub [false,true,true,false,false,false,false] jE
def a6T:Code:=Code.sub [false,true,true,false,false,false,true] jE
def bXE:Code:=Code.sub [false,true,true,false,false,false,true,false] jE
def a6U:Code:=Code.sub [false,true,true,false,false,false,true,true] jE
def bXF:Code:=Code.sub [false,true,true,false,false,false,true,true,false] jE
def Jy:Code:=Code.sub [false,true,true,false,false,false,true,true,true] jE
def bXG:Code:=Code.sub [false,true,true,false,false,false,true,true,true,false] jE
def Tj:Code:=Code.sub [false,true,true,false,false,false,true,true,true,true] jE
def aWA:Code:=Code.sub [false,true,true,false,false,false,true,true,true,true,false] jE
def bXH:Code:=Code.sub [false,true,true,false,false,false,true,true,true,true,false,false] jE
def a6W:Code:=Code.sub [false,true,true,false,false,false,true,true,true,true,false,true] jE
def aWB:Code:=Code.sub [false,true,true,false,false,false,true,true,true,true,false,true,false] jE
def Ov:Code:=Code.sub [false,true,true,false,false,false,true,true,true,true,false,true,false,false] jE
def bXN:Ov = .region 10 (gK Ov) false:=by kernel_rfl
def aDO:Code:=Code.sub [false,true,true,false,false,false,true,true,true,true,false,true,false,true] jE
def bXO:aDO = .ret:=by kernel_rfl
def bXP:aWB = .seq Ov aDO:=by kernel_rfl
def aWC:Code:=Code.sub [false,true,true,false,false,false,true,true,true,true,false,true,true] jE
def bXQ:aWC = .skip:=by kernel_rfl
def aWD:a6W = .cond (.tmp 41) aWB aWC:=by kernel_rfl
def aWE:aWA = .seq bXH a6W:=by kernel_rfl
def a6Y:Code:=Code.sub [false,true,true,false,false,false,true,true,true,true,true] jE
def bXR:Code:=Code.sub [false,true,true,false,false,false,true,true,true,true,true,false] jE
def aDP:Code:=Code.sub [false,true,true,false,false,false,true,true,true,true,true,true] jE
def bXS:Code:=Code.sub [false,true,true,false,false,false,true,true,true,true,true,true,false] jE
def aDQ:Code:=Code.sub [false,true,true,false,false,false,true,true,true,true,true,true,true] jE
def aWF:Code:=Code.sub [false,true,true,false,false,false,true,true,true,true,true,true,true,false] jE
def aDR:Code:=Code.sub [false,true,true,false,false,false,true,true,true,true,true,true,true,true] jE
def aWG:Code:=Code.sub [false,true,true,false,false,false,true,true,true,true,true,true,true,true,false] jE
def yl:Code:=Code.sub [false,true,true,false,false,false,true,true,true,true,true,true,true,true,false,false] jE
def bXY:yl = .region 19 (gK yl) false:=by kernel_rfl
def a7A:Code:=Code.sub [false,true,true,false,false,false,true,true,true,true,true,true,true,true,false,true] jE
def aWH:Code:=Code.sub [false,true,true,false,false,false,true,true,true,true,true,true,true,true,false,true,false] jE
def bXZ:aWH = .ret:=by kernel_rfl
def aWI:Code:=Code.sub [false,true,true,false,false,false,true,true,true,true,true,true,true,true,false,true,true] jE
def bX':aWI = .skip:=by kernel_rfl
def aWJ:a7A = .cond (.tmp 80) aWH aWI:=by kernel_rfl
def bY0:aWG = .seq yl a7A:=by kernel_rfl
def aDT:Code:=Code.sub [false,true,true,false,false,false,true,true,true,true,true,true,true,true,true] jE
def bY1:Code:=Code.sub [false,true,true,false,false,false,true,true,true,true,true,true,true,true,true,false] jE
def aDU:Code:=Code.sub [false,true,true,false,false,false,true,true,true,true,true,true,true,true,true,true] jE
def bY2:aDU = .exit 1:=by kernel_rfl
def bY3:aDT = .seq bY1 aDU:=by kernel_rfl
def bY4:aDR = .seq aWG aDT:=by kernel_rfl
def bY5:aDQ = .seq aWF aDR:=by kernel_rfl
def bY6:aDP = .seq bXS aDQ:=by kernel_rfl
def bY7:a6Y = .seq bXR aDP:=by kernel_rfl
def aWK:Tj = .seq aWA a6Y:=by kernel_rfl
def bY8:Jy = .seq bXG Tj:=by kernel_rfl
def bY9:a6U = .seq bXF Jy:=by kernel_rfl
def bYA:a6T = .seq bXE a6U:=by kernel_rfl
def bYB:aDM = .seq bXD a6T:=by kernel_rfl
def aDV:Ou = .block 1 aDM:=by kernel_rfl
def bYC:aW9 = .loop Ou:=by kernel_rfl
def bYD:aDL = .block 0 aW9:=by kernel_rfl
def bYE:k01 = .seq aW8 aDL:=by kernel_rfl
def bYF:k0 = .seq k00 k01:=by kernel_rfl
def bYG:k = .scope k0:=by kernel_rfl
def a6X:Oper:=(gK Ov)[4]!
def aDN:Call:=match a6X.op with | .call c=>c | _=>default
def bXI:a6X.op = .call aDN:=by kernel_rfl
def bXJ:a6X.guard=none:=by kernel_rfl
def bXK:aDN.callee = .value (.tmp 42):=by kernel_rfl
def bXL:aDN.args = #[(.tmp 45),(.const (.int .i64 0))]:=by kernel_rfl
def bXM:(gK Ov).toList=((gK Ov).toList.drop 0).take 4 ++ a6X::((gK Ov).toList.drop 5).take 5:=by kernel_rfl
def a6Z:Oper:=(gK yl)[5]!
def aDS:Call:=match a6Z.op with | .call c=>c | _=>default
def bXT:a6Z.op = .call aDS:=by kernel_rfl
def bXU:a6Z.guard=none:=by kernel_rfl
def bXV:aDS.callee = .value (.tmp 70):=by kernel_rfl
def bXW:aDS.args = #[(.tmp 73),(.tmp 74)]:=by kernel_rfl
def bXX:(gK yl).toList=((gK yl).toList.drop 0).take 5 ++ a6Z::((gK yl).toList.drop 6).take 5:=by kernel_rfl
def vT:d_->Nat->Nat×Nat->Nat×Nat
 | [],_,p=>p
 | b::l,i,p=>vT l (i+1) (if b=10 then (p.1+1,i+1) else p)
def dw (l:d_):Tok×Int:=match l with
 | []=>Es []
 | b::l=>if gq b.toNat then Cm (b::l) else if iU b.toNat then DN (b::l) else Es (b::l)
inductive Jw where
 | ok (ts:List Tok)
 | err (line uS e:Int)
def Tok.at (t:Tok) (line uS:Int):Tok := { t with line:=line,uS:=uS }
def uj:Nat->d_->Nat->Nat->Nat->List Tok->Jw
 | 0,_,_,_,_,_ => .err 0 0 0
 | f+1,a,i,c,start,bZ =>
  let g:=jJ false a
  let p:=vT (a.take g) i (c,start)
  match a.drop g with
  | [] => .ok (bZ ++ [(⟨4,[],0,(p.1:Nat),((i+g-p.2+1:Nat):Int)⟩:Tok)])
  | b::r =>
   if (dw (b::r)).2=0 then uj f ((b::r).drop (dw (b::r)).1.text.length) (i+g+(dw (b::r)).1.text.length) p.1 p.2 (bZ ++ [(dw (b::r)).1.at (p.1:Nat) ((i+g-p.2+1:Nat):Int)])
   else .err (p.1:Nat) ((i+g-p.2+1:Nat):Int) (dw (b::r)).2
theorem Uf:∀ (c:Bool) (l:d_),jJ c l<=l.length
 | _,[]=>by cases ‹Bool› <;> simp[jJ]
 | true,b::l=>by have a:=Uf false l;have d:=Uf true l;rw[jJ]; split<;>simp<;>omega
 | false,b::l=>by have a:=Uf false l;have d:=Uf true l;rw[jJ]; grind
def aF5:∀ (l:d_) (i:Nat) (p:Nat×Nat),p.2<=i->(vT l i p).2<=i+l.length/\p.1<=(vT l i p).1/\(vT l i p).1<=p.1+l.length
 | [],i,p,h=>by simp[vT,h]
 | b::l,i,p,h=>by
  rw[vT];split
  .have:=aF5 l (i+1) (p.1+1,i+1) (by simp);simp only[bT] at *; omega
  .have:=aF5 l (i+1) p (by omega);simp only[bT]; omega
variable {a:d_} {n m:Nat} {d:Nat->Nat} {e:ASt} {M:Mem} {B:aT} {w:World} {b:Array Value}
theorem c56 {p:Nat->Bool} {b:UInt8} (h:p b.toNat=true):0<(dQ p (b::a)).length:=by grind [dQ,List.takeWhile_cons]
theorem QH {x:d_} (h:H9 a=some x):x∈lC/\x.isPrefixOf a=true:=by grind [H9]
theorem aIJ:∀ x∈lC,0<x.length/\x.length<=2:=by decide
theorem Pg {b:UInt8} {r:d_} (h:(dw (b::r)).2=0):0<(dw (b::r)).1.text.length/\(dw (b::r)).1.text.length<=(b::r).length:=by rw[show dw (b::r)=if gq b.toNat then Cm (b::r) else if iU b.toNat then DN (b::r) else Es (b::r) from rfl] at h ⊢;grind [c56,a_L,Cm,iy,DN,Es,H9,aIJ]
def ji (l:Nat) (b:Loop) (a:Nat->Nat):YC:=⟨PR,nZ,l,7,b,a,[(2,.ptr 0 0),(3,.ptr 1 0),(4,.ptr 2 0),(5,.ptr 3 0)]⟩
structure RG (rc:Loop):Prop where
 par:rc.params = #[13,14]
 asg:rc.assign=Gz
 bod:rc.body=DD
 tm:rc.tmps.size=27
def aAN {a:Loop} (b:1<=d n):(ji n a d).OK:=⟨Ec,rfl,b⟩
section
variable {l:Nat} {rc:Loop} {out:Nat->Nat}
theorem pc (a:1<=out l) {c:Code} {Q:AX->ASt->AX->Prop} {j ax:AX} {σt:ASt} (h:∀ K,bD D6 c K e=K ax σt) (hq:Q ax σt j):Tr (ji l rc out) c Q j e :=Tr.aFD (aAN a) (MC (X:=D6) fG.V fG.W (Qe Ec fG Hm) (a0H Ec fG Hm rfl) h) (by simp_all)
theorem a7' {b:Array Oper} {c:List Oper} {σt:ASt} (h:∀ K:ASt->R,lI D6 false b c K e=K σt):nT PR b c (fun a=>a=σt) e:=by
 have d:lI D6 false b c (fun a=>UK .normal σt .normal a) e=some (.nilp,[]):=by rw[h]; simp[UK]
 refine FZ (fun a he => ?_) _ (WV (X:=D6) fG.V fG.W (Qe Ec fG Hm) c d);grind [UK]
end
abbrev oC (l:Nat) (s:ByteArray) (t:gp):gp:=(0,.func (.yield l) [] [])::(1,.cst (.str s))::(3,.ptr 4 0)::(4,.ptr 5 0)::(5,.ptr 6 0)::t
def qF {a:Type} {l:List a} (h:n<l.length):(l.drop n).take (m+1)=l[n]::(l.drop (n+1)).take m:=by rw[F7 h,List.take_succ_cons]
theorem bZP (l:Nat) (K:AX->ASt->R) (a:d_) (L:ai) (j n o:Int) (c g:Nat) (t:c+g<=a.length) (u:a.length<=1000000):∀ (m i d start:Nat),i+m=c+g->d<=i+1 ->
 Yl l K (bs a) (g:Int) (i:Int) L j n o (d:Int) (start:Int) (c:Int) =
  K .normal ⟨oC l (bs a) [(6,af (g:Int)),(7,af ((c+g:Nat):Int)),(19,af ((c+g:Nat):Int)),(20,af (c:Int)),(21,af (g:Int)),(22,af ((c+g:Nat):Int)),(23,.bool false)],
   mO L j n o ((vT ((a.drop i).take m) i (d,start)).1:Nat) ((vT ((a.drop i).take m) i (d,start)).2:Nat) (c:Int)⟩:=by
 have p:i64.wrap ((c:Int)+(g:Int))=((c+g:Nat):Int):=by rw[wrap64 (by omega) (by omega)]; omega
 intro m;induction m with
 | zero =>
  intro i d start q r;rw[a'G,p,aU (by omega),aF,List.take_zero];have:i=c+g:=by omega
  subst this;rfl
 | succ m v =>
  intro i d start q r;have f:i<a.length:=by omega
  rw[a'G,p,aK (by omega),aI,IC (b:=a[i]) (by omega) (by rw[KJ]; simp[f]),show ((a[i].toNat:Int)==10)=(a[i].toNat==10) from OC _ 10,bK (by omega),bK (by omega),qF f,vT];by_cases h:a[i]=10
  .rw[h,show ((10:UInt8).toNat==10)=true from rfl,aI,ay rfl];grind
  .have:(a[i].toNat==10)=false:=by rw[tH]; intro e; exact h (UInt8.toNat_inj.1 (by rw[e]; rfl))
   rw[this,aF,aX h];grind
def UY (b:UInt8):Nat:=if gq b.toNat then 256 else if iU b.toNat then 254 else 174
theorem c55 (l:Nat) (K:AX->ASt->R) (a:d_) (L:ai) (d e f c start:Int) (b:Nat) (h:b<a.length) :
 bD D6 aFV K ⟨oC l (bs a) [(8,oN),(9,.func (.func 174) [] [])],mO L d e f c start (b:Int)⟩=K .normal ⟨oC l (bs a) [(8,oN),(9,.func (.func (UY a[b])) [] []),(47,.sl false 2 RL),(48,af (RL.length:Int)),(49,af 2),(50,.bool false)],mO L d e f c start (b:Int)⟩:=by
 have g:((bs a)[(b:Int).toNat]? : Option UInt8)=some a[b]:=by rw[nC,KJ]; simp[h]
 rw[b59,b55,IC (by omega) g,rq (c78 _),BX];grind [UY,iU,aF,b56,IC,rq,c80,BX,b58,aI]
def RZ (a:d_) (i:Nat):(bs a).extract i (bs a).size=bs (a.drop i):=by rw[lH,RY,VD (by simp)]
section
variable {l:Nat} {rc:Loop} {out:Nat->Nat} {L:ai} {f g h:Int} {Q:AX->ASt->AX->Prop}
def aG1 (e:1<=out l) {i b d start:Nat} (o:a.length<=1000000) (t:i<=a.length) (q:d<=i+1) (n:jJ false (a.drop i)=b)
 (c:Tr (ji l rc out) Tj Q .normal ⟨oC l (bs a) [(8,oN)],mO L f g h ((vT ((a.drop i).take b) i (d,start)).1:Nat) ((vT ((a.drop i).take b) i (d,start)).2:Nat) ((i+b:Nat):Int)⟩) :
 Tr (ji l rc out) aDM Q .normal ⟨oC l (bs a) [],mO L f g h (d:Int) (start:Int) (i:Int)⟩:=by
 have j:=Uf false (a.drop i);rw[n,qH] at j;generalize r:vT ((a.drop i).take b) i (d,start)=p at c;rw[bYB];refine Tr.seq (pc (σt:=⟨oC l (bs a) [(6,af (b:Int)),(14,.str (bs a)),(15,af (i:Int)),(16,.str (bs (a.drop i))),(17,af (b:Int))],mO L f g h d start i⟩) (ax := .normal) e (fun K => ?_) ?_)
 .refine (c0B l K (bs a) L f g h d start i).trans ?_;rw[aQ (by rw[lH]; simp; omega),nC,RZ,rq (c59 (a.drop i) (by simp; omega)),vZ,n]
 show Tr (ji l rc out) a6T Q .normal _;refine Tr.gc (l := [0,1,3,4,5,6]) (m:=7) (dO _) rfl ?_;show Tr (ji l rc out) a6T Q .normal ⟨oC l (bs a) [(6,af (b:Int))],mO L f g h d start i⟩;rw[bYA];refine Tr.seq (pc (σt:=⟨oC l (bs a) [(6,af (b:Int)),(7,af ((i+b:Nat):Int)),(19,af ((i+b:Nat):Int)),(20,af (i:Int)),(21,af (b:Int)),(22,af ((i+b:Nat):Int)),(23,.bool false)],mO L f g h (p.1:Nat) (p.2:Nat) i⟩) (ax := .normal) e (fun K => ?_) ?_)
 .refine (c0G l K (bs a) b L f g h d start i).trans ?_;rw[bZP l K a L f g h i b (by omega) o b i d start rfl q,r]
 show Tr (ji l rc out) a6U Q .normal _;refine Tr.gc (l := [0,1,3,4,5,6]) (m:=7) (dO _) rfl ?_;show Tr (ji l rc out) a6U Q .normal ⟨oC l (bs a) [(6,af (b:Int))],mO L f g h (p.1:Nat) (p.2:Nat) i⟩;rw[bY9];refine Tr.seq (pc (ax := .normal) e (fun K=>c0L l K (bs a) b L f g h (p.1:Nat) (p.2:Nat) i) ?_);show Tr (ji l rc out) Jy Q .normal _;refine Tr.gc (l := [0,1,3,4,5]) (m:=7) (dO _) rfl ?_;rw[show i64.wrap ((i:Int)+(b:Int))=((i+b:Nat):Int) by rw[wrap64 (by omega) (by omega)]; omega];show Tr (ji l rc out) Jy Q .normal ⟨oC l (bs a) [],mO L f g h (p.1:Nat) (p.2:Nat) ((i+b:Nat):Int)⟩;rw[bY8];refine Tr.seq (pc (ax := .normal) e (fun K=>c0Q l K (bs a) L f g h (p.1:Nat) (p.2:Nat) ((i+b:Nat):Int)) ?_);show Tr (ji l rc out) Tj Q .normal _;exact Tr.gc (l := [0,1,3,4,5,8]) (m:=7) (dO _) rfl c
def aMI {i start:Nat} (a:start<=i) (b:i<=1000000):i64.wrap (i64.wrap ((i:Int)-(start:Int))+1)=((i-start+1:Nat):Int):=by rw[wrap64 (n:=(i:Int)-start) (by omega) (by omega),wrap64 (by omega) (by omega)]; omega
theorem b9U (o:1<=out l) (e:RG rc) {i d start:Nat} (w:a.length<=1000000) (q:i=a.length) (r:start<=i) (t:L.length+1<=aN)
 (c:∀ p,p.h.take 4 = [some [.sl true 5 (L ++ [bM ⟨4,[],0,(d:Int),((i-start+1:Nat):Int)⟩])],some [af f],some [af g],some [af h]]->Q .ret p .normal) :
 Tr (ji l rc out) Tj Q .normal ⟨oC l (bs a) [(8,oN)],mO L f g h (d:Int) (start:Int) (i:Int)⟩:=by
 rw[aWK];refine Tr.seq ?_;rw[aWE];refine Tr.seq (pc (ax := .normal) o (fun K=>a'I l K (bs a) L f g h d start i) ?_);show Tr (ji l rc out) a6W _ .normal _;rw[show ((i:Int)==((bs a).size:Int))=true by rw[lH,q]; simp,aWD];refine Tr.cond (b:=true) rfl (fun _ => ?_) (fun c=>by cases c);rw[bXP];refine Tr.seq ?_;rw[bXN];refine Tr.gc (l := [0,1,3,4,5,8]) (m:=7) (dO _) rfl ?_;refine Tr.yield (aAN o) bXM bXI bXJ bXK bXL e.par (by decide) (show 14<27 by decide) ?_ ?_ e.tm (by show qU rc.assign=true; rw[e.asg]; exact b04) (by show qU rc.body=true; rw[e.bod]; exact b05) ?_;grind [ji]
 .simp[kD,ji]
 .refine FZ (fun u n => ?_) _ (a7' (σt:=⟨oC l (bs a) [(8,oN),(42,.func (.yield l) [] []),(43,oN),(44,.agg [af 4,.str ⟨#[]⟩,af 0,af 0,af 0]),(45,.agg [af 4,.str ⟨#[]⟩,af 0,af (d:Int),af ((i-start+1:Nat):Int)])],mO L f g h d start i⟩) fun K => ?_)
  .subst n;have v:=c5Y L f g h d start i 4 ⟨#[]⟩ 0 d ((i-start+1:Nat):Int) 0 t;refine ⟨.agg [af 4,.str ⟨#[]⟩,af 0,af (d:Int),af ((i-start+1:Nat):Int)],af 0,fun ax j=>if (0:Int)=0 then ax = .normal/\j=aI7 L f g h d start i 4 ⟨#[]⟩ 0 d ((i-start+1:Nat):Int) 0 else ax = .ret/\j=aI5 L f g h d start i 4 ⟨#[]⟩ 0 d ((i-start+1:Nat):Int) 0,rfl,rfl,rfl,dO _,?_,?_⟩
   .show fH nZ 7 rc.assign (Ff (fH nZ 7 rc.body _) fun _ _=>False) _;rw[e.asg,e.bod];exact v
   .intro ax j hq;rw[ay rfl] at hq;obtain ⟨rfl,rfl⟩:=hq;refine ⟨rfl,?_⟩;show Tr (ji l rc out) aDO _ .normal _;rw[bXO];exact Tr.ret (c _ rfl)
  .refine Eq.trans (b:=lI a'J false (gK a8A) (((gK a8A).toList.drop 0).take 4) K ⟨oC l (bs a) [(8,oN)],mO L f g h d start i⟩) rfl ?_;refine (c0X l (fun _=>K) (bs a) L f g h d start i).trans ?_;unfold Bo;rw[aQO,aMI r (by omega)];rfl
end
abbrev h6 (t:Tok):ai := [af t.kind,.str (bs t.text),af t.value,af t.line,af t.uS]
def c3V (l:Nat) (K:AX->ASt->R) (a:d_) (L:ai) (c d f b start:Int) (i:Nat) (h:i<a.length) (p:a.length<=1000000) :
 bD D6 aWF K ⟨oC l (bs a) [(8,oN),(9,.func (.func (UY a[i])) [] [])],mO L c d f b start (i:Int)⟩ =
  K .normal ⟨oC l (bs a) [(8,oN),(9,.func (.func (UY a[i])) [] []),(12,.ptr 7 0),(13,af (dw (a.drop i)).2),(62,rd (dw (a.drop i))),(63,.func (.func (UY a[i])) [] []),(64,.str (bs a)),(65,af (i:Int)),(66,.str (bs (a.drop i))),(67,rd (dw (a.drop i))),(68,bM (dw (a.drop i)).1),(69,af (dw (a.drop i)).2)],
   mO L c d f b start (i:Int) ++ [some (h6 (dw (a.drop i)).1)]⟩:=by
 have e:a.drop i=a[i]::a.drop (i+1):=F7 h;have j:(decide (0<=(i:Int))&&decide ((i:Int)<=((bs a).size:Int)))=true:=by rw[lH]; simp; omega
 have n:(a.drop i).length<=1000000:=by simp; omega
 unfold UY;cases m:gq a[i].toNat with
 | true =>
  have g:dw (a.drop i)=Cm (a.drop i):=by rw[e]; simp[dw,m]
  refine (c1T l K (bs a) L c d f b start i).trans ?_;rw[aQ j,nC,RZ,rq (c81 _ n),g];rfl
 | false =>
  cases o:iU a[i].toNat with
  | true =>
   have g:dw (a.drop i)=DN (a.drop i):=by rw[e]; simp[dw,m,o]
   refine (c1O l K (bs a) L c d f b start i).trans ?_;rw[aQ j,nC,RZ,rq (c79 _ n),g];rfl
  | false =>
   have g:dw (a.drop i)=Es (a.drop i):=by rw[e]; simp[dw,m,o]
   refine (c1I l K (bs a) L c d f b start i).trans ?_;rw[aQ j,nC,RZ,rq (c61 _),g];rfl
def c3E (l:Nat) (K:ASt->R) (s:ByteArray) (tk a:PV) (h:aH):lI D6 false (gK yl) (((gK yl).toList.drop 6).take 5) K ⟨oC l s [(8,oN),(12,.ptr 7 0),(13,af 0),(70,.func (.yield l) [] []),(71,oN),(72,tk),(73,a),(74,af 0),(75,.bool true)],h⟩=K ⟨oC l s [(8,oN),(12,.ptr 7 0),(13,af 0),(70,.func (.yield l) [] []),(71,oN),(72,tk),(73,a),(74,af 0),(75,.bool true),(76,.bool false),(77,.bool false),(78,af 0),(79,.bool false),(80,.bool false)],h⟩:=by kernel_rfl
def c3C (l:Nat) (K:ASt->R) (s:ByteArray) (e:Int) (tk a:PV) (h:aH):lI D6 false (gK yl) (((gK yl).toList.drop 6).take 5) K ⟨oC l s [(8,oN),(12,.ptr 7 0),(13,af e),(70,.func (.yield l) [] []),(71,oN),(72,tk),(73,a),(74,af e),(75,.bool false)],h⟩=K ⟨oC l s [(8,oN),(12,.ptr 7 0),(13,af e),(70,.func (.yield l) [] []),(71,oN),(72,tk),(73,a),(74,af e),(75,.bool false),(76,.bool true),(77,.bool true),(78,.tuple []),(79,.tuple []),(80,.bool true)],h⟩:=by kernel_rfl
section
variable {l:Nat} {rc:Loop} {out:Nat->Nat}
theorem b2D (t:1<=out l) (o:RG rc) {L:ai} {d f g:Int} {i c start:Nat} {Q:AX->ASt->AX->Prop} (y:a.length<=1000000) (x:i<a.length) (z:start<=i) (A:L.length+1<=aN)
 (B:(dw (a.drop i)).2=0->∀ u,GK [0,1,3,4,5] 7 u=true->u.gc [0,1,3,4,5] 7=⟨oC l (bs a) [],mO (L ++ [bM ((dw (a.drop i)).1.at (c:Int) ((i-start+1:Nat):Int))]) d f g c start (i64.wrap ((i:Int)+((dw (a.drop i)).1.text.length:Int)))⟩->Q (.exit 1) u .normal)
 (C:(dw (a.drop i)).2≠0->∀ u,u.h.take 4 = [some [.sl true 0 []],some [af (c:Int)],some [af ((i-start+1:Nat):Int)],some [af (dw (a.drop i)).2]]->Q .ret u .ret) :
 Tr (ji l rc out) Tj Q .normal ⟨oC l (bs a) [(8,oN)],mO L d f g (c:Int) (start:Int) (i:Int)⟩:=by
 rw[aWK];refine Tr.seq ?_;rw[aWE];refine Tr.seq (pc (ax := .normal) t (fun K=>a'I l K (bs a) L d f g c start i) ?_);show Tr (ji l rc out) a6W _ .normal _;rw[show ((i:Int)==((bs a).size:Int))=false by rw[lH,tH]; omega,aWD];refine Tr.cond (b:=false) rfl (fun h=>by cases h) (fun _ => ?_);rw[bXQ];refine Tr.skip ?_;show Tr (ji l rc out) a6Y Q .normal _;refine Tr.gc (l := [0,1,3,4,5,8]) (m:=7) (dO _) rfl ?_;show Tr (ji l rc out) a6Y Q .normal ⟨oC l (bs a) [(8,oN)],mO L d f g (c:Int) (start:Int) (i:Int)⟩;rw[bY7];refine Tr.seq (pc (ax := .normal) t (fun K=>c1C l K (bs a) L d f g c start i) ?_);show Tr (ji l rc out) aDP Q .normal _;rw[bY6];refine Tr.seq (pc (ax := .normal) t (fun K=>c55 l K a L d f g c start i x) ?_);show Tr (ji l rc out) aDQ Q .normal _;refine Tr.gc (l := [0,1,3,4,5,8,9]) (m:=7) (dO _) rfl ?_;rw[bY5];refine Tr.seq (pc (ax := .normal) t (fun K=>c3V l K a L d f g c start i x y) ?_);generalize dw (a.drop i)=te at *;obtain ⟨⟨tk,j,n,tl,q⟩,e⟩:=te;show Tr (ji l rc out) aDR Q .normal _;refine Tr.gc (l := [0,1,3,4,5,8,12,13]) (m:=8) (show 7<=8 by decide) rfl ?_;rw[bY4];refine Tr.seq ?_;rw[bY0];refine Tr.seq ?_;rw[bXY];refine Tr.yield (aAN t) bXX bXT bXU bXV bXW o.par (by decide) (show 14<27 by decide) ?_ ?_ o.tm (by show qU rc.assign=true; rw[o.asg]; exact b04) (by show qU rc.body=true; rw[o.bod]; exact b05) ?_;grind [ji]
 .simp[kD,ji]
 .refine FZ (fun D v => ?_) _ (a7' (σt:=⟨oC l (bs a) [(8,oN),(12,.ptr 7 0),(13,af e),(70,.func (.yield l) [] []),(71,oN),(72,bM ⟨tk,j,n,tl,q⟩),(73,bM ⟨tk,j,n,(c:Int),((i-start+1:Nat):Int)⟩),(74,af e)],mO L d f g c start i ++ [some (h6 ⟨tk,j,n,tl,q⟩)]⟩) fun K => ?_)
  .subst v;have E:=c5Z L d f g c start i tk (bs j) n tl q tk (bs j) n c ((i-start+1:Nat):Int) e A;refine ⟨bM ⟨tk,j,n,(c:Int),((i-start+1:Nat):Int)⟩,af e,fun ax r=>if e=0 then ax = .normal/\r=aI8 L d f g c start i tk (bs j) n tl q tk (bs j) n c ((i-start+1:Nat):Int) e else ax = .ret/\r=aI6 L d f g c start i tk (bs j) n tl q tk (bs j) n c ((i-start+1:Nat):Int) e,rfl,rfl,rfl,show 7<=8 by decide,?_,?_⟩
   .show fH nZ 8 rc.assign (Ff (fH nZ 8 rc.body _) fun _ _=>False) _;rw[o.asg,o.bod];exact E
   .intro ax r hq;by_cases he:e=0
    .rw[ay he] at hq;obtain ⟨rfl,rfl⟩:=hq;subst he;refine ⟨rfl,?_⟩;show nT PR (gK yl) (((gK yl).toList.drop 6).take 5) _ _;refine FZ (fun w p => ?_) _ (a7' fun K=>c3E l K (bs a) _ _ _);subst p;show Tr (ji l rc out) a7A _ .normal _;rw[aWJ];refine Tr.cond (b:=false) rfl (fun h=>by cases h) (fun _ => ?_);rw[bX'];refine Tr.skip ?_;show Tr (ji l rc out) aDT Q .normal _;refine Tr.gc (l := [0,1,3,4,5,12]) (m:=8) (show 7<=8 by decide) rfl ?_;rw[bY3];refine Tr.seq (pc (ax := .normal) t (fun K=>c27 l K (bs a) (L ++ [bM ⟨tk,j,n,(c:Int),((i-start+1:Nat):Int)⟩]) d f g c start i tk (bs j) n tl q) ?_);show Tr (ji l rc out) aDU Q .normal _;rw[bY2];refine Tr.exit (B rfl _ rfl ?_);rw[lH];rfl
    .rw[aX he] at hq;obtain ⟨rfl,rfl⟩:=hq;refine ⟨rfl,?_⟩;show nT PR (gK yl) (((gK yl).toList.drop 6).take 5) _ _;refine FZ (fun w p => ?_) _ (a7' fun K=>c3C l K (bs a) e _ _ _);subst p;show Tr (ji l rc out) a7A _ .ret _;rw[aWJ];refine Tr.cond (b:=true) rfl (fun _ => ?_) (fun h=>by cases h);rw[bXZ];exact Tr.ret (C he _ rfl)
  .refine Eq.trans (b:=lI a'K false (gK a8B) (((gK a8B).toList.drop 0).take 5) K ⟨oC l (bs a) [(8,oN),(12,.ptr 7 0),(13,af e)],mO L d f g c start i ++ [some (h6 ⟨tk,j,n,tl,q⟩)]⟩) rfl ?_;refine (c1X l (fun _=>K) (bs a) e L d f g c start i tk (bs j) n tl q).trans ?_;unfold Bo;rw[aQO,aMI z (by omega)];rfl
end
def s:Code:=Code.sub [] yD
def s0:Code:=Code.sub [false] yD
def s1:Code:=Code.sub [true] yD
def Et:Code:=Code.sub [true,false] yD
def uA:Code:=Code.sub [true,true] yD
def a_T:Code:=Code.sub [true,true,false] yD
def aHZ:Code:=Code.sub [true,true,false,false] yD
def aH':Code:=Code.sub [true,true,false,true] yD
def a_U:Code:=Code.sub [true,true,false,true,false] yD
def c5F:a_U = .rangeFunc (.tmp 12) #[13,14] Gz DD:=by kernel_rfl
def c5G:aH' = .block 0 a_U:=by kernel_rfl
def c5H:a_T = .seq aHZ aH':=by kernel_rfl
def aI0:Code:=Code.sub [true,true,true] yD
def a_V:Code:=Code.sub [true,true,true,false] yD
def aI1:Code:=Code.sub [true,true,true,true] yD
def c5J:aI1 = .ret:=by kernel_rfl
def c5K:aI0 = .seq a_V aI1:=by kernel_rfl
def c5M:uA = .seq a_T aI0:=by kernel_rfl
def c5S:s1 = .seq Et uA:=by kernel_rfl
def c5V:s = .seq s0 s1:=by kernel_rfl
def s_E:AE:=SS.ae 20 27
def Q3:XE:=SS.xe SS.CC SS.LL s_E 0
abbrev MM (s:ByteArray) (t:gp):gp:=(0,.str s)::(2,.ptr 0 0)::(3,.ptr 1 0)::(4,.ptr 2 0)::(5,.ptr 3 0)::t
abbrev ui (o:Bool) (z:Nat) (L:ai) (a b c:Int):aH := [some [.sl o z L],some [af a],some [af b],some [af c]]
def c31 (s:ByteArray):SS.CC 70 [.str s] []=some (.func (.func 171) [] [.cst (.str s)],[]):=(vg fG rfl).trans (by kernel_rfl)
def c5C (K:AX->ASt->R) (s:ByteArray):bD Q3 s0 K ⟨[(0,.str s)],[]⟩=K .normal ⟨MM s [],ui true 0 [] 0 0 0⟩:=by kernel_rfl
def a_S (K:AX->ASt->R) (s:ByteArray):bD Q3 Et K ⟨MM s [],ui true 0 [] 0 0 0⟩=aB (decide ((65536:Int)<(s.size:Int))) (K .ret ⟨MM s [],ui true 0 [] 1 1 15⟩) (K .normal ⟨MM s [(8,.str s),(9,af (s.size:Int)),(10,.bool false)],ui true 5 [] 0 0 0⟩):=by kernel_rfl
def c5E (K:AX->ASt->R) (s:ByteArray):bD Q3 aHZ K ⟨MM s [],ui true 5 [] 0 0 0⟩=K .normal ⟨MM s [(11,.str s),(12,.func (.func 171) [] [.cst (.str s)])],ui true 5 [] 0 0 0⟩:=by
 have:bD Q3 aHZ K ⟨MM s [],ui true 5 [] 0 0 0⟩=kE SS.CC 70 [.str s] fun r=>SS.W 31 [] r [] fun a _=>(match PV.flat a with | true=>K .normal ⟨MM s [(11,.str s),(12,a)],ui true 5 [] 0 0 0⟩ | false=>none):=by kernel_rfl
 refine this.trans ((rq (c31 s)).trans ?_);kernel_rfl
def c5I (K:AX->ASt->R) (L:ai):bD Q3 a_V K ⟨[(2,.ptr 0 0),(3,.ptr 1 0),(4,.ptr 2 0),(5,.ptr 3 0)],ui true 5 L 0 0 0⟩=K .normal ⟨[(2,.ptr 0 0),(3,.ptr 1 0),(4,.ptr 2 0),(5,.ptr 3 0),(26,.sl false 5 L)],ui false 5 L 0 0 0⟩:=by kernel_rfl
def Qz (d f g:Int) (r:Jw):AX->ASt->AX->Prop:=fun i c j=>i = .ret/\match r with
 | .ok l=>j = .normal/\c.h.take 4=ui true 5 (l.map bM) d f g
 | .err a b e=>j = .ret/\c.h.take 4=ui true 0 [] a b e
section
variable {l:Nat} {rc:Loop} {out:Nat->Nat}
def walk (o:1<=out l) (j:RG rc) (a:d_) (q t u:Int) (v:a.length<=1000000) (x:Jw):∀ (f i c start:Nat) (bZ:List Tok),(a.drop i).length<f->i<=a.length->c<=i+1->start<=i->bZ.length<=i->uj f (a.drop i) i c start bZ=x ->
 ∃ k,Vt (ji l rc out) Ou (Qz q t u x) k .normal ⟨oC l (bs a) [],mO (bZ.map bM) q t u c start i⟩:=by
 intro f;induction f with
 | zero=>omega
 | succ f L =>
  intro i c start bZ y F G M N d;obtain ⟨g,z⟩:∃ g,jJ false (a.drop i)=g:=⟨_,rfl⟩;have H:=Uf false (a.drop i);rw[z,qH] at H;obtain ⟨p,A⟩:∃ p,vT ((a.drop i).take g) i (c,start)=p:=⟨_,rfl⟩;have B:=aF5 ((a.drop i).take g) i (c,start) M;have I:((a.drop i).take g).length=g:=by simp; omega
  rw[A,I] at B;simp only at B;rw[uj] at d;simp only[z,A,QW] at d;by_cases he:i+g=a.length
  .rw[NP (by omega)] at d;simp only at d;refine ⟨1,?_⟩;show Tr (ji l rc out) Ou _ .normal _;rw[aDV];refine Tr.block (aG1 o v F G z ?_);rw[A];refine b9U o j v he (by omega) (by simp[aN]; omega) fun w e => ?_
   show Qz q t u x .ret w .normal;subst d;refine ⟨rfl,rfl,?_⟩;rw[e]; simp
  .have n:i+g<a.length:=by omega
   have E:a.drop (i+g)=a[i+g]::a.drop (i+g+1):=F7 n;rw[E] at d;simp only at d;rw[<- E] at d;by_cases C:(dw (a.drop (i+g))).2=0
   .rw[ay C,QW] at d;have J:=Pg (b:=a[i+g]) (r:=a.drop (i+g+1)) (by rw[<- E]; exact C);rw[<- E,qH] at J;simp only[qH] at y;obtain ⟨k,hk⟩:=L (i+g+(dw (a.drop (i+g))).1.text.length) p.1 p.2 _ (by simp; omega) (by omega) (by omega) (by omega) (by simp; omega) d;refine ⟨k+1,?_⟩;show Tr (ji l rc out) Ou _ .normal _;rw[aDV];refine Tr.block (aG1 o v F G z ?_);rw[A];refine b2D o j v n (by omega) (by simp[aN]; omega) (fun _ w K e => ?_) (fun h=>absurd C h);show Vt (ji l rc out) Ou (Qz q t u x) k .normal w;have D:w.gc [0,1,3,4,5] 7=⟨oC l (bs a) [],mO ((bZ ++ [(dw (a.drop (i+g))).1.at (p.1:Nat) ((i+g-p.2+1:Nat):Int)]).map bM) q t u (p.1:Nat) (p.2:Nat) ((i+g+(dw (a.drop (i+g))).1.text.length:Nat):Int)⟩:=by rw[e,show i64.wrap (((i+g:Nat):Int)+((dw (a.drop (i+g))).1.text.length:Int))=((i+g+(dw (a.drop (i+g))).1.text.length:Nat):Int) by rw[wrap64 (by omega) (by omega)]; omega];simp
    cases k with
    | zero=>exact hk.elim
    | succ k =>exact Tr.gc (l := [0,1,3,4,5]) (m:=7) (dO _) K (by rw[D]; exact hk)
   .rw[aX C] at d;refine ⟨1,?_⟩;show Tr (ji l rc out) Ou _ .normal _;rw[aDV];refine Tr.block (aG1 o v F G z ?_);rw[A];refine b2D o j v n (by omega) (by simp[aN]; omega) (fun h=>absurd h C) (fun _ w e => ?_);show Qz q t u x .ret w .ret;subst d;exact ⟨rfl,rfl,e⟩
def iter (c:1<=out l) (b:RG rc) (a:d_) (d:a.length<=1000000) :
 Tr (ji l rc out) jE (Qz 0 0 0 (uj (a.length+1) a 0 1 0 [])) .normal ⟨[(0,.func (.yield l) [] []),(1,.cst (.str (bs a)))],ui true 5 [] 0 0 0⟩:=by
 have e:jE=k:=by kernel_rfl
 rw[e,bYG];refine Tr.scope ?_;rw[bYF];refine Tr.seq (pc (ax := .normal) (σt:=⟨oC l (bs a) [],mO [] 0 0 0 1 0 0⟩) c (fun K=>by kernel_rfl) ?_);show Tr (ji l rc out) k01 _ .normal _;rw[bYE];refine Tr.seq ?_;rw[bXC];refine Tr.label ?_;show Tr (ji l rc out) aDL _ .normal _;rw[bYD];refine Tr.block ?_;rw[bYC];obtain ⟨k,hk⟩:=walk c b a 0 0 0 d (uj (a.length+1) a 0 1 0 []) (a.length+1) 0 1 0 [] (by simp) (by omega) (by omega) (by omega) (by simp) rfl;refine Tr.mono (Tr.loop hk) fun ax f j hq => ?_
 obtain ⟨rfl,hq⟩:=hq;exact ⟨rfl,hq⟩
end
def H5:Jw->PV
 | .ok c => .tuple [.sl false 5 (c.map bM),.int .i64 0,.int .i64 0,.int .i64 0]
 | .err a b e => .tuple [.sl false 5 [],.int .i64 a,.int .i64 b,.int .i64 e]
def vX (l:d_):Jw:=if 65536<l.length then .err 1 1 15 else uj (l.length+1) l 0 1 0 []
def aw {c:Code} {d:ASt} {ax:AX} (h:∀ K,bD Q3 c K e=K ax d) {out:Nat->Nat} {a:Act} (l:Inv 27 M B out e a.tmps w) :
 c.wpIn Fence.wide n Tryz.prog (fun b f j=>b=ax.toExit/\f.defers=a.defers/\∃ g i,fM 27 out 0 M B e a.tmps w g i d f.tmps j) a w:=by
 have m:=MC (X:=Q3) fG.V fG.W (Qe Ec fG Hm) (a0H Ec fG Hm rfl) h;refine wpIn_wide.2 (wp_mono (yZ (E:=s_E) (m0:=0) (out:=out) Ec c l m) fun b f j o => ?_);obtain ⟨p,q,g,i,rfl,⟨rfl,rfl⟩,r,t⟩:=o;exact ⟨rfl,r,g,i,t⟩
theorem aB9 (g:tK M B w []) (q:∀ f,fp B e b w f=aW w [] B f) {t:Mem} {u:aT} {s:gp} {h:aH} {x:Act} {m:World} {o:Bool} {L:ai} {a f c:Int}
 (y:fM 27 d 0 M B e b w t u ⟨s,h⟩ x.tmps m) (J:dF 2 s=some (.ptr 0 0)) (K:dF 3 s=some (.ptr 1 0)) (N:dF 4 s=some (.ptr 2 0)) (O:dF 5 s=some (.ptr 3 0)) (p:h.take 4=ui o n L a f c) {r:PV} (A:yg (SS.jG 20).ro (.tuple [.sl false n L,af a,af f,af c])=r) :
 ∃ v,(results Tryz.f20 x.tmps).run Tryz.prog m = .ok v m/\∃ t u,Post [] B d M w r [] v t u m:=by
 have C:h[0]? = some (some [.sl o n L]):=by have:=congrArg (fun l=>l[0]?) p; grind
 have D:h[1]? = some (some [af a]):=by have:=congrArg (fun l=>l[1]?) p; grind
 have E:h[2]? = some (some [af f]):=by have:=congrArg (fun l=>l[2]?) p; grind
 have F:h[3]? = some (some [af c]):=by have:=congrArg (fun l=>l[3]?) p; grind
 have i:Tryz.f20.results.toList = [.cell 2 78,.cell 3 3,.cell 4 3,.cell 5 47]:=by kernel_rfl
 have j:Po Tryz.prog Tryz.f20.results.toList ([]:aH).length (.tuple [.sl false n L,af a,af f,af c]) [] ⟨s,h⟩:=by
  refine ⟨dO _,rfl,rfl,rfl,?_⟩;rw[i];have G:ti Tryz.prog 78=some ⟨1,24,false,[.sl true 0 []]⟩:=by kernel_rfl
  have Q:ti Tryz.prog 3=some ⟨1,8,false,[af 0]⟩:=by kernel_rfl
  have H:ti Tryz.prog 47=some ⟨1,8,false,[af 0]⟩:=by kernel_rfl
  simp_all
 obtain ⟨v,h6,I⟩:=c3F g q y j (SS.jG 20).ro;rw[A] at I;grind
abbrev R12 (out:Nat->Nat) (M:Mem) (B:aT) (w:World) (r:PV):Ending->World->Prop:=fun e w'=>∃ v M' B',e = .returned v/\Post [] B out M w r [] v M' B' w'
def sI (l:Nat) (s:ByteArray):gp := [(0,.func (.yield l) [] []),(1,.cst (.str s))]
theorem bX0 {rc:Loop} (u:1<=d n) (h:RG rc) (a:d_) (v:a.length<=1000000) 
 (x:Inv 86 M B d ⟨sI n (bs a),ui true 5 [] 0 0 0⟩ (b ++ Array.replicate (86-b.size) undef) w) (y:w.heap[n]? = some (.loop (BO rc .normal))) (z:Vj (ji n rc d).sO 27 7 rc.tmps M B) {R:Ending->World->Prop}
 (A:∀ c j i o C f,Qz 0 0 0 (uj (a.length+1) a 0 1 0 []) .ret c j->uI n 86 d 7 M B ⟨sI n (bs a),ui true 5 [] 0 0 0⟩ (b ++ Array.replicate (86-b.size) undef) w i o c C f->f.heap[n]? = some (.loop (BO rc j))->R (.returned (.tuple #[])) f) :
 CallsIn Fence.wide m Tryz.prog 171 b w R:=by
 have p:Tryz.prog.funcs[171]? = some Tryz.f171:=by kernel_rfl
 have q:Tryz.f171.body=some jE:=by kernel_rfl
 have D:Tryz.f171.ntmps=86:=by kernel_rfl
 have g:Tryz.f171.results = #[]:=by kernel_rfl
 refine callsIn_of_wp p q trivial ?_;rw[D];refine wY (iter u h a v m M B { tmps:=b ++ Array.replicate (86-b.size) undef,defers := [] } w x y z) fun e H f E => ?_
 obtain ⟨I,c,j,i,o,rfl,hq,F,G,r⟩:=E;obtain ⟨rfl,t⟩:=hq;exact ⟨F,_,results_none g _ _ _,A c j i o _ f ⟨rfl,t⟩ G r⟩
theorem bA4 (full:d_):Ev Tryz.prog 20 [.str (bs full)] [] (H5 (vX full)) []:=by
 refine ⟨by kernel_rfl,fun out M B w vals hmem hheap hcnt hnew hv => ?_⟩;have bW6:Tryz.prog.funcs[20]? = some Tryz.f20:=by kernel_rfl
 have bW2:Tryz.f20.body=some yD:=by kernel_rfl
 have hn:Tryz.f20.ntmps=27:=by kernel_rfl
 have hI0:=b1F (n:=27) (args := [.str (bs full)]) (show 1<=27 by decide) hmem hheap hcnt hnew hv;have hfp:=fun b=>b0Y (B:=B) (args := [.str (bs full)]) (h := []) (vals ++ Array.replicate (27-vals.size) undef) w b
 refine callsIn_wide.1 (callsIn_of_wp_marks (n:=0) (R:=R12 out M B w (H5 (vX full))) bW6 bW2 trivial ?_);rw[hn];have e:yD=s:=by kernel_rfl
 rw[e,c5V];refine Qd (wY (aw (fun K=>c5C K (bs full)) (a := { tmps:=vals ++ Array.replicate (27-vals.size) undef,defers := [] }) hI0) ?_);rintro e1 a1 w1 ⟨rfl,hd1,M1,B1,hG1⟩;show s1.wpIn Fence.wide 0 Tryz.prog _ a1 w1;rw[c5S];by_cases hbig:65536<full.length
 .have hT:vX full = .err 1 1 15:=ay hbig;refine Qd (wY (aw (ax := .ret) (fun K=>by rw[a_S,aK (by rw[lH]; omega),aI]) hG1.inv) ?_);rintro e2 a2 w2 ⟨rfl,hd2,M2,B2,hG2⟩;show LeavesInM Fence.wide 0 Tryz.prog Tryz.f20 a2.tmps _ a2.defers .returning w2;rw[hd2,hd1];obtain ⟨v,h6,M',B',h7⟩:=aB9 hheap hfp (hG1.trans hG2) rfl rfl rfl rfl (show _=ui true 0 [] 1 1 15 from rfl) (r:=H5 (vX full)) (by rw[hT]; rfl);exact ⟨v,h6,v,M',B',rfl,h7⟩
 .have hT:vX full=uj (full.length+1) full 0 1 0 []:=aX hbig;rw[hT];refine Qd (wY (aw (ax := .normal) (fun K=>by rw[a_S,aU (by rw[lH]; omega),aF]) hG1.inv) ?_);rintro e2 a2 w2 ⟨rfl,hd2,M2,B2,hG2⟩;show uA.wpIn Fence.wide 0 Tryz.prog _ a2 w2;have hg3:=IZ (m0:=0) (l := [0,2,3,4,5]) (m:=4) hG2.inv (by decide) rfl;have bV':=(hG1.trans hG2).trans hg3;rw[c5M];refine Qd ?_;rw[c5H];refine Qd (wY (aw (fun K=>c5E K (bs full)) hg3.inv) ?_);rintro e4 a4 w4 ⟨rfl,hd4,M4,B4,hG4⟩;show aH'.wpIn Fence.wide 0 Tryz.prog _ a4 w4;have hGa:=bV'.trans hG4;rw[c5G];refine wpIn_block ?_;rw[c5F];have Ic:=hG4.inv;obtain ⟨cBU,cBR,h12,hr1,hr2⟩:=DC.1 (Ic.slots 12 (.func (.func 171) [] [.cst (.str (bs full))]) rfl).2.1;rw[gZ] at hr1;obtain ⟨bx,us,hus,hbx,aV2⟩:=eP.1 hr2;rw[gZ] at aV2;subst aV2;have hev:a4.tmps.getD 12 undef = .func (.func 171) #[] #[bx]:=by rw[h12]; congr 1<;>(grind)
  refine wpIn_rangeFunc fun fn hfn => ?_
  obtain ⟨rc,aD8⟩:∃ rc:Loop,rc = { state := .ready,pending:=none,fn,tmps:=a4.tmps,params := #[13,14],assign:=Gz,body:=DD,defers:=w4.heap.size }:=⟨_,rfl⟩;have hrc:RG rc:=by subst aD8; exact ⟨rfl,rfl,rfl,Ic.size⟩
  have bWF:BO rc .normal=rc:=by subst aD8; rfl
  obtain ⟨hIe,hfe⟩:=aMU Ic rc;refine ⟨w4.heap.size+1,[{ target := .collected w4.heap.size,args := #[] }],Ap w4 rc,{ target := .fn (.func 171) #[bx],args := #[.func (.yield (w4.heap.size+1)) #[] #[]] },Ap w4 rc,171,
   #[.func (.yield (w4.heap.size+1)) #[] #[],bx],Ap w4 rc,?_,?_,?_,?_,fun h=>absurd h (by decide),?_⟩
  .subst aD8; exact run_enterLoop_outer _ _ _ _ _
  .simp[resolve,go_sem,hev]
  .intro f' hf'; trivial
  .simp[invoke,go_sem]
  .have ho1:1<=Eh out w4.heap.size (w4.heap.size+1):=by simp[Eh]
   have hoD:1<=Eh out w4.heap.size w4.heap.size:=by simp[Eh]
   have hIi:=aVM (n':=86) (sr:=sI (w4.heap.size+1) (bs full)) (tr := #[.func (.yield (w4.heap.size+1)) #[] #[],bx] ++ Array.replicate (86-(#[.func (.yield (w4.heap.size+1)) #[] #[],bx]:Array Value).size) undef) hIe (by simp) (by simp[kD,sI]) (fun kp hk=>by
    simp only[sI,jy,zW,zX] at hk;rcases hk with rfl|rfl
    .exact ⟨show 0<86 by decide,by rw[b5R]; exact DC.2 ⟨#[],#[],rfl,gZ.2 rfl,gZ.2 rfl⟩,rfl⟩
    .exact ⟨show 1<86 by decide,by rw[b5S]; exact hbx,rfl⟩)
   refine bX0 (rc:=rc) (by omega) hrc full (by omega) hIi (by rw[bWF]; exact b9W rc) ?_ fun σ' j M' B' t' w' hq hG hr' => ?_
   .intro kp hk;have ht:rc.tmps=a4.tmps:=by simp_all
    rw[ht];simp only[ji,jy,zW,zX] at hk;rcases hk with rfl|rfl|rfl|rfl
    .exact ⟨by decide,(Ic.slots 2 (.ptr 0 0) rfl).2.1,rfl,rfl⟩
    .exact ⟨by decide,(Ic.slots 3 (.ptr 1 0) rfl).2.1,rfl,rfl⟩
    .exact ⟨by decide,(Ic.slots 4 (.ptr 2 0) rfl).2.1,rfl,rfl⟩
    .exact ⟨by decide,(Ic.slots 5 (.ptr 3 0) rfl).2.1,rfl,rfl⟩
   .have aD5:Bj 4 (σ'.h.take 4)=true:=by obtain ⟨_,hq⟩:=hq;split at hq<;>(rw[hq.2]; rfl)
    have hback:=b3G (m0:=4) hIe ho1 (σr:=⟨sI (w4.heap.size+1) (bs full),ui true 5 [] 0 0 0⟩) rfl (fun kp hk=>by simp only[sI,jy,zW,zX] at hk;rcases hk with rfl|rfl<;>rfl) rfl (hG.weak (by decide)) aD5;have hend:=run_endLoop (P:=Tryz.prog) hr' (by grind [BO]);have hput:=aG3 (m0:=4) hback.inv ho1 hr' { BO rc j with state := .exhausted };have hall:=hback.trans hput;have hDs:w'.heap[w4.heap.size]? = some (.deferred (some [])):=by have:=(hback.blk w4.heap.size (by rw[V3]; omega) (by omega) (Wj hIe hoD)).1;rw[this]; exact b9V rc
    have hD:(w'.putObj (w4.heap.size+1) (.loop { BO rc j with state := .exhausted })).heap[w4.heap.size]? = some (.deferred (some [])):=(World.putObj_heap_other (by omega)).trans hDs;refine ⟨_,_,hend,?_⟩;obtain ⟨_,hq⟩:=hq;cases hsc:uj (full.length+1) full 0 1 0 [] with
    | ok ts =>
     rw[hsc] at hq;obtain ⟨rfl,hq⟩:=hq;show aI0.wpIn Fence.wide 0 Tryz.prog _ _ _;rw[hq] at hall;have hg5:=IZ (m0:=0) (l := [2,3,4,5]) (m:=4) hall.inv (by decide) rfl;rw[c5K];refine Qd (wY (aw (a := { tmps:=a4.tmps,defers := { target := .collected w4.heap.size,args := #[] }::a4.defers }) (fun K=>c5I K (ts.map bM)) hg5.inv) ?_);rintro e6 a6 w6 ⟨rfl,hd6,M6,B6,hG6⟩;show aI1.wpIn Fence.wide 0 Tryz.prog _ a6 w6;rw[c5J];refine wpIn_ret ?_;show LeavesInM Fence.wide 0 Tryz.prog Tryz.f20 a6.tmps _ a6.defers .returning w6;rw[hd6,hd4,hd2,hd1];have aD4:=hg5.trans hG6;have hD6:w6.heap[w4.heap.size]? = some (.deferred (some [])):=by have hlt:w4.heap.size<(w'.putObj (w4.heap.size+1) (.loop { BO rc .normal with state := .exhausted })).heap.size:=(DW.1 hD).1;rw[(aD4.fr.blk w4.heap.size hlt (Wj hall.inv hoD)).1]; exact hD
     refine ⟨by simp,.inl ⟨w4.heap.size,_,rfl,run_takeDeferred hD6,?_⟩⟩;have hsh:=a'Z (m0:=0) aD4.inv hoD hD6 (.deferred none);have htot:=((hall.weak (show 0<=4 by decide)).trans aD4.gl);have hfin:=hGa.trans (aXQ Ic htot hsh);obtain ⟨v,h6,M',B',h7⟩:=aB9 hheap hfp hfin rfl rfl rfl rfl (show _=ui false 5 (ts.map bM) 0 0 0 from rfl) (r:=H5 (.ok ts)) rfl;exact ⟨v,h6,v,M',B',rfl,h7⟩
    | err a b e =>rw[hsc] at hq;obtain ⟨rfl,hq⟩:=hq;refine wpIn_ret ?_;show LeavesInM Fence.wide 0 Tryz.prog Tryz.f20 a4.tmps _ ({ target := .collected w4.heap.size,args := #[] }::a4.defers) .returning _;rw[hd4,hd2,hd1];refine ⟨by simp,.inl ⟨w4.heap.size,_,rfl,run_takeDeferred hD,?_⟩⟩;rw[hq] at hall;have hsh:=a'Z (m0:=0) hall.inv hoD hD (.deferred none);have hfin:=hGa.trans (aXQ Ic (hall.weak (show 0<=4 by decide)) hsh);obtain ⟨v,h6,M',B',h7⟩:=aB9 hheap hfp hfin rfl rfl rfl rfl (show _=ui true 0 [] a b e from rfl) (r:=H5 (.err a b e)) rfl;exact ⟨v,h6,v,M',B',rfl,h7⟩
end Go.Proofs.YtmbehibpfkkjbaaGreatDoor
namespace Go.Proofs
open Go.Shelf
shelf_lay Lays.n105 Nm 105 at Tryz as Tryz.lays105
shelf_lay Lays.n144 Nm 144 at Tryz as Tryz.lays144
end Go.Proofs
namespace Go.Proofs.YtmbehibpfkkjbaaGreatDoor
open Go.RowKit Go.Shelf
variable {r y:PV} {M:Mem} {B:aT} {b:Array Value} {d:Nat->Nat} {w:World} {A:Value} {C:TypeId} {n m:Nat}
theorem a1Y {P:Program} {g:FuncId} {args:ai} {v:Value} (y:j_ P g=true) (z:∀ M B,dC M B r v) (n:r.own=false)
 (h:∀ (M:Mem) (w:World) (a:Array Value),BH M w->bI M [] args a.toList->Calls P g a w fun e p=>e = .returned v/\Below w.heap.size w p):Ev P g args [] r []:=by
 refine ⟨y,fun A M B w a c d q j hv => ?_⟩;have C:B = []:=oK (by have:=d.1; simp_all);subst C;refine (h M w a c hv).mono ?_;rintro e p ⟨rfl,f⟩;have t:∀ w b,aW w [] [] b=0:=fun w b=>by simp[aW]
 refine ⟨v,M,[],rfl,fun b o u e => ?_,gQ.refl _ _,⟨f.os,f.tape,f.output,f.size,fun b m _=>⟨f.block b m,fun _=>rfl⟩⟩,⟨rfl,fun i F D=>by simp at D⟩,z M [],ig n,fun b l => ?_,fun b => ?_,fun b l => ?_⟩
 .obtain ⟨x,E⟩:=c b o u e;have:=Af _ _ x;exact ⟨(VG (f.block b this)).trans x,E⟩
 grind [gY]
 grind [gY]
 .have:=j b (jO f.size l); rw[t] at this; rw[t,gY n]; omega
def kT:ai->Option (List ByteArray)
 | []=>some []
 | .str s::l=>(kT l).map (s :: ·)
 | _=>none
theorem b1P:∀ {a:ai} {b:List ByteArray},kT a=some b->a=b.map .str
 | [],b,h=>by grind [kT]
 | p::a,b,h=>by
  unfold kT at h;split at h
  .rename_i e; cases e
  .rename_i s l e;injection e with d f; subst d; subst f
   cases c:kT a with
   | none=>simp[c] at h
   | some g=>simp[c] at h; subst h; rw[b1P c]; rfl
  .cases h
def Ii (b:List ByteArray) (a:ByteArray):d_:=Lib.join (b.map (·.data.toList)) a.data.toList
theorem V_ (hv:bI M B [r,y] b.toList):∃ u v,b = #[u,v]/\dC M B r u/\dC M B y v:=by obtain ⟨c,a,d,e,hv⟩:=eP.1 hv;obtain ⟨f,a,rfl,g,hv⟩:=eP.1 hv;rw[gZ] at hv; grind
theorem bAC (o:Bool) (d:List ByteArray) (c:ByteArray) (y:(Ii d c).length<=140737488355328) (z:d.length<=140737488355328):Ev Tryz.prog 21 [.sl o 1 (d.map .str),.str c] [] (.str ⟨(Ii d c).toArray⟩) []:=by
 refine a1Y (v := .string ⟨(Ii d c).toArray⟩) (by kernel_rfl) (fun _ _=>kz.2 rfl) rfl fun M w q g hv => ?_
 obtain ⟨u,v,rfl,B,hv⟩:=V_ hv;rw[kz.1 hv];obtain ⟨A,h,rfl,i,_,_,C⟩:=lM.1 B;rw[aZ] at i ⊢;by_cases t:d = []
 .subst t;refine (bX9 A h c w).mono ?_;rintro e F ⟨rfl,rfl⟩;exact ⟨rfl,Below.refl _ _⟩
 .obtain ⟨b,l,rfl,m⟩:=C (by grind);have a:∀ (j:Nat) x,d[j]? = some x->w.cell? ⟨b,l+j,none⟩=some (.string x):=fun j x D=>by have E:=Gh m (show (d.map PV.str)[j]? = some (.str x) by rw[nP,D]; rfl);obtain ⟨u,f,n⟩:=(LU rfl).1 E;rw[Nat.mul_one] at f;rw[kz.1 n] at f;exact (g _ _ _ f).1
  have p:b<w.heap.size:=by
   match d,t with
   | x::r,_=>exact Af _ _ (a 0 x rfl)
  exact bXA b l h d c w a p z i y
theorem c3G {h:aH} (c:BH M w) (a:tK M B w h) (e:∀ b,aW w h B b+d b<=1) (g:∀ b,w.heap.size<=b->aW w h B b+d b=0)
 (i:dC M B r A) (f:r.own=false):Post h B d M w r h A M B w :=
 ⟨c,gQ.refl _ _,Fr.refl _ _ _,a,i,ig f,fun b _=>by rw[gY f]; omega,fun b=>by rw[gY f]; exact e b,fun b j=>by rw[gY f]; simp_all⟩
def a'1 {o:Option (ai)} (a:tK M B w [o]):∃ c,B = [c]:=by
 have:=a.1;match B,this with
 | [c],_=>simp
theorem b2X (hv:bI M B [r] b.toList):∃ u,b = #[u]/\dC M B r u:=by obtain ⟨a,c,d,e,hv⟩:=eP.1 hv;rw[gZ] at hv; grind
theorem bAA (l:d_):Ev Tryz.prog 176 [.ptr 0 0] [some [.eU 163 0,.eF l]] (.tuple []) [some [.eU 163 0,.eF l]]:=by
 refine ⟨by kernel_rfl,fun r M B w vals o a f q hv => ?_⟩;obtain ⟨c,rfl⟩:=a'1 a;obtain ⟨u,rfl,G⟩:=b2X hv;obtain ⟨H,⟨g,_⟩,rfl⟩:=yH.1 G;simp at g; subst g;obtain ⟨H,g,I,z,o1,⟨J,A⟩,Y,K,Z⟩:=a.2 0 _ rfl;simp at g; subst g;obtain ⟨L,C,D,_,_⟩:=K 0 _ rfl;obtain ⟨c2,x,E⟩:=Pi.1 D;simp at x; subst x;obtain ⟨n,E⟩:=E.2 (by decide);have N:I.size=2:=by rw[J,n]
 have y:z=163+1:=by rw[A,n]
 subst y;obtain ⟨z,O,o1⟩:=MK o1 (by decide);have y:z=163:=by omega
 have m:w.cell? ⟨c.1,0,none⟩=some L:=by simp[World.cell?,o1,C]
 rcases E with rfl|rfl
 .refine (b81 c.1 w m (by grind [World.shape?]) (by simp[World.frozen?,o1])).mono ?_;rintro e Q ⟨rfl,rfl⟩;have S:Inv 0 M [c] r ⟨oH 0 [],[some [.eU 163 0,.eF l]]⟩ (#[] ++ Array.replicate (0-0) undef) w:=b1F (vals := #[]) (args := []) (by simp) o a f q (gZ.2 rfl);have d:=fun (t:Array Value) (w:World) b=>b0Y (B := [c]) (args := []) (h := [some [.eU 163 0,.eF l]]) t w b
  obtain ⟨T,U,V,_,_⟩:=S.setCell (i:=0) (j:=0) (p := .eU 163 0) (v := .pointer (some ⟨c.1,0,none⟩)) rfl rfl (by rw[n]; decide) (by simp) (Pi.2 ⟨c,rfl,(fun h=>absurd h (by decide)),fun _=>⟨n,.inr rfl⟩⟩) (ig rfl) rfl (fun b=>by rw[d,gY rfl]; exact f b) (fun b _=>gY rfl _ _);have k1:Inv 0 M [c] r ⟨oH 0 [],[some [.eU 163 0,.eF l]]⟩ (#[] ++ Array.replicate (0-0) undef) (w.setCell ⟨c.1,0,none⟩ (.pointer (some ⟨c.1,0,none⟩))):=T;have k2:∀ b,fp [c] ⟨oH 0 [],[some [.eU 163 0,.eF l]]⟩ (#[] ++ Array.replicate (0-0) undef) (w.setCell ⟨c.1,0,none⟩ (.pointer (some ⟨c.1,0,none⟩))) b<=fp [c] ⟨oH 0 [],[some [.eU 163 0,.eF l]]⟩ (#[] ++ Array.replicate (0-0) undef) w b+cu (.eU 163 0) (.pointer (some ⟨c.1,0,none⟩)) b:=U;refine ⟨_,M,[c],rfl,⟨k1.mem,gQ.refl _ _,V.mono fun b F X=>by rw[d]; exact X,k1.heap,xO.2 ⟨_,rfl,gZ.2 rfl⟩,ig rfl,fun b F => ?_,fun b => ?_,fun b F => ?_⟩⟩
  .have h:=k2 b;rw[d,d,gY rfl] at h;rw[gY rfl]; exact h
  .have h:=k1.cnt b;rw[d] at h;rw[gY rfl]; exact h
  .have h:=k1.new b F;rw[d] at h;rw[gY rfl]; exact h
 .refine (b83 c.1 w m).mono ?_;rintro e Q ⟨rfl,rfl⟩;exact ⟨_,M,[c],rfl,c3G o a f q (xO.2 ⟨_,rfl,gZ.2 rfl⟩) rfl⟩
theorem c7X {c:Nat×Nat×TypeId} {w2:World} {l:d_} {vs:Array Value} (F:BH M w) (t:tK M [c] w [some [.eU 163 0,.eF l]]) (q:∀ b,aW w [some [.eU 163 0,.eF l]] [c] b+d b<=1) (G:∀ b,w.heap.size<=b->aW w [some [.eU 163 0,.eF l]] [c] b+d b=0)
 (g:w.heap[c.1]? = some (.cells vs C (0,0))) (hv:vs[1]? = some A) (T:∀ x,x<w.heap.size->cu (.eF l) A x=0->w2.heap[x]? = w.heap[x]?) (h2:∀ b o u,w.cell? ⟨b,o,none⟩=some u->w2.cell? ⟨b,o,none⟩=some u)
 (K:w2.os=w.os) (z:w2.tape=w.tape) (H:w2.output=w.output) (m:w.heap.size<=w2.heap.size) :
 Post [some [.eU 163 0,.eF l]] [c] d M w (.str ⟨l.toArray⟩) [some [.eU 163 0,.sl false 1 (pJ l)]] (.string ⟨l.toArray⟩) M [c] w2:=by
 obtain ⟨c',I,X,Y,o1,Z,o3,U,o5⟩:=t.2 0 _ rfl;simp at I; subst I;rw[JJ g] at o1;injection o1 with o1; injection o1 with e1 e2; subst e1; subst e2
 have L:jk w c.1=vs.toList:=by simp[jk,JJ g]
 have N:vs.toList[1]? = some A:=by grind
 have a:∀ b,(if c.1=b then 1 else 0)+cu (.eF l) A b<=aW w [some [.eU 163 0,.eF l]] [c] b:=fun b=>by have V:=nY (w:=w) (h := [some [.eU 163 0,.eF l]]) (B := [c]) (i:=0) b rfl rfl;have g2:=BN (cs := [.eU 163 0,.eF l]) (vs:=vs.toList) (j:=1) b rfl N;rw[L] at V; omega
 have O:cu (.eF l) A c.1=0:=by have:=a c.1; have:=q c.1;rw[ay rfl] at *; omega
 have Q:c.1<w.heap.size:=(DW.1 g).1;have D:w2.heap[c.1]? = some (.cells vs C (0,0)):=(T c.1 Q O).trans g;have f:∀ b,aW w2 [some [.eU 163 0,.sl false 1 (pJ l)]] [c] b<=if c.1=b then 1 else 0:=fun b=>by
  simp only[aW];have:∀ S,iP [.eU 163 0,.sl false 1 (pJ l)] S b=0:=fun S=>by
   match S with
   | []=>rfl
   | [x]=>rfl
   | x::y::r=>rfl
  rw[this]; omega
 refine ⟨fun b o u e => ?_,gQ.refl _ _,⟨K,z,H,m,fun b J h0=>⟨T b J (by have:=a b; omega),fun _=>rfl⟩⟩,⟨rfl,fun i cs E => ?_⟩,kz.2 rfl,ig rfl,fun b J => ?_,fun b => ?_,fun b J => ?_⟩
 .obtain ⟨V,g2⟩:=F b o u e;simp_all
 .match i,E with
  | 0,E =>
   simp at E; subst E;refine ⟨c,rfl,vs,C+1,JJ D,Z,by omega,fun j p n => ?_,o5⟩;match j,n with
   | 0,n =>simp at n; subst n;obtain ⟨u,a1,a2,a3,a4⟩:=U 0 _ rfl;exact ⟨u,a1,a2,ig rfl,a4⟩
   | 1,n =>simp at n; subst n;obtain ⟨u,a1,a2,a3,a4⟩:=U 1 _ rfl;exact ⟨u,a1,Yz.2 a2,ig rfl,a4⟩
   | j+2,n=>simp at n
  | i+1,E=>simp at E
 .rw[gY rfl]; have:=f b; have:=a b; omega
 .rw[gY rfl]; have:=f b; have:=a b; have:=q b; omega
 .rw[gY rfl]; have:=f b; have:=a b; have:=G b (jO m J); omega
section
variable {P:Program} {ρ:Ren}
set_option maxHeartbeats 2000000 in
set_option maxRecDepth 100000 in
def aIH (L:Lays.n169 P ρ) (X:Builder.Extra P ρ) (T:TypeId) (b n cap:Nat) (A q:Option Addr) (p:Value) (r:ByteArray) (w w2:World) (hbk:w.heap[b]? = some (.cells #[p,.slice A n cap] T (0,0)))
 (hSD:(Builtin.unsafeSliceData_ #[(ρ.t 37)] (ρ.t 127) #[.slice A n cap]).run P w.drew = .ok (.pointer q) w.drew)
 (hUS:(Builtin.unsafeString_ #[(ρ.t 127),(ρ.t 3)] (ρ.t 9) #[.pointer q,.int .i64 n]).run P w.drew = .ok (.string r) w2) :
 Calls P (ρ.f 169) #[.pointer (some ⟨b,0,none⟩)] w fun e w'=>e = .returned (.string r)/\w'=w2:=by
 have c1:w.drew.cell? ⟨b,1,none⟩=some (.slice A n cap):=by have:w.drew.heap[b]? = some (.cells #[p,.slice A n cap] T (0,0)):=hbk;rw[Lib.cell_of_heap this]; rfl
 have mixed:=L.mixed;have t72:=L.t72; have a72:=L.a72; have z72:=L.z72; have v72:=L.v72; have u72:=gm L.t72;have t70:=L.t70; have a70:=L.a70; have z70:=L.z70; have v70:=L.v70; have u70:=gm L.t70;have t37:=L.t37; have a37:=L.a37; have z37:=L.z37; have v37:=L.v37; have u37:=gm L.t37;have t127:=L.t127; have a127:=L.a127; have z127:=L.z127; have v127:=L.v127; have u127:=gm L.t127;have t3:=L.t3; have a3:=L.a3; have z3:=L.z3; have v3:=L.v3; have u3:=gm L.t3;have t9:=L.t9; have a9:=L.a9; have z9:=L.z9; have v9:=L.v9; have u9:=gm L.t9;have t5:=X.t5; have a5:=X.a5; have z5:=X.z5; have v5:=X.v5; have u5:=gm X.t5;go_enter L.f169,Body.n169_ntmps ρ
 go_wp2
 go_region_o
 all_goals (go_wp2; go_ret; exact ⟨rfl,rfl⟩)
set_option maxHeartbeats 2000000 in
set_option maxRecDepth 100000 in
def c7Y (L:Lays.n169 P ρ) (X:Builder.Extra P ρ) (T:TypeId) (b g:Nat) (cur:Array Value) (p:Value) (w:World) (hbk:w.heap[b]? = some (.cells #[p,.slice (some ⟨g,0,none⟩) 0 0] T (0,0))) (hg:w.heap[g]? = some (.cells cur (ρ.t 5) (0,0))) :
 Calls P (ρ.f 169) #[.pointer (some ⟨b,0,none⟩)] w fun e w'=>e = .returned (.string ⟨#[]⟩)/\∃ u:World,u.heap=w.heap/\u.os=w.os/\u.tape=w.tape/\u.output=w.output/\w'=u.alloc (.view ⟨g,0,none⟩ (ρ.t 5)):=by
 have hUS:=Any.unsafeString_none L X;have hlt:b<w.heap.size:=(DW.1 hbk).1;have c1:w.drew.cell? ⟨b,1,none⟩=some (.slice (some ⟨g,0,none⟩) 0 0):=by have:w.drew.heap[b]? = some (.cells #[p,.slice (some ⟨g,0,none⟩) 0 0] T (0,0)):=hbk;rw[Lib.cell_of_heap this]; rfl
 have hSD:(Builtin.unsafeSliceData_ #[(ρ.t 37)] (ρ.t 127) #[.slice (some ⟨g,0,none⟩) 0 0]).run P w.drew = .ok (.pointer (some ⟨w.drew.heap.size,0,none⟩)) (w.drew.alloc (.view ⟨g,0,none⟩ (ρ.t 5))) :=Lib.run_unsafeSliceData_zero w.drew _ _ (ρ.t 5) L.t127 ⟨g,0,none⟩ 0 ((ρ.t 5),cur.size) (by have hg':w.drew.heap[g]? = some (.cells cur (ρ.t 5) (0,0)):=hg; simp[World.shape?,hg']);have c2:(w.drew.alloc (.view ⟨g,0,none⟩ (ρ.t 5))).cell? ⟨b,1,none⟩=some (.slice (some ⟨g,0,none⟩) 0 0):=by have:(w.drew.alloc (.view ⟨g,0,none⟩ (ρ.t 5))).heap[b]? = _:=(Lib.alloc_old w.drew _ b hlt).trans hbk;rw[Lib.cell_of_heap this]; rfl
 have c3:(w.alloc (.view ⟨g,0,none⟩ (ρ.t 5))).drew.cell? ⟨b,1,none⟩=some (.slice (some ⟨g,0,none⟩) 0 0):=c2;have c0:w.cell? ⟨b,1,none⟩=some (.slice (some ⟨g,0,none⟩) 0 0):=c1;have mixed:=L.mixed;have t72:=L.t72; have a72:=L.a72; have z72:=L.z72; have v72:=L.v72; have u72:=gm L.t72;have t70:=L.t70; have a70:=L.a70; have z70:=L.z70; have v70:=L.v70; have u70:=gm L.t70;have t37:=L.t37; have a37:=L.a37; have z37:=L.z37; have v37:=L.v37; have u37:=gm L.t37;have t127:=L.t127; have a127:=L.a127; have z127:=L.z127; have v127:=L.v127; have u127:=gm L.t127;have t3:=L.t3; have a3:=L.a3; have z3:=L.z3; have v3:=L.v3; have u3:=gm L.t3;have t9:=L.t9; have a9:=L.a9; have z9:=L.z9; have v9:=L.v9; have u9:=gm L.t9;have t5:=X.t5; have a5:=X.a5; have z5:=X.z5; have v5:=X.v5; have u5:=gm X.t5;go_enter L.f169,Body.n169_ntmps ρ
 go_wp2
 go_region_o
 all_goals (go_wp2; go_ret; exact ⟨rfl,w.drew,rfl,rfl,rfl,rfl,rfl⟩)
end
theorem aOC {a:Nat} (c:n≠m):(w.drew.freeze ⟨m,0,none⟩ a).heap[n]? = w.heap[n]? := by
 unfold World.freeze;split
 .rfl
 .show (w.heap.modify m _)[n]? = _;rw[Array.getElem?_modify,aX (Ne.symm c)]
def bB6 (h:w.heap[n]? = some (.cells b C (0,0))) (a:m≠0):(w.drew.freeze ⟨n,0,none⟩ m).heap[n]? = some (.cells b C (0,0+m)):=by unfold World.freeze;rw[aX a];show (w.heap.modify n _)[n]? = _;rw[Array.getElem?_modify,ay rfl,h];rfl
theorem bA7 (l:d_):Ev Tryz.prog 73 [.ptr 0 0] [some [.eU 163 0,.eF l]] (.str ⟨l.toArray⟩) [some [.eU 163 0,.sl false 1 (pJ l)]]:=by
 refine ⟨by kernel_rfl,fun b1 M B w a' y i F G hv => ?_⟩;obtain ⟨c,rfl⟩:=a'1 i;obtain ⟨u,rfl,hu⟩:=b2X hv;obtain ⟨c',⟨n,_⟩,rfl⟩:=yH.1 hu;simp at n; subst n;obtain ⟨c',n,vs,K,o1,⟨o2,L⟩,o3,o4,o5⟩:=i.2 0 _ rfl;simp at n; subst n;obtain ⟨D,b2,N,_,_⟩:=o4 0 _ rfl;obtain ⟨c2,H,hp⟩:=Pi.1 N;simp at H; subst H;obtain ⟨I,_⟩:=hp.2 (by decide);obtain ⟨v1,O,Q,S,_⟩:=o4 1 _ rfl;have b3:vs.size=2:=by rw[o2,I]
 have C:K=163+1:=by rw[L,I]
 subst C;obtain ⟨K,b4,o1⟩:=MK o1 (by decide);have C:K=163:=by omega
 subst C;have T:vs = #[D,v1]:=by grind
 have m:w.heap[c.1]? = some (.cells #[D,v1] 163 (0,0)):=by rw[<- T]; exact o1
 obtain ⟨A,q,rfl,b5,hA⟩:=a8Q.1 Q;obtain ⟨t1,t2⟩:=S.t l A _ q rfl rfl;have p:∀ b o u,w.cell? ⟨b,o,none⟩=some u->w.drew.cell? ⟨b,o,none⟩=some u:=fun _ _ _ h=>h
 have d:=fun (w2:World) h1 h2 a1 a2 a3 a4=>c7X (w2:=w2) y i F G o1 O h1 h2 a1 a2 a3 a4
 cases A with
 | none =>have r:=t1 rfl;subst r;have E:l = []:=oK (by omega);subst E;refine (aIH Tryz.lays169 OE 163 c.1 0 0 none none D ⟨#[]⟩ w w.drew m rfl (Any.unsafeString_none Tryz.lays169 OE _ _)).mono ?_;rintro e U ⟨rfl,rfl⟩;exact ⟨_,M,[c],rfl,d w.drew (fun _ _ _=>rfl) p rfl rfl rfl (dO _)⟩
 | some a =>
  obtain ⟨V,J,g2,g3,g4,g5,g6⟩:=t2 a rfl;obtain ⟨g,b6,sp⟩:=a;simp only at J g4 g5 g6;subst g5; subst g6;by_cases E:l = []
  .subst E;by_cases r:q=0
   .subst r;refine (c7Y Tryz.lays169 OE 163 c.1 g V D w m J).mono ?_;rintro e U ⟨rfl,x,x1,x2,x3,x4,rfl⟩;have z:∀ b,b<w.heap.size->(x.alloc (.view ⟨g,0,none⟩ (Tryz.lays169_ren.t 5))).heap[b]? = w.heap[b]? := fun b X=>by rw[<- x1]; grind [Below.heap_alloc]
    refine ⟨_,M,[c],rfl,d _ (fun b X _=>z b X) (fun b o u h => ?_) x2 x3 x4 (by rw[World.size_alloc,x1]; omega)⟩;exact (VG (z b (Af _ _ h))).trans h
   .refine (aIH Tryz.lays169 OE 163 c.1 0 q (some ⟨g,0,none⟩) (some ⟨g,0,none⟩) D ⟨#[]⟩ w w.drew m (Lib.run_unsafeSliceData_row _ _ _ _ _ _ r) (Any.unsafeString_none Tryz.lays169 OE _ _)).mono ?_;rintro e U ⟨rfl,rfl⟩;exact ⟨_,M,[c],rfl,d w.drew (fun _ _ _=>rfl) p rfl rfl rfl (dO _)⟩
  .have f:l.length≠0:=fun h=>E (oK h)
   obtain ⟨b',b0,e1,v⟩:=hA E;cases e1;refine (aIH Tryz.lays169 OE 163 c.1 l.length q (some ⟨g,0,none⟩) (some ⟨g,0,none⟩) D ⟨l.toArray⟩ w (w.drew.freeze ⟨g,0,none⟩ l.length) m (Lib.run_unsafeSliceData_row _ _ _ _ _ _ (by omega)) ?_).mono ?_
   .refine Lib.run_unsafeString_row w.drew _ _ _ (Tryz.lays169_ren.t 5) (Lays.n169.t127 Tryz.lays169) (Builder.Extra.cellsByte OE) g V.size (by have Y:w.drew.heap[g]? = some (.cells V OG (0,0)):=J; simp[World.shape?,Y]; rfl) l E (by omega) (by grind [maxLen]) ?_;intro j x hx;have h:=(y g (0+j) _ (v j x hx)).1;rw[xh] at h;grind [Addr.add]
   .rintro e U ⟨rfl,rfl⟩;refine ⟨_,M,[c],rfl,d _ (fun b X h0 => ?_) (fun b o u h => ?_) ?_ ?_ ?_ ?_⟩;grind [cu,PV.own,aOC]
    .by_cases Z:b=g
     .subst Z;unfold World.cell? at h ⊢;simp only[bB6 J f];grind
     grind [World.cell?_of_block,aOC]
    .unfold World.freeze; rw[aX f]; rfl
    .unfold World.freeze; rw[aX f]; rfl
    .unfold World.freeze; rw[aX f]; rfl
    .unfold World.freeze; rw[aX f];simp
def Vb:Int:=4611686018427387904
def CS:l7:=fun g args h=>match g,args,h with
 | 20,[.str s],h=>some (H5 (vX s.data.toList),h)
 | 74,[.int .i64 n],h=>(match decide (0<=n)&&decide (n<Vb) with | true=>some (.str ⟨(Lib.decDigits n.toNat).toArray⟩,h) | false=>none)
 | 239,[.str s,.int .u8 c],h=>some (.int .i64 (Lib.indexByte s.data.toList c.toNat.toUInt8),h)
 | 82,[.str s,.int .i64 n],h=>(match decide (0<=n)&&(Nat.ble n.toNat 9223372036854775807&&Nat.ble (s.size*n.toNat) 140737488355328) with
  | true=>some (.str ⟨(Lib.repeatL s.data.toList n.toNat).toArray⟩,h)
  | false=>none)
 | 14,[.str s,.str x],h=>(match Nat.ble s.size 1073741824 with
  | true=>some (.bool (Lib.contains s.data.toList x.data.toList),h)
  | false=>none)
 | 21,[.sl _ 1 d,.str a],h=>(match kT d with
  | some b=>(match Nat.ble (Ii b a).length 140737488355328&&Nat.ble b.length 140737488355328 with
   | true=>some (.str ⟨(Ii b a).toArray⟩,h)
   | false=>none)
  | none=>none)
 | 73,[.ptr 0 0],[some [.eU 163 0,.eF l]]=>some (.str ⟨l.toArray⟩,[some [.eU 163 0,.sl false 1 (pJ l)]])
 | 176,[.ptr 0 0],[some [.eU 163 0,.eF l]]=>some (.tuple [],[some [.eU 163 0,.eF l]])
 | _,_,_=>none
theorem c3H (a:BH M w):Jr Tryz.prog Tryz.laysM171_ren w:=fun i b=>by
 refine (a _ i _ (M.g _ _ _ ?_)).1;show Dh M.m (Tryz.laysM171_ren.g 17) i=_;have e:(aIK M.m).lookup (Tryz.laysM171_ren.g 17)=some (Lib.pow10Tab.map (Value.int .u64)):=by kernel_rfl
 unfold Dh;rw[e,Qb,nP];grind [Lib.pow10Tab]
theorem bAB (n:Int) (b:0<=n) (c:n<Vb) (h:aH):Ev Tryz.prog 74 [.int .i64 n] h (.str ⟨(Lib.decDigits n.toNat).toArray⟩) h:=by
 unfold Vb at c;have ev:∀ {M:Mem} {B:aT} {a:Array Value},bI M B [.int .i64 n] a.toList->a = #[.int .i64 n]:=fun hv=>by obtain ⟨e,f,g,i,hv⟩:=eP.1 hv;rw[gZ] at hv; grind [iK]
 by_cases j:n<100
 .refine aBE (v := .string ⟨(Lib.decDigits n.toNat).toArray⟩) (by kernel_rfl) (fun _ _=>kz.2 rfl) rfl (fun M B w a hv => ?_) h;rw[ev hv];have:=bX5 n.toNat (by omega) w;rwa [aJL b] at this
 .refine (a1Y (v := .string ⟨(Lib.decDigits n.toNat).toArray⟩) (by kernel_rfl) (fun _ _=>kz.2 rfl) rfl fun M w a d hv => ?_).frame' rfl rfl h;rw[ev hv];have:=bX4 Tryz.laysM171 n.toNat (by omega) (by omega) w (c3H d);rwa [aJL b] at this
def cA4 (hv:bI M B [r,y] b.toList):∃ u v,b = #[u,v]/\dC M B r u/\dC M B y v:=V_ hv
def b74:Builder.Extra Tryz.prog Tryz.lays105_ren where
 sizeBuilder:=by kernel_rfl
 liesBuilder:=by kernel_rfl
 t5:=Tryz.underlying5
 a5:=Tryz.isAgg5
 z5:=Tryz.sizeOf5
 v5:=Tryz.zeroValue5
 infoByte:=by kernel_rfl
 cellsByte:=by kernel_rfl
 sizeByte:=by kernel_rfl
 neB5:=by decide
def c4A (s:ByteArray) (c:Nat) (w:World) (b:c<=9223372036854775807) (a:s.size*c<=140737488355328) :
 Calls Tryz.prog 82 #[.string s,.int .i64 c] w fun e d=>e = .returned (.string ⟨(Lib.repeatL s.data.toList c).toArray⟩)/\Below w.heap.size w d :=
 Any.strings_Repeat Tryz.lays105 b74 s c w b a
def bAH (s:ByteArray) (n:Int) (c:0<=n) (d:n.toNat<=9223372036854775807) (e:s.size*n.toNat<=140737488355328):Ev Tryz.prog 82 [.str s,.int .i64 n] [] (.str ⟨(Lib.repeatL s.data.toList n.toNat).toArray⟩) []:=by
 refine a1Y (v := .string ⟨(Lib.repeatL s.data.toList n.toNat).toArray⟩) (by kernel_rfl) (fun _ _=>kz.2 rfl) rfl fun M w a b hv => ?_
 obtain ⟨u,v,rfl,f,hv⟩:=V_ hv;rw[kz.1 f,iK.1 hv];have:=c4A s n.toNat w d e;rwa [aJL c] at this
def b'B (a:BH M w):w.cell? ⟨Tryz.lays144_ren.g 1,0,none⟩=some (.int .i64 M.m):=by refine (a _ 0 _ (M.g _ _ _ ?_)).1;show Dh M.m (Tryz.lays144_ren.g 1) 0=_;rfl
theorem bA9 (s x:ByteArray) (c:s.size<4294967281) (h:aH):Ev Tryz.prog 14 [.str s,.str x] h (.bool (Lib.contains s.data.toList x.data.toList)) h:=by refine (a1Y (v := .bool (Lib.contains s.data.toList x.data.toList)) (by kernel_rfl) (fun _ _=>oh.2 rfl) rfl fun M w b a hv => ?_).frame' rfl rfl h;obtain ⟨u,v,rfl,d,hv⟩:=V_ hv;rw[kz.1 d,kz.1 hv];refine (Any.strings_Contains Tryz.lays144 s x M.m w c (b'B a)).mono ?_;grind [Below.refl]
def bB3 (r:Jw):(H5 r).flat=true:=by
 cases r with
 | ok c=>rfl
 | err a b e=>rfl
theorem b3R:qL Tryz.prog CS:=by
 intro g args h r h' hv;unfold CS at hv;split at hv
 .rename_i h s;cases hv;have:=bA4 s.data.toList;have e:bs s.data.toList=s:=by rfl
  rw[e] at this;exact this.frame' (bB3 _) rfl _
 grind [bAB]
 .rename_i h s c;cases hv;refine aBE (v := .int .i64 (Lib.indexByte s.data.toList c.toNat.toUInt8)) (by kernel_rfl) (fun _ _=>iK.2 rfl) rfl (fun M B w d hv => ?_) _;obtain ⟨u,v,rfl,f,hv⟩:=cA4 hv;rw[kz.1 f,iK.1 hv];exact Any.stringslite_IndexByte Tryz.lays217 s c w
 .rename_i h s n;split at hv
  .rename_i a;cases hv;simp only[bQ,tJ] at a;exact (bAH s n a.1 (Ee a.2.1) (Ee a.2.2)).frame' rfl rfl _
  .cases hv
 .rename_i h s x;split at hv
  .rename_i a;cases hv;exact bA9 s x (by have:=Ee a; omega) _
  .cases hv
 .rename_i h o l b;split at hv
  .rename_i i j;split at hv
   .rename_i a;cases hv;simp only[bQ] at a;rw[b1P j];exact (bAC o i b (Ee a.1) (Ee a.2)).frame' rfl (by rfl) _
   .cases hv
  .cases hv
 grind [bA7]
 grind [bAA]
 .cases hv
end Go.Proofs.YtmbehibpfkkjbaaGreatDoor
namespace Go.Proofs.YtmbehibpfkkjbaaGreatDoor
end Go.Proofs.YtmbehibpfkkjbaaGreatDoor
namespace Go.Proofs.YtmbehibpfkkjbaaGreatDoor.W
open Go.RowKit
set_option maxRecDepth 1000000
section
abbrev eu (n:Nat):PV:=.func (.func n) [] []
abbrev dm (n:Nat) (l:ai):PV:=.func (.func n) [] l
noncomputable abbrev cEX (l:d_):PV:=.str ⟨l.toArray⟩
abbrev bi (h:aH):Option (PV × aH):=some (.tuple [],h)
abbrev iM:Option (PV × aH):=some (.bool false,[])
abbrev rC:Option (PV × aH):=some (.bool true,[])
abbrev aP (n:Int):PV:=.int .i64 n
abbrev a_ (l:ai):PV:=.sl false 1 l
abbrev ag:PV:=.ptr 0 0
abbrev b_:=ByteArray
abbrev S0:List Sh := [.S,.L false 5,.L false 9,.L false 3,.L false 3,.L false 2,.L false 3]
abbrev A0 (u:Sh.V S0):PV := .agg [.str u.1,.sl false 5 u.2.1,.sl false 9 u.2.2.1,.sl false 3 u.2.2.2.1,.sl false 3 u.2.2.2.2.1,.sl false 2 u.2.2.2.2.2.1,.sl false 3 u.2.2.2.2.2.2.1]
abbrev S1:List Sh := [.I .i64,.I .i64,.I .i64,.L false 4]
abbrev A1 (u:Sh.V S1):PV := .agg [.int .i64 u.1,.int .i64 u.2.1,.int .i64 u.2.2.1,.sl false 4 u.2.2.2.1]
abbrev O1 (u:Sh.V S1):Option (ai):=some [.int .i64 u.1,.int .i64 u.2.1,.int .i64 u.2.2.1,.sl false 4 u.2.2.2.1]
abbrev S2:List Sh := [.I .u8,.I .u8,.I .u8,.I .u8,.I .u8,.L false 7,.L false 3,.L false 4,.L false 3]
abbrev A2 (u:Sh.V S2):PV := .agg [.int .u8 u.1,.int .u8 u.2.1,.int .u8 u.2.2.1,.int .u8 u.2.2.2.1,.int .u8 u.2.2.2.2.1,.sl false 7 u.2.2.2.2.2.1,.sl false 3 u.2.2.2.2.2.2.1,.sl false 4 u.2.2.2.2.2.2.2.1,.sl false 3 u.2.2.2.2.2.2.2.2.1]
abbrev S3:List Sh := [.I .u16,.I .u16,.I .u8]
abbrev A3 (u:Sh.V S3):PV := .agg [.int .u16 u.1,.int .u16 u.2.1,.int .u8 u.2.2.1]
abbrev S4:List Sh := [.S,.B,.B,.B,.I .i64]
abbrev A4 (u:Sh.V S4):PV := .agg [.str u.1,.bool u.2.1,.bool u.2.2.1,.bool u.2.2.2.1,.int .i64 u.2.2.2.2.1]
abbrev O4 (u:Sh.V S4):Option (ai):=some [.str u.1,.bool u.2.1,.bool u.2.2.1,.bool u.2.2.2.1,.int .i64 u.2.2.2.2.1]
abbrev S5:List Sh := [.S,.L false 1,.L false 1,.L false 1,.I .i64,.I .i64,.L false 1,.L false 4,.L false 8]
abbrev A5 (u:Sh.V S5):PV := .agg [.str u.1,.sl false 1 u.2.1,.sl false 1 u.2.2.1,.sl false 1 u.2.2.2.1,.int .i64 u.2.2.2.2.1,.int .i64 u.2.2.2.2.2.1,.sl false 1 u.2.2.2.2.2.2.1,.sl false 4 u.2.2.2.2.2.2.2.1,.sl false 8 u.2.2.2.2.2.2.2.2.1]
abbrev S6:List Sh := [.L false 1,.I .i64,.I .i64,.L false 1,.L false 4,.L false 8]
abbrev A6 (u:Sh.V S6):PV := .agg [.sl false 1 u.1,.int .i64 u.2.1,.int .i64 u.2.2.1,.sl false 1 u.2.2.2.1,.sl false 4 u.2.2.2.2.1,.sl false 8 u.2.2.2.2.2.1]
abbrev O6 (u:Sh.V S6):Option (ai):=some [.sl false 1 u.1,.int .i64 u.2.1,.int .i64 u.2.2.1,.sl false 1 u.2.2.2.1,.sl false 4 u.2.2.2.2.1,.sl false 8 u.2.2.2.2.2.1]
abbrev S7:List Sh := [.S,.I .i64,.I .i64,.I .i64]
abbrev A7 (u:Sh.V S7):PV := .agg [.str u.1,.int .i64 u.2.1,.int .i64 u.2.2.1,.int .i64 u.2.2.2.1]
abbrev O7 (u:Sh.V S7):Option (ai):=some [.str u.1,.int .i64 u.2.1,.int .i64 u.2.2.1,.int .i64 u.2.2.2.1]
abbrev S8:List Sh := [.S,.S,.L false 1]
abbrev A8 (u:Sh.V S8):PV := .agg [.str u.1,.str u.2.1,.sl false 1 u.2.2.1]
abbrev O8 (u:Sh.V S8):Option (ai):=some [.str u.1,.str u.2.1,.sl false 1 u.2.2.1]
abbrev S9:List Sh := [.I .i64,.I .i64,.I .i64,.I .i64,.I .i64,.I .i64,.L false 4,.L false 5]
abbrev A9 (u:Sh.V S9):PV := .agg [.int .i64 u.1,.int .i64 u.2.1,.int .i64 u.2.2.1,.int .i64 u.2.2.2.1,.int .i64 u.2.2.2.2.1,.int .i64 u.2.2.2.2.2.1,.sl false 4 u.2.2.2.2.2.2.1,.sl false 5 u.2.2.2.2.2.2.2.1]
abbrev O9 (u:Sh.V S9):Option (ai):=some [.int .i64 u.1,.int .i64 u.2.1,.int .i64 u.2.2.1,.int .i64 u.2.2.2.1,.int .i64 u.2.2.2.2.1,.int .i64 u.2.2.2.2.2.1,.sl false 4 u.2.2.2.2.2.2.1,.sl false 5 u.2.2.2.2.2.2.2.1]
abbrev lF:List Sh := [.S,.L false 2]
abbrev Ag (u:Sh.V lF):PV := .agg [.str u.1,.sl false 2 u.2.1]
abbrev zh (u:Sh.V lF):Option (ai):=some [.str u.1,.sl false 2 u.2.1]
abbrev rX:List Sh := [.I .i64,.I .i64,.I .i64,.I .i64,.L false 4]
abbrev Ji (u:Sh.V rX):PV := .agg [.int .i64 u.1,.int .i64 u.2.1,.int .i64 u.2.2.1,.int .i64 u.2.2.2.1,.sl false 4 u.2.2.2.2.1]
abbrev O11 (u:Sh.V rX):Option (ai):=some [.int .i64 u.1,.int .i64 u.2.1,.int .i64 u.2.2.1,.int .i64 u.2.2.2.1,.sl false 4 u.2.2.2.2.1]
abbrev Aj:List Sh := [.S,.S]
abbrev Jj (u:Sh.V Aj):PV := .agg [.str u.1,.str u.2.1]
abbrev jb:List Sh := [.S,.L false 2,.I .i64]
abbrev xk (u:Sh.V jb):PV := .agg [.str u.1,.sl false 2 u.2.1,.int .i64 u.2.2.1]
abbrev xm (u:Sh.V jb):Option (ai):=some [.str u.1,.sl false 2 u.2.1,.int .i64 u.2.2.1]
abbrev Bf:List Sh := [.S,.I .i64]
abbrev VJ (u:Sh.V Bf):PV := .agg [.str u.1,.int .i64 u.2.1]
abbrev iW:List Sh := [.L true 5]
abbrev aG (u:Sh.V iW):Option (ai):=some [.sl true 5 u.1]
abbrev aC:List Sh := [.L false 5,.I .i64,.I .i64,.I .i64]
abbrev aA (u:Sh.V aC):Option (ai):=some [.sl false 5 u.1,.int .i64 u.2.1,.int .i64 u.2.2.1,.int .i64 u.2.2.2.1]
abbrev Dt:List Sh := [.pt 1 0,.I .i64,.L false 1]
abbrev Vf (u:Sh.V Dt):Option (ai):=some [.ptr 1 0,.int .i64 u.1,.sl false 1 u.2.1]
abbrev Ak:List Sh := [.pt 1 0,.S,.L true 5,.L true 9,.L true 3,.L true 3,.L true 2,.L true 3,.L false 1,.I .i64]
abbrev Hz (u:Sh.V Ak):Option (ai):=some [.ptr 1 0,.str u.1,.sl true 5 u.2.1,.sl true 9 u.2.2.1,.sl true 3 u.2.2.2.1,.sl true 3 u.2.2.2.2.1,.sl true 2 u.2.2.2.2.2.1,.sl true 3 u.2.2.2.2.2.2.1,.sl false 1 u.2.2.2.2.2.2.2.1,.int .i64 u.2.2.2.2.2.2.2.2.1]
abbrev RH:List Sh := [.I .i64]
abbrev mP (u:Sh.V RH):Option (ai):=some [.int .i64 u.1]
abbrev yS:List Sh := [.I .u8,.I .u8,.I .u8]
abbrev O20 (u:Sh.V yS):Option (ai):=some [.int .u8 u.1,.int .u8 u.2.1,.int .u8 u.2.2.1]
abbrev Jt:List Sh := [.I .u8,.I .u8,.I .u8,.I .u8]
abbrev O21 (u:Sh.V Jt):Option (ai):=some [.int .u8 u.1,.int .u8 u.2.1,.int .u8 u.2.2.1,.int .u8 u.2.2.2.1]
abbrev lq:List Sh := [.S,.L true 2]
abbrev lg (u:Sh.V lq):Option (ai):=some [.str u.1,.sl true 2 u.2.1]
abbrev jT:List Sh := [.S,.L true 5,.L true 9,.L true 3,.L true 3,.L true 2,.L true 3]
abbrev bU (u:Sh.V jT):Option (ai):=some [.str u.1,.sl true 5 u.2.1,.sl true 9 u.2.2.1,.sl true 3 u.2.2.2.1,.sl true 3 u.2.2.2.2.1,.sl true 2 u.2.2.2.2.2.1,.sl true 3 u.2.2.2.2.2.2.1]
abbrev S24:List Sh := [.S,.L false 5,.L true 9,.L true 3,.L true 3,.L true 2,.L true 3]
abbrev FU (u:Sh.V S24):Option (ai):=some [.str u.1,.sl false 5 u.2.1,.sl true 9 u.2.2.1,.sl true 3 u.2.2.2.1,.sl true 3 u.2.2.2.2.1,.sl true 2 u.2.2.2.2.2.1,.sl true 3 u.2.2.2.2.2.2.1]
abbrev dn:List Sh := [.S,.S,.L true 1]
abbrev dA (u:Sh.V dn):Option (ai):=some [.str u.1,.str u.2.1,.sl true 1 u.2.2.1]
abbrev uK:List Sh := [.I .u8,.I .u8,.I .u8,.I .u8,.L false 2,.L false 3,.L false 1]
abbrev Bd (u:Sh.V uK):PV := .agg [.int .u8 u.1,.int .u8 u.2.1,.int .u8 u.2.2.1,.int .u8 u.2.2.2.1,.sl false 2 u.2.2.2.2.1,.sl false 3 u.2.2.2.2.2.1,.sl false 1 u.2.2.2.2.2.2.1]
abbrev Vl:List Sh := [.I .i8,.I .i8,.I .i8]
abbrev Vm:List Sh := [.I .u8,.I .u8,.I .u8,.I .u8,.I .u8]
abbrev Zf (u:Sh.V Vm):PV := .agg [.int .u8 u.1,.int .u8 u.2.1,.int .u8 u.2.2.1,.int .u8 u.2.2.2.1,.int .u8 u.2.2.2.2.1]
abbrev eY:List Sh := [.pt 1 0,.I .i64,.L true 1]
abbrev bH (u:Sh.V eY):Option (ai):=some [.ptr 1 0,.int .i64 u.1,.sl true 1 u.2.1]
abbrev o7:List Sh := [.I .i64,.S,.I .i64,.I .i64,.I .i64]
abbrev rU (u:Sh.V o7):PV := .agg [.int .i64 u.1,.str u.2.1,.int .i64 u.2.2.1,.int .i64 u.2.2.2.1,.int .i64 u.2.2.2.2.1]
abbrev O30 (u:Sh.V o7):Option (ai):=some [.int .i64 u.1,.str u.2.1,.int .i64 u.2.2.1,.int .i64 u.2.2.2.1,.int .i64 u.2.2.2.2.1]
abbrev dH:List Sh := [.pt 2 0,.I .i64,.L true 1]
abbrev ah (u:Sh.V dH):Option (ai):=some [.ptr 2 0,.int .i64 u.1,.sl true 1 u.2.1]
abbrev S32:List Sh := [.fn 51]
abbrev S33:List Sh := [.M]
abbrev O33 (u:Sh.V S33):Option (ai):=some [.mp u.1]
abbrev S34:List Sh := [.L false 3,.L false 3]
abbrev A34 (u:Sh.V S34):PV := .agg [.sl false 3 u.1,.sl false 3 u.2.1]
abbrev S35:List Sh := [.B,.B,.B]
abbrev A35 (u:Sh.V S35):PV := .agg [.bool u.1,.bool u.2.1,.bool u.2.2.1]
abbrev jU:List Sh := [.pt 0 0]
abbrev wu:List Sh := [.bd 163 0,.Y]
abbrev ql (u:Sh.V wu):Option (ai):=some [.eU 163 0,.eF u.1]
abbrev pz:List Sh := [.B]
abbrev jR (u:Sh.V pz):Option (ai):=some [.bool u.1]
abbrev RI:List Sh := [.bd 163 1,.Y]
abbrev Dp (u:Sh.V RI):Option (ai):=some [.eU 163 1,.eF u.1]
abbrev Vo:List Sh := [.bd 163 0,.L false 1]
abbrev Ju:List Sh := [.pt 2 0,.S,.L true 5,.L true 9,.L true 3,.L true 3,.L true 2,.L true 3,.L false 1,.I .i64]
abbrev xn:List Sh := [.L true 1]
abbrev ja (u:Sh.V xn):Option (ai):=some [.sl true 1 u.1]
abbrev jV:List Sh := [.pt 1 0]
abbrev bF:List Sh := [.pt 1 0,.S,.L true 5,.L true 9,.L true 3,.L true 3,.L true 2,.L true 3,.L true 1,.I .i64]
abbrev aO (u:Sh.V bF):Option (ai):=some [.ptr 1 0,.str u.1,.sl true 5 u.2.1,.sl true 9 u.2.2.1,.sl true 3 u.2.2.2.1,.sl true 3 u.2.2.2.2.1,.sl true 2 u.2.2.2.2.2.1,.sl true 3 u.2.2.2.2.2.2.1,.sl true 1 u.2.2.2.2.2.2.2.1,.int .i64 u.2.2.2.2.2.2.2.2.1]
abbrev dW:List Sh := [.S,.L true 1,.L true 1,.L true 1,.I .i64,.I .i64,.L true 1,.L true 4,.L true 8]
abbrev dP (u:Sh.V dW):Option (ai):=some [.str u.1,.sl true 1 u.2.1,.sl true 1 u.2.2.1,.sl true 1 u.2.2.2.1,.int .i64 u.2.2.2.2.1,.int .i64 u.2.2.2.2.2.1,.sl true 1 u.2.2.2.2.2.2.1,.sl true 4 u.2.2.2.2.2.2.2.1,.sl true 8 u.2.2.2.2.2.2.2.2.1]
abbrev S46:List Sh := [.S,.L false 1,.L false 1,.L true 1,.I .i64,.I .i64,.L true 1,.L true 4,.L true 8]
abbrev Vg (u:Sh.V S46):Option (ai):=some [.str u.1,.sl false 1 u.2.1,.sl false 1 u.2.2.1,.sl true 1 u.2.2.2.1,.int .i64 u.2.2.2.2.1,.int .i64 u.2.2.2.2.2.1,.sl true 1 u.2.2.2.2.2.2.1,.sl true 4 u.2.2.2.2.2.2.2.1,.sl true 8 u.2.2.2.2.2.2.2.2.1]
abbrev S47:List Sh := [.L true 1,.I .i64,.I .i64,.L true 1,.L false 4,.L true 8]
abbrev Vh (u:Sh.V S47):Option (ai):=some [.sl true 1 u.1,.int .i64 u.2.1,.int .i64 u.2.2.1,.sl true 1 u.2.2.2.1,.sl false 4 u.2.2.2.2.1,.sl true 8 u.2.2.2.2.2.1]
abbrev kP:List Sh := [.I .i64,.I .i64,.I .i64,.I .i64,.I .i64,.I .i64,.L false 4,.L true 5]
abbrev kN (u:Sh.V kP):Option (ai):=some [.int .i64 u.1,.int .i64 u.2.1,.int .i64 u.2.2.1,.int .i64 u.2.2.2.1,.int .i64 u.2.2.2.2.1,.int .i64 u.2.2.2.2.2.1,.sl false 4 u.2.2.2.2.2.2.1,.sl true 5 u.2.2.2.2.2.2.2.1]
abbrev Bg:List Sh := [.pt 4 0,.I .i64,.L true 1]
abbrev mQ (u:Sh.V Bg):Option (ai):=some [.ptr 4 0,.int .i64 u.1,.sl true 1 u.2.1]
abbrev gW:List Sh := [.pt 2 0]
abbrev iY:List Sh := [.pt 3 0]
abbrev S52:List Sh := [.I .i64,.I .i64,.I .i64,.L true 4]
abbrev FV (u:Sh.V S52):Option (ai):=some [.int .i64 u.1,.int .i64 u.2.1,.int .i64 u.2.2.1,.sl true 4 u.2.2.2.1]
abbrev kC:List Sh := [.pt 2 0,.S,.L true 5,.L true 9,.L true 3,.L true 3,.L true 2,.L true 3,.L true 1,.I .i64]
abbrev dh (u:Sh.V kC):Option (ai):=some [.ptr 2 0,.str u.1,.sl true 5 u.2.1,.sl true 9 u.2.2.1,.sl true 3 u.2.2.2.1,.sl true 3 u.2.2.2.2.1,.sl true 2 u.2.2.2.2.2.1,.sl true 3 u.2.2.2.2.2.2.1,.sl true 1 u.2.2.2.2.2.2.2.1,.int .i64 u.2.2.2.2.2.2.2.2.1]
abbrev uM:List Sh := [.pt 1 0,.S,.L true 5,.L true 9,.L false 3,.L true 3,.L true 2,.L true 3,.L true 1,.I .i64]
abbrev wZ (u:Sh.V uM):Option (ai):=some [.ptr 1 0,.str u.1,.sl true 5 u.2.1,.sl true 9 u.2.2.1,.sl false 3 u.2.2.2.1,.sl true 3 u.2.2.2.2.1,.sl true 2 u.2.2.2.2.2.1,.sl true 3 u.2.2.2.2.2.2.1,.sl true 1 u.2.2.2.2.2.2.2.1,.int .i64 u.2.2.2.2.2.2.2.2.1]
abbrev uN:List Sh := [.pt 1 0,.S,.L true 5,.L true 9,.L true 3,.L false 3,.L true 2,.L true 3,.L true 1,.I .i64]
abbrev wo (u:Sh.V uN):Option (ai):=some [.ptr 1 0,.str u.1,.sl true 5 u.2.1,.sl true 9 u.2.2.1,.sl true 3 u.2.2.2.1,.sl false 3 u.2.2.2.2.1,.sl true 2 u.2.2.2.2.2.1,.sl true 3 u.2.2.2.2.2.2.1,.sl true 1 u.2.2.2.2.2.2.2.1,.int .i64 u.2.2.2.2.2.2.2.2.1]
abbrev RJ:List Sh := [.I .i8,.I .i8]
abbrev Am:List Sh := [.L false 1,.I .i64,.I .i64]
abbrev jS (u:Sh.V Am):Option (ai):=some [.sl false 1 u.1,.int .i64 u.2.1,.int .i64 u.2.2.1]
abbrev RN:List Sh := [.pt 2 0,.I .i64,.L false 1]
abbrev S60:List Sh := [.I .i64,.I .i64,.B]
abbrev rV (u:Sh.V S60):PV := .agg [.int .i64 u.1,.int .i64 u.2.1,.bool u.2.2.1]
abbrev jf:List Sh := [.pt 0 0,.S,.L true 5,.L true 9,.L true 3,.L true 3,.L true 2,.L true 3,.L true 1,.I .i64]
abbrev kW (u:Sh.V jf):Option (ai):=some [.ptr 0 0,.str u.1,.sl true 5 u.2.1,.sl true 9 u.2.2.1,.sl true 3 u.2.2.2.1,.sl true 3 u.2.2.2.2.1,.sl true 2 u.2.2.2.2.2.1,.sl true 3 u.2.2.2.2.2.2.1,.sl true 1 u.2.2.2.2.2.2.2.1,.int .i64 u.2.2.2.2.2.2.2.2.1]
abbrev Du:List Sh := [.pt 0 0,.S,.L true 5,.L true 9,.L false 3,.L true 3,.L true 2,.L true 3,.L true 1,.I .i64]
abbrev FW (u:Sh.V Du):Option (ai):=some [.ptr 0 0,.str u.1,.sl true 5 u.2.1,.sl true 9 u.2.2.1,.sl false 3 u.2.2.2.1,.sl true 3 u.2.2.2.2.1,.sl true 2 u.2.2.2.2.2.1,.sl true 3 u.2.2.2.2.2.2.1,.sl true 1 u.2.2.2.2.2.2.2.1,.int .i64 u.2.2.2.2.2.2.2.2.1]
abbrev Dv:List Sh := [.pt 0 0,.S,.L true 5,.L true 9,.L true 3,.L false 3,.L true 2,.L true 3,.L true 1,.I .i64]
abbrev FX (u:Sh.V Dv):Option (ai):=some [.ptr 0 0,.str u.1,.sl true 5 u.2.1,.sl true 9 u.2.2.1,.sl true 3 u.2.2.2.1,.sl false 3 u.2.2.2.2.1,.sl true 2 u.2.2.2.2.2.1,.sl true 3 u.2.2.2.2.2.2.1,.sl true 1 u.2.2.2.2.2.2.2.1,.int .i64 u.2.2.2.2.2.2.2.2.1]
abbrev S64:List Sh := [.S,.L true 2,.I .i64]
abbrev O64 (u:Sh.V S64):Option (ai):=some [.str u.1,.sl true 2 u.2.1,.int .i64 u.2.2.1]
abbrev iO:List Sh := [.pt 3 0,.I .i64,.L true 1]
abbrev gu (u:Sh.V iO):Option (ai):=some [.ptr 3 0,.int .i64 u.1,.sl true 1 u.2.1]
abbrev jg:List Sh := [.pt 0 0,.I .i64,.L true 1]
abbrev lh (u:Sh.V jg):Option (ai):=some [.ptr 0 0,.int .i64 u.1,.sl true 1 u.2.1]
abbrev jc:List Sh := [.pt 3 0,.S,.L true 5,.L true 9,.L true 3,.L true 3,.L true 2,.L true 3,.L true 1,.I .i64]
abbrev iq (u:Sh.V jc):Option (ai):=some [.ptr 3 0,.str u.1,.sl true 5 u.2.1,.sl true 9 u.2.2.1,.sl true 3 u.2.2.2.1,.sl true 3 u.2.2.2.2.1,.sl true 2 u.2.2.2.2.2.1,.sl true 3 u.2.2.2.2.2.2.1,.sl true 1 u.2.2.2.2.2.2.2.1,.int .i64 u.2.2.2.2.2.2.2.2.1]
abbrev S68:List Sh := [.I .i64,.I .i64,.I .i64,.I .i64,.I .i64,.I .i64,.L true 4,.L true 5]
abbrev O68 (u:Sh.V S68):Option (ai):=some [.int .i64 u.1,.int .i64 u.2.1,.int .i64 u.2.2.1,.int .i64 u.2.2.2.1,.int .i64 u.2.2.2.2.1,.int .i64 u.2.2.2.2.2.1,.sl true 4 u.2.2.2.2.2.2.1,.sl true 5 u.2.2.2.2.2.2.2.1]
abbrev Jv:List Sh := [.pt 3 0,.S,.L true 5,.L true 9,.L false 3,.L true 3,.L true 2,.L true 3,.L true 1,.I .i64]
abbrev Jq (u:Sh.V Jv):Option (ai):=some [.ptr 3 0,.str u.1,.sl true 5 u.2.1,.sl true 9 u.2.2.1,.sl false 3 u.2.2.2.1,.sl true 3 u.2.2.2.2.1,.sl true 2 u.2.2.2.2.2.1,.sl true 3 u.2.2.2.2.2.2.1,.sl true 1 u.2.2.2.2.2.2.2.1,.int .i64 u.2.2.2.2.2.2.2.2.1]
abbrev I4:List Sh := [.pt 3 0,.S,.L true 5,.L true 9,.L true 3,.L false 3,.L true 2,.L true 3,.L true 1,.I .i64]
abbrev Dq (u:Sh.V I4):Option (ai):=some [.ptr 3 0,.str u.1,.sl true 5 u.2.1,.sl true 9 u.2.2.1,.sl true 3 u.2.2.2.1,.sl false 3 u.2.2.2.2.1,.sl true 2 u.2.2.2.2.2.1,.sl true 3 u.2.2.2.2.2.2.1,.sl true 1 u.2.2.2.2.2.2.2.1,.int .i64 u.2.2.2.2.2.2.2.2.1]
abbrev S71:List Sh := [.pt 3 0,.S,.L true 5,.L true 9,.L true 3,.L true 3,.L true 2,.L true 3,.L false 1,.I .i64]
def lkT {a:Type} (g:Nat) (d:a):List (List Nat×a)->a
 | []=>d
 | x::l=>bif x.1.any (Nat.beq g) then x.2 else lkT g d l
def vvT (g:TypeId):Option RS:=lkT g none [([2,3,47],some (.ti .i64)),([4],some (.tb)),([5,6,336,337],some (.ti .u8)),([9,10,11],some (.ts)),([12,247,301],some (.ti .u64)),([21,339,340],some (.ti .i32)),([24],some (.tl false 7)),([25,27,40,42],some (.tl false 3)),([26,52,62],some (.tl false 4)),([30],some (.ti .u16)),([38,78,132],some (.tl false 5)),([39],some (.tl false 9)),([41,70,90,97,236],some (.tl false 2)),([54],some (.g S1)),([57,61,71,169,267,289],some (.tl false 1)),([60],some (.g S4)),([63],some (.tl false 8)),([67],some (.g S5)),([73],some (.g uK)),([86],some (.g yS)),([88],some (.g S8)),([89],some (.g Jt)),([92],some (.g lF)),([94],some (.g Aj)),([95],some (.ti .i8)),([96],some (.g Vl)),([99],some (.g Bf)),([101],some (.g jb)),([110],some (.g o7)),([134],some (.g S9)),([138],some (.g rX)),([145],some (.g S7)),([166],some (.z (.ni))),([251],some (.g RJ)),([298],some (.ti .u32)),([312],some (.g S60))]
def w0:jh:=([],.tb,[])
def w1:jh:=([],.ti .i64,[])
def w2:jh:=([],.ts,[])
def w3:jh:=([],.tl false 1,[])
def w4:jh:=([],.t [(false,[.S]),(false,[.I .i64])],[])
def w5:jh:=([],.t [(true,S1),(false,[.I .i64]),(false,[.I .i64]),(false,[.I .i64])],[])
def w6:jh:=([],.tl true 1,[])
def w7:jh:=([],.t [(true,S0),(false,[.I .i64]),(false,[.I .i64]),(false,[.I .i64])],[])
def w8:jh:=([.c iW],.t [],[.c iW])
def w9:jh:=([.c Dt,.c aC],.g S1,[.c Dt,.c aC])
def w10:jh:=([.c eY,.c aC],.g S1,[.c eY,.c aC])
def w11:jh:=([.c aC],.t [],[.c aC])
def w12:jh:=([.c Ak,.c aC],.g S1,[.c Ak,.c aC])
def w13:jh:=([.c bF,.c aC],.g S1,[.c bF,.c aC])
def w14:jh:=([],.g S1,[])
def w15:jh:=([],.tl false 5,[])
def w16:jh:=([.c aC],.g o7,[.c aC])
def w17:jh:=([.c dH,.c jT,.c aC],.t [],[.c dH,.c jT,.c aC])
def w18:jh:=([.z S32],.tb,[.z S32])
def w20:jh:=([.c S7],.tb,[.c S7])
def w21:jh:=([.c aC],.tb,[.c aC])
def w22:jh:=([.c Ju,.z jU,.c aC],.g S1,[.c Ju,.z jU,.c aC])
def w23:jh:=([.c kC,.z jU,.c aC],.g S1,[.c kC,.z jU,.c aC])
def w24:jh:=([.z jV,.c Ju,.c aC],.g S1,[.z jV,.c Ju,.c aC])
def w25:jh:=([.z jV,.c kC,.c aC],.g S1,[.z jV,.c kC,.c aC])
def w26:jh:=([.z jV,.c iW],.t [],[.z jV,.c iW])
def w27:jh:=([.c bF,.c aC],.t [],[.c bF,.c aC])
def w28:jh:=([.z gW,.z iY,.c Bg,.c jT,.c aC],.t [],[.z gW,.z iY,.c Bg,.c jT,.c aC])
def w29:jh:=([.z jV,.c kC,.c aC],.tb,[.z jV,.c kC,.c aC])
def w30:jh:=([.c dH,.c dW,.c aC],.t [],[.c dH,.c dW,.c aC])
def w31:jh:=([.c eY,.c aC],.ti .i64,[.c eY,.c aC])
def w32:jh:=([.z jV,.c RN,.c aC],.g S1,[.z jV,.c RN,.c aC])
def w33:jh:=([.z jV,.c dH,.c aC],.g S1,[.z jV,.c dH,.c aC])
def w34:jh:=([.c bF,.c aC],.ti .i64,[.c bF,.c aC])
def wwT (g:FuncId):List jh:=lkT g [] [([3,4,5,6,14,15,16,19,39,40,41,42,51,52,53,54,56,57,58,59,60,61,63,64,65,66,67,68,69,126,133,134,156,157,170,179,183,207,220,225,227,235,237,238],[w0]),([7,8,21,74,82,101,103,105,107,190,193,200,202,205,262,278],[w2]),([9],[([],.g S0,[])]),([10,17],[w7]),([11,13,23,45],[w4]),([12],[w5]),([18],[([],.t [(false,[.S]),(false,[.I .i64]),(false,[.I .i64]),(false,[.I .i64])],[])]),([20],[([],.t [(false,[.L false 5]),(false,[.I .i64]),(false,[.I .i64]),(false,[.I .i64])],[])]),([22,75,77,83,100,102,104,106,189,199],[w3]),([24,81],[w15]),([25],[([],.g S5,[])]),([26],[([],.z (.pt 0 0),[.c aC])]),([27,32,38],[w11]),([28],[([.c aC],.ts,[.c aC])]),([29],[([.c eY,.c aC],.tb,[.c eY,.c aC])]),([30,88],[w16]),([31,90,92,94,97,99],[w17]),([33,47,50,108,109,110,111,112,113,114,115,116,117,118,119,120,121,122,123,124,125,127,128,129,130,131,132,135,136,137,138,139,140,150,152,153,166,167,168,169,208,209,210,211,212,213,214,215,216,217,218,221,222,223,224,226,249,260,261,263,273,276],[w1]),([34],[([.c aC],.t [(false,[.I .i64]),(false,[.I .i64]),(false,[.I .i64])],[.c aC])]),([35,44,141,142,143,144,145],[w8]),([36,78,180,228,277],[w6]),([37,149,231],[w9,w10]),([43],[([],.t [(false,[.I .i64]),(false,[.I .i64])],[])]),([48],[([.c bF,.c aC],.tb,[.c bF,.c aC]),([.c Ak,.c aC],.tb,[.c Ak,.c aC])]),([49,160,162,164,165],[w27]),([55],[w18]),([62],[w18,w0]),([72],[([.c wu],.t [(false,[.I .i64]),(false,[.ni])],[.c wu])]),([73],[([.c wu],.ts,[.c Vo])]),([76],[([],.tl true 3,[])]),([79],[([.c pz,.c RI],.t [],[.c pz,.c RI])]),([80],[([.c wu],.z (.ni),[.c wu])]),([84],[([],.tl false 4,[])]),([85,86,155,268],[w14]),([87,161],[w21]),([89,91,93,95,96,98],[w28]),([146],[([.c iW,.z jU,.c lF],.t [],[.c iW,.z jU,.c lF]),([.c iW,.z jU,.c jb],.t [],[.c iW,.z jU,.c jb]),([.c iW,.z jU,.c xn,.c S9],.t [],[.c iW,.z jU,.c xn,.c S9]),([.c iW,.z jU],.t [],[.c iW,.z jU])]),([147],[([.z gW,.c lF,.c iW],.t [],[.z gW,.c lF,.c iW])]),([148],[([.z gW,.c jb,.c iW],.t [],[.z gW,.c jb,.c iW])]),([151],[([.c RH],.ti .i64,[.c RH])]),([154,230],[w26]),([159],[w29]),([163],[([.c uM,.c aC],.g S8,[.c uM,.c aC]),([.c bF,.c aC],.g S8,[.c bF,.c aC]),([.c uN,.c aC],.g S8,[.c uN,.c aC])]),([176],[([.c wu],.t [],[.c wu])]),([181],[([.a],.o (.H 0 0 5),[.a]),w15]),([182],[([],.tl true 5,[])]),([187],[([.c Am],.g S1,[.c Am])]),([188],[([.c eY,.c aC],.ts,[.c eY,.c aC])]),([191],[([.c eY,.c aC],.tl false 1,[.c eY,.c aC])]),([192],[([.c aC],.ti .i64,[.c aC])]),([194],[([.c iO,.c dW,.z jU,.c aC],.t [],[.c iO,.c dW,.z jU,.c aC]),([.c iO,.c dn,.z jU,.c aC],.t [],[.c iO,.c dn,.z jU,.c aC])]),([195],[([.c dW,.z gW,.c iO,.c aC],.t [],[.c dW,.z gW,.c iO,.c aC])]),([196],[([.c iO,.c dW,.c pz,.c aC],.t [],[.c iO,.c dW,.c pz,.c aC])]),([197,198],[w30]),([201],[([.c dn,.z gW,.c iO,.c aC],.t [],[.c dn,.z gW,.c iO,.c aC])]),([203],[([.c aC,.c dW,.z iY,.c jf],.t [],[.c aC,.c dW,.z iY,.c jf]),([.c aC,.c dn,.z iY,.c Du],.t [],[.c aC,.c dn,.z iY,.c Du]),([.c aC,.c dn,.z iY,.c jf],.t [],[.c aC,.c dn,.z iY,.c jf]),([.c aC,.c dn,.z iY,.c Dv],.t [],[.c aC,.c dn,.z iY,.c Dv]),([.c aC,.z iY,.c lq,.c jf],.t [],[.c aC,.z iY,.c lq,.c jf]),([.c aC,.z iY,.c lq,.c jg],.t [],[.c aC,.z iY,.c lq,.c jg]),([.c aC,.z iY,.c kP,.c jf],.t [],[.c aC,.z iY,.c kP,.c jf]),([.c aC,.c dW,.z iY,.c jg],.t [],[.c aC,.c dW,.z iY,.c jg]),([.c aC,.z iY,.c kP,.c jg],.t [],[.c aC,.z iY,.c kP,.c jg]),([.c aC,.c dn,.z iY,.c jg],.t [],[.c aC,.c dn,.z iY,.c jg])]),([204],[([.z gW,.c lq,.c iO,.c aC],.t [],[.z gW,.c lq,.c iO,.c aC])]),([206],[w31]),([219],[w20,w0]),([229],[([.z iY,.c xn,.c S9,.c iW],.t [],[.z iY,.c xn,.c S9,.c iW])]),([232],[([.c Dt,.c aC],.t [(false,[.I .i64]),(false,[.B]),(false,[.B])],[.c Dt,.c aC]),([.c eY,.c aC],.t [(false,[.I .i64]),(false,[.B]),(false,[.B])],[.c eY,.c aC])]),([233],[([.a],.t [],[.a])]),([234],[([],.t [(false,[.I .i64]),(false,[.B])],[])]),([236],[([.c xn],.tb,[.c xn])]),([243],[([.c bF,.c aC],.ts,[.c bF,.c aC]),([.c uM,.c aC],.ts,[.c uM,.c aC]),([.c uN,.c aC],.ts,[.c uN,.c aC])]),([244],[([.c dW,.z gW,.c jc,.c aC],.t [],[.c dW,.z gW,.c jc,.c aC])]),([245],[w34]),([246],[([.c bF,.c aC],.g S9,[.c bF,.c aC])]),([247],[([.c dn,.z gW,.c Jv,.c aC],.t [],[.c dn,.z gW,.c Jv,.c aC]),([.c dn,.z gW,.c jc,.c aC],.t [],[.c dn,.z gW,.c jc,.c aC]),([.c dn,.z gW,.c I4,.c aC],.t [],[.c dn,.z gW,.c I4,.c aC])]),([248],[([.z gW,.c lq,.c jc,.c aC],.t [],[.z gW,.c lq,.c jc,.c aC])]),([267],[([.c Am],.ti .i64,[.c Am])]),([269],[([.z jV,.c dH,.c aC],.tl false 1,[.z jV,.c dH,.c aC])]),([270],[([.z jV,.c dH,.c aC],.tb,[.z jV,.c dH,.c aC])]),([271],[([.c Dt,.c aC],.ti .i64,[.c Dt,.c aC]),w31]),([272],[([.z gW,.c kP,.c iO,.c aC],.t [],[.z gW,.c kP,.c iO,.c aC])]),([274],[w20]),([275],[([.c S7],.ti .i64,[.c S7]),w1]),([279],[([.c RN,.z jU,.c aC],.g S1,[.c RN,.z jU,.c aC]),([.c dH,.z jU,.c aC],.g S1,[.c dH,.z jU,.c aC])]),([280,281,282],[w32,w33]),([283],[([.z jV,.c Ju,.c aC],.ti .i64,[.z jV,.c Ju,.c aC]),w1,([.z jV,.c kC,.c aC],.ti .i64,[.z jV,.c kC,.c aC])]),([286],[w34,([.c Ak,.c aC],.ti .i64,[.c Ak,.c aC])]),([287,298,305,309],[w12,w13]),([288],[([.z gW,.c kP,.c jc,.c aC],.t [],[.z gW,.c kP,.c jc,.c aC])]),([295],[([.z jV,.c RN,.c aC],.t [],[.z jV,.c RN,.c aC]),([.z jV,.c dH,.c aC],.t [],[.z jV,.c dH,.c aC])]),([296],[w22,w12,w23,w13]),([297,308,312],[w24,w25]),([304],[([.z jV,.c Ju,.c aC],.tb,[.z jV,.c Ju,.c aC]),w29]),([310],[w12,([.c S71,.z jU,.c pz,.c aC],.g S1,[.c S71,.z jU,.c pz,.c aC]),w22,w13,([.c jc,.z jU,.c pz,.c aC],.g S1,[.c jc,.z jU,.c pz,.c aC]),w23]),([311],[([.z gW,.c pz,.c S71,.c aC],.g S1,[.z gW,.c pz,.c S71,.c aC]),([.z gW,.c pz,.c jc,.c aC],.g S1,[.z gW,.c pz,.c jc,.c aC])])]
def d0:yR:=⟨[],[],[],[],[],[],[],[],[],[],[],[],false⟩
def pZ1 (a0:List Nat):yR:=⟨a0,[],[],[],[],[],[],[],[],[],[],[],false⟩
def pZ2 (a0 a1:List Nat):yR:=⟨a0,a1,[],[],[],[],[],[],[],[],[],[],false⟩
def UN (a0 a1 a2:List Nat) (a3:List (Nat×List Nat)):yR:=⟨a0,a1,a2,a3,[],[],[],[],[],[],[],[],false⟩
def UO (a0 a1 a2:List Nat) (a3:List (Nat×List Nat)) (a4:List (Nat×List Nat)):yR:=⟨a0,a1,a2,a3,a4,[],[],[],[],[],[],[],false⟩
def yF (a0 a1 a2:List Nat) (a3:List (Nat×List Nat)) (a4:List (Nat×List Nat)) (a5:List (Nat×List Nat)):yR:=⟨a0,a1,a2,a3,a4,a5,[],[],[],[],[],[],false⟩
def jF (a0 a1 a2:List Nat) (a3:List (Nat×List Nat)) (a4:List (Nat×List Nat)) (a5:List (Nat×List Nat)) (a6:List (Nat×List Nat)):yR:=⟨a0,a1,a2,a3,a4,a5,a6,[],[],[],[],[],false⟩
def oD (a0 a1 a2:List Nat) (a3:List (Nat×List Nat)) (a4:List (Nat×List Nat)) (a5:List (Nat×List Nat)) (a6:List (Nat×List Nat)) (a7:List Nat):yR:=⟨a0,a1,a2,a3,a4,a5,a6,a7,[],[],[],[],false⟩
def ng (a0 a1 a2:List Nat) (a3:List (Nat×List Nat)) (a4:List (Nat×List Nat)) (a5:List (Nat×List Nat)) (a6:List (Nat×List Nat)) (a7:List Nat) (a8:List (List Nat×Bool)):yR:=⟨a0,a1,a2,a3,a4,a5,a6,a7,a8,[],[],[],false⟩
def c2A (a0 a1 a2:List Nat) (a3:List (Nat×List Nat)) (a4:List (Nat×List Nat)) (a5:List (Nat×List Nat)) (a6:List (Nat×List Nat)) (a7:List Nat) (a8:List (List Nat×Bool)) (a9:List (Nat×List Nat)):yR:=⟨a0,a1,a2,a3,a4,a5,a6,a7,a8,a9,[],[],false⟩
def Lt (a0 a1 a2:List Nat) (a3:List (Nat×List Nat)) (a4:List (Nat×List Nat)) (a5:List (Nat×List Nat)) (a6:List (Nat×List Nat)) (a7:List Nat) (a8:List (List Nat×Bool)) (a9:List (Nat×List Nat)) (w_:List Nat):yR:=⟨a0,a1,a2,a3,a4,a5,a6,a7,a8,a9,w_,[],false⟩
def iJ (a0 a1 a2:List Nat) (a3:List (Nat×List Nat)) (a4:List (Nat×List Nat)) (a5:List (Nat×List Nat)) (a6:List (Nat×List Nat)) (a7:List Nat) (a8:List (List Nat×Bool)) (a9:List (Nat×List Nat)) (w_ QN:List Nat):yR:=⟨a0,a1,a2,a3,a4,a5,a6,a7,a8,a9,w_,QN,false⟩
def dY:List Nat := [0,0,0,4]
def iT:List Nat := [0,1]
def jm:List Nat := [0,0,1]
def kL:List Nat := [0,5,9,3,3,2,3]
def lU:List Nat := [0,1,1,1,0,0,1,4,8]
def qX:List Nat := [0,1,2]
def qY:List Nat := [1,2,15,16,17]
def uF:List Nat := [1,5,8,9,10]
def ug:List Nat := [0,2]
def vW:List Nat := [0,0,5,9,3,3,2,3,1,0]
def xM:List Nat := [2,3]
def xN:List Nat := [0,2,0]
def yG:List Nat := [0,0,0,0,0,0,4,5]
def zD:List Nat := [0,1,7,8]
def D7:List Nat := [0,1,12,13]
def D8:List Nat := [1,8,9]
def Ei:List Nat := [5,0,0,0]
def Gt:List Nat := [0,1,5]
def Gu:List Nat := [0,1,2,3]
def Gv:List Nat := [0,0,0,0,4]
def JG:List Nat := [0,2,3]
def MH:List Nat := [0,1,2,7,8,9,15,16,17]
def PY:List Nat := [0,1,4]
def PZ:List Nat := [0,1,5,7,8,9,10]
def UT:List Nat := [0,0,0,0,0,7,3,4,3]
def UU:List Nat := [1,0,0,1,4,8]
def UV:List Nat := [0,1,2,6,7]
def Yr:List Nat := [0,0,0,0,2,3,1]
def Yt:List Nat := [0,1,5,7,8]
def Yu:List Nat := [0,1,4,5]
def Yv:List Nat := [1,5,6,56]
def J_:List Nat := [1,3,25,26,27]
def a8F:List Nat := [1,3,116,117,118]
def a8G:List Nat := [2,3,27,28,29]
def a8H:List Nat := [0,1,5,12,13]
def Zu:List Nat := [1,3,23,24,25]
def a8J:List Nat := [1,3,6,95,96,97]
def a8K:List Nat := [0,1,5,6,8,9]
def a8L:List Nat := [2,3,4,5,30,31,32]
def a8M:List Nat := [0,2,3,8,9,10]
def aG6:List Nat := [1,2,3,22,23,24]
def aG7:List Nat := [1,2,3,6,46,47,48]
def aG8:List Nat := [1,2,3,6,8,9,46,47,48,70,71]
def aG9:List Nat := [1,2,3,6,111,112,113]
def aGA:List Nat := [1,2,3,6,12,13,111,112,113,130,131]
def aGB:List Nat := [2,3,6,168,169,170]
def aGC:List Nat := [0,1,5,39,40,41]
def aGD:List Nat := [1,8,63,64,65]
def aGE:List Nat := [1,3,5,25,26,27,42,43,44]
def aGF:List Nat := [1,3,72,73,74]
def aGG:List Nat := [1,3,88,89,90]
def aGH:List Nat := [1,3,116,117,118,128,129,130]
def aGI:List Nat := [3,153,154,155]
def aGJ:List Nat := [3,18,153,154,155,165,166,167]
def aGK:List Nat := [6,7,8,9,10,23,24,25]
def aGL:List Nat := [3,4,5,6,7,43,44]
def aGM:List Nat := [3,4,5,6,7,54,55]
def aGN:List Nat := [3,4,5,6,7,72,73,74]
def aGO:List Nat := [3,4,5,6,7,11,12,13,72,73,74,126,127]
def aGP:List Nat := [2,3,5,27,28,29,44,45]
def aGQ:List Nat := [2,3,72,73,74]
def aGR:List Nat := [2,3,10,86,87,91,92,93]
def aGS:List Nat := [2,3,123,124,125]
def aGT:List Nat := [2,148,149,150]
def aGU:List Nat := [0,4,14,15,16]
def aGV:List Nat := [1,4,49,50,51]
def aGW:List Nat := [1,3,6,56,57,58]
def aGX:List Nat := [1,3,6,95,96,97,136,137,138]
def aGY:List Nat := [2,3,4,5,60,61,62]
def aGZ:List Nat := [2,3,5,97,98,99]
def aG':List Nat := [1,2,3,87,88,89]
def aH0:List Nat := [0,2,10,11,12]
def aH1:List Nat := [1,2,13,14,15,56]
def aH2:List Nat := [1,5,56,234,235]
def aH3:List Nat := [1,2,3,18,19,20]
def aH4:List Nat := [1,2,10,11,12]
def aH5:List Nat := [0,2,12,13,14]
def aH6:List Nat := [1,4,26,27,28,32,33,34]
def aH7:List Nat := [1,8,59,60,61]
def aH8:List Nat := [1,8,11,101,102,103]
def aH9:List Nat := [1,8,11,117,118,119]
def aHA:List Nat := [1,8,11,17,117,118,119,166,167,168]
def aHB:List Nat := [3,14,15,16,37,38,39]
def aHC:List Nat := [1,3,15,16,17]
def aHD:List Nat := [1,3,15,16,17,38,39,40]
def aHE:List Nat := [3,10,57,58,59]
def aHF:List Nat := [3,10,57,58,59,80,81,82]
def aHG:List Nat := [3,5,59,60,61]
def aG2 (g:FuncId):yR:=lkT g d0 [([3],(iJ [0,1,2,3,4,5] [] [] [(0,UT)] [(4,[3,4,5])] [] [(3,UT)] [3,4,5] [] [] [] [15,18,20])),([4],(jF [1,2,3,4,5,6,7,10,11,12] [] [] [] [] [] [(1,kL),(7,dY)])),([5],(oD iT [] [] [(0,UT)] [(4,[1])] [] [(1,UT)] [1])),([6],(jF [0,3,4,5,6,7,8,9,10,11,12,13,14] [] [] [] [(7,[7,8,9,10,11,12,13,14]),(9,[7,11,12,13,14])] [] [(3,kL),(7,kL)])),([7],(iJ [0,1,3,5,6,7] [] [] [(5,[1])] [(7,[0,3,5,6,7])] [] [] [3] [] [] [] [36,42])),([8],(oD [0,1,3,7] [] [] [(0,kL),(3,[5])] [] [] [(1,kL)] [1])),([9],(iJ [0,1,2,3,4,5,6,7,8,9,10,11,12,13,14,15,16,22,23,24,46,47,48,70,71,111,112,113,130,131,168,169,170] [32,75,93,99,104,135,161,178] [] [(0,UT),(6,[1]),(22,[7]),(46,[3]),(111,[4]),(168,[3])] [(5,aG6),(7,[1,2,3,4,5,22,23,24]),(8,aG6),(9,[1,2,3]),(12,aG7),(14,[1,2,3,6,7,8,46,47,48]),(17,aG8),(19,aG8),(20,[1,2,3,6,8,9,46,47,48]),(23,[1,2,3,6,9,46,47,48]),(24,aG7),(25,[1,2,3,6]),(27,aG9),(29,[1,2,3,6,11,12,111,112,113]),(32,aGA),(34,aGA),(35,[1,2,3,6,13,111,112,113]),(36,aG9),(37,[1,2,3,6]),(39,aGB),(41,[2,3,6,15,16,168,169,170]),(42,aGB),(43,xM)] [(4,aG6),(11,aG7),(16,aG8),(26,aG9),(31,aGA),(38,aGB)] [(1,UT),(2,kL),(3,kL),(5,Yr),(9,jm),(13,ug)] [1] [(kL,true)] [] [139,149] [146,186,196])),([10],(iJ [0,2,3,4,5,6] [] [] [] [(7,[2,6]),(8,[2,6]),(10,[2,6]),(13,[2])] [(6,[2,6])] [(2,kL),(6,jm)] [] [(kL,true),([],true),([],true),([],true)] [] [8,48] [8])),([11],(oD [0,1,4,5,6,7] [] [] [(0,kL)] [(5,[1]),(10,[6]),(12,[6])] [] [(1,kL),(5,[5])] [1])),([12],(iJ [0,1,4,5,6,7,8] [] [] [(0,[1])] [(8,[4])] [] [(4,dY)] [] [(dY,true),([],true),([],true),([],true)] [] [10] [10])),([13],(oD [0,1,3,7,8] [] [] [(0,[1]),(1,dY)] [(4,[0,3]),(7,[0,3])] [] [(3,dY),(8,[5])] [3])),([14,79,89,91,96,98,114,117,119,121,124,127,130,131,132,135,138,139,212,221,235,238,270],(pZ1 iT)),([15],(UN iT [] [] [(0,[7])])),([16],(oD iT [] [] [(0,Yr)] [] [] [(1,Yr)] [1])),([17],(iJ [0,2,6,7,8,9] [] [] [] [(7,[2,6]),(8,[2,6]),(10,[2,6]),(13,[2,6])] [(6,[2,6])] [(2,kL),(6,vW)] [] [(kL,true),([],true),([],true),([],true)] [] [11,59] [11])),([18],(jF [0,2,3,4,5,6] [] [] [] [(5,[6]),(8,[2])] [] [(6,kL)])),([19],(oD [0,1,2,3,5,6,7] [] [] [(0,kL),(1,kL)] [] [] [(2,kL),(3,kL)] xM)),([20],(ng [0,2,3,4,5] [22] [] [] [(4,[0]),(10,[2,3,4,5])] [] [(2,[5])] [] [([5],false),([],true),([],true),([],true)])),([21],(jF [0,1,5,7,8,10,12,39,40,41,63,64,65] [] [] [(0,[1]),(39,[1]),(63,[1])] [(7,iT),(11,Gt),(12,Gt),(14,aGC),(17,[0,1,5,7,39,40,41]),(18,aGC),(19,Gt),(24,aGD),(27,aGD),(28,[8])] [(13,aGC),(23,aGD)] [(8,iT)])),([22],(iJ [0,1,3,5,6,7,9,10,11,12,14,15,16,18,19,20,25,26,27,42,43,44,72,73,74,88,89,90,116,117,118,128,129,130,153,154,155,165,166,167] [31,50,61,67,78,100,122,135,148,159,172,189] [] [(0,kL),(3,[1]),(25,[5]),(42,[1]),(72,[9]),(88,[3]),(116,[2]),(128,[2]),(153,[3]),(165,[2])] [(5,J_),(9,aGE),(12,aGE),(13,[1,3,5,25,26,27]),(15,J_),(16,J_),(17,[1,3]),(19,aGF),(21,aGF),(22,[1,3]),(24,aGG),(28,[1,3,11,12,88,89,90]),(29,aGG),(30,[1,3]),(32,a8F),(36,aGH),(38,aGH),(39,a8F),(40,a8F),(41,[1,3]),(43,aGI),(47,aGJ),(49,aGJ),(50,[3,18,153,154,155]),(51,aGI),(52,[3])] [(4,J_),(8,aGE),(18,aGF),(23,aGG),(31,a8F),(35,aGH),(42,aGI),(46,aGJ)] [(1,kL),(9,lU),(11,jm),(14,ug),(18,xN)] [1] [([1],false)] [] [] [84,87,140,177])),([23],(jF [0,5,6,7,8,9,10,12,23,24,25,67] [] [6] [(0,[5]),(23,[5])] [(5,[0]),(11,aGK),(15,[6,7,8,9,10,12,23,24,25]),(19,[6,7,8,10,12,23,24,25]),(28,aGK),(29,[6,10])] [(10,aGK)] [(6,iT)])),([24],(iJ [0,1,3,4,5] [50] [] [(3,[5])] [(6,[1,3,4]),(10,[1,3,4,5]),(5,[1,3,4]),(11,[3])] [(4,[1,3,4])] [] [1] [([5],false)] [] [] [34,39,44])),([25],(iJ [0,1,3,4,5,6,7,8,9,10,11,12,13,14,43,44,54,55,72,73,74,126,127] [48,65,138,157] [] [(1,Yr),(12,[1]),(72,[3])] [(7,aGL),(9,aGL),(10,[3,4,5,6,7]),(12,aGM),(15,aGM),(16,[3,4,5,6,7]),(18,aGN),(20,[3,4,5,6,7,10,11,72,73,74]),(24,[3,4,5,6,7,11,12,13,72,73,74]),(26,aGO),(29,aGO),(30,[3,4,5,6,7,13,72,73,74]),(31,aGN),(32,[4,5,7])] [(6,aGL),(11,aGM),(17,aGN),(25,aGO)] [(3,Yr),(4,lU),(5,lU),(7,UU),(13,yG)] [3] [(lU,true)] [] [] [17,22,33,38,97,102,105,109,1000001,1000003])),([26],(UN [0,3,4,5,6] [] [] [(3,[5])])),([27],(jF iT [] [] [] [] [] [(0,Ei)])),([28],(jF [0] [] [] [] [(5,[0])] [] [(0,Ei)])),([29],(jF [0,5] [] [] [] [] [] [(0,jm)])),([30],(jF ug [] [] [] [(6,ug)] [] [(0,Ei)])),([31],(iJ [0,1,2,3,4,5,6,7] [] [6000008] [] [] [] [(0,jm),(1,kL)] [] [] [] [56] [8,11,14,18,21,25,28,32,35,39,42,1000001,1000004])),([32],(iJ PY [] [] [] [(2,iT)] [] [(0,Ei)] [] [] [] [] [24,26,1000001])),([33],(iJ [0,1,3,4,5,6,7] [] [] [(0,kL)] [] [] [(1,kL),(3,[3]),(4,[1]),(5,[1]),(6,[1]),(7,[1])] [1] [] [(7,[9000003,9000004,9000005,9000006,9000007])] [] [9,12])),([34],(jF [0] [] [] [] [(6,[0])] [] [(0,Ei)])),([35],(Lt [0,1,2,3,5,6,7,9,10,11,13,15,17,27,28,29,44,45,72,73,74,86,87,91,92,93,123,124,125,148,149,150] [] [] [(1,kL),(11,[3]),(27,[5]),(72,[9]),(86,[3,3]),(91,[3]),(123,[2]),(148,[3])] [(6,a8G),(10,aGP),(13,aGP),(14,[2,3,5,27,28,29]),(17,a8G),(18,a8G),(19,xM),(21,aGQ),(23,aGQ),(24,xM),(26,[2,3,86,87]),(29,aGR),(35,aGR),(36,[2,3,86,87]),(37,xM),(39,aGS),(44,aGS),(45,xM),(47,aGT),(54,aGT)] [(5,a8G),(9,aGP),(20,aGQ),(25,[2,3,86,87]),(28,aGR),(38,aGS),(46,aGT)] [(0,[5]),(3,kL),(9,lU),(13,jm),(15,ug),(17,xN)] [3] [] [] [48,53,55,90,100,104])),([36],(ng [0] [] [] [(0,[1])] [(4,[0])] [] [] [] [([1],true)])),([37],(iJ [0,2,3,4] [] [] [] [(5,JG)] [] [(0,jm),(2,dY),(3,dY),(4,dY)] [] [(dY,true)] [] [24] [21,22,1000003,1000004])),([38],(jF [0] [] [] [] [] [] [(0,Ei)])),([39,179,207,237],(UN iT [] [] [(0,[1])])),([40,42,74,109,111,113,208,210,213,214,216,218,225,227,295],(pZ1 [0])),([41],(yF [0,3,4,5,7,8] [] [] [] [(4,[0,7,8]),(9,[0,7,8]),(10,[0])] [(3,[0,7,8])])),([43],(oD [0,1,2,4,6,7] [] [] [(0,dY)] [(4,[1,2]),(8,[2]),(11,[4])] [] [(2,dY)] [2])),([44],⟨[0,1,2,3,4,5,6,8,9,10],[],[],[(1,[1]),(2,dY)],[(6,[4,5,6,8]),(11,[4,5,6,8,9,10])],[],[(0,[5]),(5,[1]),(6,dY)],[5,6],[],[],[25,70],[38,45,64,66,68],true⟩),([45],(yF [0,4,6,7,8,11,14,15,16] [20] [] [(0,[5]),(4,[1]),(8,[5]),(14,[5])] [(6,aGU),(8,aGU),(9,[0,4]),(13,[7])] [(5,aGU)])),([47],(yF Yt [] [] [(0,[7])] [(4,zD),(7,zD),(8,[])] [(3,zD)])),([48],(jF [0,5] [] [] [] [] [] [(0,vW)])),([49],(iJ qX [54,82] [] [] [] [] [(0,vW)] [] [] [] [56,84] [49,50,55,77,78,83,1000002])),([50],(oD [0,1,3,4,6,7,8,9,49,50,51] [62] [] [(0,kL),(4,[1]),(49,[9])] [(4,[1]),(7,[1]),(9,[1]),(12,aGV),(16,[1,4,6,49,50,51]),(20,aGV),(21,[1]),(24,[1])] [(11,aGV)] [(1,kL),(6,lU)] [1])),([51],(oD Gu [] [] [(0,yG),(1,yG)] [] [] [(2,yG),(3,yG)] xM)),([52],(oD Gu [] [] [(0,dY),(1,dY)] [] [] [(2,dY),(3,dY)] xM)),([53],(jF MH [] [] [(0,[5]),(1,[5]),(15,[5])] [(4,qX),(6,qY),(10,qY),(11,[])] [(5,qY)] [(8,Gv),(9,Gv)])),([54],(oD Gu [] [] [(0,Gv),(1,Gv)] [] [] [(2,Gv),(3,Gv)] xM)),([55],(iJ [0,1,2,3,4,6,7] [] [] [(0,lU),(1,lU)] [] [] [(3,lU),(4,lU),(6,UU),(7,UU)] [3,4] [] [] [] [9,11])),([56,57],(iJ a8H [] [] [(0,[1]),(1,[1])] [(4,iT),(6,D7),(9,D7),(10,[])] [(5,D7)] [] [] [] [] [] [19,23])),([58],(iJ a8H [] [] [(0,[4]),(1,[4])] [(4,iT),(6,D7),(9,D7),(10,[])] [(5,D7)] [] [] [] [] [] [19,23])),([59],(jF MH [] [] [(0,[8]),(1,[8]),(15,[8])] [(4,qX),(6,qY),(10,qY),(11,[])] [(5,qY)] [(8,yG),(9,yG)])),([60],(oD Gu [] [] [(0,jm),(1,jm)] [] [] [(2,jm),(3,jm)] xM)),([61],(iJ a8H [] [] [(0,[5]),(1,[5])] [(4,iT),(6,D7),(9,D7),(10,[])] [(5,D7)] [] [] [] [] [] [19,23])),([62],(jF MH [] [] [(0,[9]),(1,[9]),(15,[9])] [(4,qX),(6,qY),(10,qY),(11,[])] [(5,qY)] [(8,lU),(9,lU)])),([63],(jF MH [] [] [(0,[3]),(1,[3]),(15,[3])] [(4,qX),(6,qY),(10,qY),(11,[])] [(5,qY)] [(8,jm),(9,jm)])),([64],(jF MH [] [] [(0,[2]),(1,[2]),(15,[2])] [(4,qX),(6,qY),(10,qY),(11,[])] [(5,qY)] [(8,ug),(9,ug)])),([65],(oD Gu [] [] [(0,ug),(1,ug)] [] [] [(2,ug),(3,ug)] xM)),([66,69],(iJ a8H [] [] [(0,[2]),(1,[2])] [(4,iT),(6,D7),(9,D7),(10,[])] [(5,D7)] [] [] [] [] [] [19,23])),([67],(jF MH [] [] [(0,[3]),(1,[3]),(15,[3])] [(4,qX),(6,qY),(10,qY),(11,[])] [(5,qY)] [(8,xN),(9,xN)])),([68],(oD Gu [] [] [(0,xN),(1,xN)] [] [] [(2,xN),(3,xN)] xM)),([72],(jF iT [12] [] [] [] [] [(0,iT)])),([73,176],(jF [0] [] [] [] [] [] [(0,iT)])),([75],(iJ [0,1,3,4,5,6,8,10,11,12,23,24,25,56,57,58,95,96,97,136,137,138] [30,39,47,50,62,67,76,83,101,127,143,156,163,167] [] [(0,lU),(3,[1]),(6,[1]),(23,[1]),(56,[4]),(95,[8]),(136,[5])] [(5,Zu),(9,[1,3,4,23,24,25]),(11,Zu),(12,Zu),(13,[1,3]),(16,aGW),(21,aGW),(22,[1,3,6]),(24,a8J),(28,[1,3,6,10,95,96,97]),(30,aGX),(33,aGX),(34,a8J),(35,a8J),(36,[3])] [(4,Zu),(15,aGW),(23,a8J),(29,aGX)] [(1,lU),(10,yG),(12,Gv)] [1] [([1],false)] [] [] [14,17,103,107,109,113,115,119,148,153])),([76],(ng [0] [] [] [(0,[3])] [(4,[0])] [] [] [] [([3],true)])),([77],(ng [0,3,4,5,6,7,8] [15,18] [] [(0,[1]),(3,[1]),(6,[1])] [(5,[3,6,7,8]),(8,[3,5,6,7,8]),(9,[3,6,7,8]),(10,[3])] [(4,[3,6,7,8])] [] [] [([1],false)])),([78],(ng [0] [] [] [] [(4,[0])] [] [] [] [([1],true)])),([80],(jF iT [11] [] [] [] [] [(0,iT)])),([81],(Lt [0] [] [4] [(0,[5])] [] [] [] [] [([5],false)] [(0,[1000002])] [5])),([82],(jF [0,1,5,6,7,8,9,10,11,42] [] [] [] [(7,iT),(9,iT),(12,[0,6]),(15,[0,7]),(31,[0,7]),(36,[0,7,8]),(40,[7,8,9]),(42,[9])] [(39,[7,8,9])] [(9,iT)])),([83],(ng [0,1,5,6,7,8] [11] [] [(5,[1])] [(5,[0,5,7,8]),(7,[0,5,7,8]),(8,[5])] [(4,[0,5,7,8])] [] [] [([1],false)])),([84],(iJ [0,3,4,5,6] [32] [] [(0,[2]),(3,[4])] [(6,[0,3,4]),(5,[0,3,4]),(9,[3])] [(4,[0,3,4])] [] [] [([4],false)] [] [] [48])),([85,155],(ng [0] [] [] [] [] [] [(0,dY)] [] [(dY,true)])),([86],(ng UV [] [] [(0,[1])] [] [] [(6,dY)] [] [(dY,true)])),([87],(jF Gt [] [] [] [(5,[5])] [] [(0,Ei)])),([88],(jF JG [] [] [] [(5,xM)] [] [(0,Ei)])),([90],(iJ Yu [49] [] [(5,[1])] [(6,PY)] [] [(0,jm),(1,kL)] [] [] [] [] [19,22,25])),([92],(iJ [0,1,2,4,5] [81] [] [] [(8,[1,2,4,5]),(14,[1,2,4])] [(6,[1,2,4,5])] [(0,jm),(1,kL),(4,lU)] [] [] [] [12] [4,6,10,1000001,1000003])),([93,95],(Lt iT [] [] [] [] [] [] [] [] [] [7])),([94],(iJ [0,1,2,3,6] [43] [] [] [] [] [(0,jm),(1,kL),(2,[3]),(6,jm)] [] [] [] [19] [6,7,11,16,1000001,1000003])),([97],(iJ [0,1,2,4] [33] [] [] [] [] [(0,jm),(1,kL),(4,ug)] [] [] [] [11] [4,5,9,1000001,1000003])),([99],(jF [0,1,4,5,6] [45,67] [] [] [(6,PY),(5,PY),(10,PY)] [(4,Yu)] [(0,jm),(1,kL),(4,xN)])),([100],(ng PZ [14] [] [(0,[3]),(5,[1]),(8,[3])] [(5,uF),(7,uF),(8,[5])] [(4,uF)] [(7,jm)] [] [([1],false)])),([101,200],(oD iT [] [] [(0,jm)] [] [] [(1,jm)] [1])),([102],(ng PZ [14] [] [(0,[9]),(5,[1]),(8,[9])] [(5,uF),(7,uF),(8,[5])] [(4,uF)] [(7,lU)] [] [([1],false)])),([103,193],(oD iT [] [] [(0,lU)] [] [] [(1,lU)] [1])),([104],(ng PZ [14] [] [(0,[2]),(5,[1]),(8,[2])] [(5,uF),(7,uF),(8,[5])] [(4,uF)] [(7,ug)] [] [([1],false)])),([105,202],(oD iT [] [] [(0,ug)] [] [] [(1,ug)] [1])),([106],(ng PZ [14] [] [(0,[3]),(5,[1]),(8,[3])] [(5,uF),(7,uF),(8,[5])] [(4,uF)] [(7,xN)] [] [([1],false)])),([107,205],(oD iT [] [] [(0,xN)] [] [] [(1,xN)] [1])),([108],(Lt [0,4,5,6,7,8] [] [] [(0,[1]),(6,[1])] [(4,[6,7,8]),(8,[6,7,8]),(9,[])] [(3,[6,7,8])] [] [] [] [] [2000013])),([110],(UO iT [] [] [] [(4,[])])),([112],(yF [0,3,5,10,11,12] [] [9] [(0,[5]),(10,[5])] [(4,[0]),(7,[3,10,11,12]),(16,[3,5,10,11,12]),(17,[3,10,11,12]),(18,[])] [(6,[3,10,11,12])])),([115],(yF a8K [] [] [(0,[9])] [(4,D8),(8,D8),(9,[])] [(3,D8)])),([116,123,129,137],(oD Gu [] [] [] [] [] [] [3])),([118],(UO [0,3] [] [] [(0,[1])] [(5,[0,3])])),([120],(c2A [0,1,3] [] [] [(0,lU)] [] [] [(1,lU),(3,UU)] [1] [] [(3,[9000003])])),([122,136],(yF a8K [] [] [(0,[3])] [(4,D8),(8,D8),(9,[])] [(3,D8)])),([125],(iJ [0,1,3] [] [] [(3,[1])] [] [] [] [] [] [] [] [4,5,8,10,11,14])),([126],(UN [0] [] [] [(0,[1])])),([128],(yF a8K [] [] [(0,[2])] [(4,D8),(8,D8),(9,[])] [(3,D8)])),([133],(UN iT [] [] [(0,[2])])),([134,183,190,220,278],(oD iT [] [] [] [] [] [] [1])),([140],(oD [0,1,4,10,11,12] [] [] [(0,xN),(10,[2])] [(4,[1]),(6,[1,10,11,12]),(9,[1,4,10,11,12]),(11,[1,10,11,12]),(12,[1])] [(5,[1,10,11,12])] [(1,xN)] [1])),([141,142],(jF [0,1,5,6,7,8] [16] [] [(1,[1]),(6,[1])] [(3,[0,6,7,8]),(5,[0,6,7,8])] [(2,[0,6,7,8])] [(0,[5])])),([143],(jF iT [15] [] [] [(4,iT)] [] [(0,[5])])),([144],(iJ [0,1,2,3,4,5,6,7,9,11,30,31,32,60,61,62,97,98,99] [] [] [(1,lU),(30,[1]),(60,[4]),(97,[8])] [(9,a8L),(13,[2,3,4,5,6,30,31,32]),(15,a8L),(16,a8L),(17,[2,3,4,5]),(19,aGY),(28,aGY),(29,[2,3,4,5]),(31,aGZ),(36,[2,3,5,11,97,98,99]),(38,[2,3,5,11,97,98,99]),(40,aGZ),(41,[2])] [(8,a8L),(18,aGY),(30,aGZ)] [(0,[5]),(3,lU),(4,UU),(5,[1]),(11,yG)] [3] [] [] [123] [105,109,111,115,117,121])),([145],(oD Gu [] [] [(1,[1])] [] [] [(0,[5]),(3,[1])] [3])),([146],(jF [0,1,2,3,8,9,10] [] [] [] [(3,[0,2,3,9,10]),(6,a8M),(7,[0,2,3,9,10])] [(2,[0,2,3,9,10])] [(0,[5])])),([147],(iJ qX [] [] [] [] [] [] [] [] [] [18] [10,16])),([148],(iJ qX [] [] [] [] [] [] [] [] [] [11,23] [10,21])),([149],(iJ [0,1,4,5,6,7,8,9] [] [38] [(9,[4])] [(4,PY),(8,[0,1,4,5,6,7]),(12,[0,1,4,5,6,9])] [(5,Yu)] [(0,jm),(4,dY),(5,dY)] [] [(dY,true)] [(12,[1000009])] [37,41] [33,1000003])),([150,260,273,283],(yF Yt [] [] [(0,[1])] [(4,zD),(7,zD),(8,[])] [(3,zD)])),([151],(oD [0,1,2,3,4,9,10,12,13,87,88,89] [] [] [(0,dY),(87,[4])] [(4,[1,2,3,4]),(14,[1,2,3,4]),(16,aG'),(20,aG'),(21,[])] [(15,aG')] [(4,dY),(12,dY)] [4])),([152],(iJ [0,1,3,5,6,7,9,10,11,26] [19] [] [(0,dY),(9,[4])] [(5,[1,3,9,10,11]),(9,[1,3,6,9,10,11]),(10,[1,3,9,10,11]),(11,[1,3]),(36,[])] [(4,[1,3,9,10,11])] [(1,dY),(3,[1]),(5,dY)] [1] [] [] [] [54,59,62])),([153],(iJ iT [] [] [(0,dY)] [(6,[1])] [] [(1,dY)] [1] [] [] [24] [4,8])),([154],(iJ [0,1,2,3,4] [] [] [] [] [] [] [] [] [] [15] [8,10,13])),([156],(yF MH [] [] [(0,[5]),(1,[5]),(15,[5])] [(4,qX),(6,qY),(10,qY),(11,[])] [(5,qY)])),([157],(oD Gu [] [] [] [] [] [] xM)),([159],(UO qX [] [] [] [(4,qX)])),([160],(jF [0,2,4,5,10,11,12] [16,65] [] [(2,[1]),(10,[5])] [(4,aH0),(6,aH0),(7,ug),(13,[0,5])] [(3,aH0)] [(0,vW)])),([161],(jF Gt [] [] [] [] [] [(0,Ei)])),([162],(iJ [0,1,2,4,5,6,7,8,13,14,15,56,234,235] [19,82,119,196,205,219,240,252] [] [(2,[1]),(13,[9])] [(5,aH1),(7,aH1),(8,[1,2,56]),(12,[1,5,56]),(18,Yv),(23,[1,5,56]),(26,Yv),(28,Yv),(32,Yv),(44,[1,5,56]),(47,aH2),(49,aH2),(50,[1,5,56])] [(4,aH1),(16,Yv),(46,aH2)] [(0,vW),(4,lU),(5,lU),(56,vW)] [] [] [] [86,161,222] [7,83,85,156,157,220,221,1000002,1000003])),([163],(ng [0,1,2,3,5,6,18,19,20] [24] [] [(3,[1]),(18,[3])] [(5,aH3),(7,aH3),(8,[1,2,3]),(14,[1,2,6])] [(4,aH3)] [(0,vW),(2,jm),(5,jm),(6,jm)] [] [(jm,true)])),([164],(jF [0,1,2,4,5,10,11,12] [16,47] [] [(2,[1]),(10,[2])] [(5,aH4),(7,aH4),(8,[1,2])] [(4,aH4)] [(0,vW),(4,ug),(5,ug)])),([165],(jF [0,2,4,5,6,7,12,13,14] [18,59,82] [] [(2,[1]),(12,[3])] [(4,aH5),(6,aH5),(7,ug),(12,[0,5]),(11,[0,5]),(16,[0,5])] [(3,aH5),(10,[0,5,6])] [(0,vW),(4,xN),(5,xN)])),([166],(UO iT [] [] [(0,[1])] [(4,iT),(6,[])])),([167],(iJ [0,1,4,5,6,7,8,9,10,11,12,13,15,17,18,19,20,21,26,27,28,32,33,34,59,60,61,101,102,103,117,118,119,166,167,168] [] [] [(0,lU),(4,[1]),(26,[1]),(32,[1]),(59,[1]),(101,[4]),(117,[8]),(166,[5])] [(4,[1,26,27,28]),(7,aH6),(11,aH6),(12,[1,26,27,28]),(13,[1]),(16,[1,8]),(18,aH7),(21,aH7),(22,[1,8]),(25,[1,8,11]),(27,[1,8,11]),(30,[1,8,11]),(33,[1,8,11]),(35,aH8),(38,aH8),(39,[1,8,11]),(41,aH9),(44,[1,8,11,17,117,118,119]),(47,[1,8,11,17,117,118,119]),(49,aHA),(52,[1,8,11,17,19,20,117,118,119,166,167,168]),(54,[1,8,11,17,20,117,118,119,166,167,168]),(57,aHA),(58,aH9),(59,[])] [(3,[1,26,27,28]),(6,aH6),(17,aH7),(34,aH8),(40,aH9),(48,aHA)] [(1,lU),(8,UU),(17,yG),(20,Gv)] [1] [] [] [] [195])),([168],(iJ [0,1,3,5,6,8,14,15,16,37,38,39] [27] [] [(0,kL),(3,[1]),(14,[3]),(37,[1])] [(5,[3,14,15,16]),(9,[3,5,14,15,16]),(12,aHB),(15,aHB),(16,[3,14,15,16]),(17,[])] [(4,[3,14,15,16]),(11,aHB)] [(1,kL),(5,jm)] [1] [] [] [] [10,13])),([169],(oD [0,1,3,5,6,8,10,11,13,15,16,17,38,39,40,57,58,59,80,81,82] [28,70] [] [(0,kL),(3,[1]),(15,[2]),(38,[2]),(57,[3]),(80,[2])] [(5,aHC),(9,[1,3,5,15,16,17]),(12,[1,3,5,15,16,17]),(14,aHD),(17,aHD),(18,aHC),(19,[1]),(22,[3,57,58,59]),(26,aHE),(29,aHE),(31,aHF),(34,[3,10,13,57,58,59,80,81,82]),(36,aHF),(37,aHE),(39,[3,57,58,59]),(40,[])] [(4,aHC),(13,aHD),(21,[3,57,58,59]),(30,aHF)] [(1,kL),(5,ug),(10,xN)] [1])),([170],(jF MH [] [] [(0,[4]),(1,[4]),(15,[4])] [(4,qX),(6,qY),(10,qY),(11,[])] [(5,qY)] [(8,dY),(9,dY)])),([180],(iJ [0,1,2,4,7,8,9,32] [95,105] [] [(0,[1]),(1,dY),(9,[1])] [(4,[0,4]),(6,[0,4]),(8,[0,4]),(20,[0,4]),(30,[0,4,7])] [] [(4,dY),(8,dY)] [4] [([1],true)] [] [] [21,25,120,122,125,131,133,138,140,144,150,152])),([181],(iJ [0,1,5,6,7] [] [] [(0,[5])] [(5,Gt),(8,[0,1,5,6]),(7,[0,1,5,6]),(12,[0,5])] [(6,[0,1,5,6])] [] [] [([5],false)] [] [24,33] [10])),([182],(ng [0] [] [] [(0,[5])] [(4,[0])] [] [] [] [([5],true)])),([187],(ng [0,1,2,6,7,56] [] [] [] [(8,[6,7]),(9,UV),(14,UV),(15,UV),(17,UV),(23,UV)] [] [(0,[1,0,0]),(6,dY)] [] [(dY,true)])),([188],(jF Gt [] [] [(1,[1])] [(5,[0])] [] [(0,jm)])),([189],(ng PZ [14] [] [(0,[5]),(5,[1]),(8,[5])] [(5,uF),(7,uF),(8,[5])] [(4,uF)] [] [] [([1],false)])),([191],(ng qX [] [] [(1,[1])] [] [] [(0,jm)] [] [([1],false)])),([192],(jF [0,1,2,7,8,9,10] [] [] [] [(7,[0,1,2,7]),(11,[0,1,2,7,9]),(15,[0,10])] [] [(0,Ei)])),([194],(jF iT [] [] [] [(4,[0])] [] [(0,jm)])),([195,244],(iJ iT [3] [] [] [] [] [] [] [] [] [7] [4,6,1000000,1000001])),([196],(iJ [0,1,2,6] [11,65] [] [] [(5,[0,1,2,6]),(7,[0,1,6]),(9,[0])] [] [(0,jm),(1,lU)] [] [] [] [17] [16,1000001])),([197],(jF Yu [67] [] [] [(4,iT)] [] [(0,jm),(1,lU)])),([198],(iJ [0,1,2,4] [66] [] [] [(7,[1,2,4]),(9,[1,2,4])] [] [(0,jm),(1,lU),(4,yG)] [] [] [] [12,18,24] [7,11,13,17,19,23,1000001,1000003])),([199],(ng [0,3,4,5,6] [9] [] [(3,[1])] [(5,[3,5,6]),(7,[3,5,6]),(8,[3])] [(4,[3,5,6])] [] [] [([1],false)])),([201,247],(iJ iT [3] [] [] [] [] [] [] [] [] [8] [4,7,1000001,1000002])),([203],(jF iT [] [] [] [(2,iT),(4,iT)] [(3,iT)] [(0,Ei)])),([204],(pZ2 qX [16])),([206],(jF [0] [] [] [] [] [] [(0,jm)])),([209],(yF [0,3,4,5,6,7] [] [] [(0,[1]),(5,[1])] [(4,[0,5,6,7]),(7,[0,3,4,5,6,7]),(9,[0,5,6,7]),(10,[])] [(3,[0,5,6,7])])),([211],(iJ iT [] [] [] [] [] [] [] [] [] [] [4,6])),([215],(yF [0,1,5,6,7,8,9] [] [] [(0,[1]),(7,[1])] [(4,[0,1,7,8,9]),(7,[0,1,5,6,7,8,9]),(9,[0,1,7,8,9]),(10,[])] [(3,[0,1,7,8,9])])),([217],(yF [0,3,4,8,9,10] [] [] [(0,[4]),(8,[4])] [(4,[0]),(6,[0,8,9,10]),(17,[0,8,9,10]),(18,[])] [(5,[0,8,9,10])])),([219],(UN iT [] [] [(0,[4])])),([222],(yF a8K [] [] [(0,[8])] [(4,D8),(8,D8),(9,[])] [(3,D8)])),([223],(iJ qX [] [] [] [] [] [] [] [] [] [] [5,7,10])),([224],(iJ [0,1,2,3,5,6,7,8,9,59,60,61] [] [] [(0,lU),(1,yG),(59,[5])] [(5,[3,5]),(8,[3,5]),(10,aHG),(13,[3,5,7,8,59,60,61]),(15,[3,5,8,59,60,61]),(18,aHG),(19,[])] [(9,aHG)] [(2,lU),(3,yG),(8,Gv)] xM [] [] [] [81,86])),([226],(yF Yt [] [] [(0,[2])] [(4,zD),(7,zD),(8,[])] [(3,zD)])),([228],(ng [0] [] [] [(0,[4])] [] [] [] [] [([1],true)])),([229],(iJ Gu [] [] [] [] [] [] [] [] [] [16,28] [12,14,27])),([230],(iJ qX [] [] [] [] [] [] [] [] [] [10] [5,8])),([231],(Lt qX [] [] [] [(14,[1,2])] [] [(0,jm),(2,dY)] [] [(dY,true)] [] [72])),([232],(jF [0,1,7,8,9,10] [] [] [] [(5,[1,7])] [] [(0,jm)])),([233],(Lt JG [] [] [(0,[4])] [(4,JG),(3,JG)] [(2,JG)] [] [] [] [] [20,24,26,27])),([234],(UO [0,4] [] [] [] [(21,[])])),([236,274],(oD qX [] [] [] [] [] [] [2])),([243],(jF Gt [] [] [(1,[1])] [(5,[0])] [] [(0,vW)])),([245],(jF [0] [] [] [] [] [] [(0,vW)])),([246],(ng [0,1,2,3,4,5] [] [] [(1,lU)] [(8,[2,4,5]),(10,[2,4,5])] [] [(0,vW),(3,lU),(4,yG),(5,yG)] [3] [(yG,true)])),([248],(iJ qX [9] [] [] [] [] [] [] [] [] [15] [11,14,1000000,1000002])),([249],(oD [0,1,2,3,7,8] [] [] [(0,dY)] [(5,[8])] [] [(3,dY)] [3])),([261],(iJ [0,1,12] [] [] [(0,dY)] [(4,[1]),(27,[])] [] [(1,dY)] [1] [] [] [] [3,7])),([262],(UO [0,3] [] [] [] [(19,[])])),([263],(yF Yt [] [] [(0,[5])] [(4,zD),(7,zD),(8,[])] [(3,zD)])),([267],(jF [0,3] [] [] [] [(4,[0])] [] [(0,[1,0,0])])),([268],(ng JG [] [] [] [(5,xM)] [] [(2,dY)] [] [(dY,true)])),([269],(ng PZ [14] [] [(0,[1]),(5,[1]),(8,[1])] [(5,uF),(7,uF),(8,[5])] [(4,uF)] [] [] [([1],false)])),([271],(jF Gt [] [] [(1,[1])] [(5,[0,5])] [] [(0,jm)])),([272,288],(iJ qX [19] [] [] [] [] [(2,Gv)] [] [] [] [8] [2,3,4,1000000])),([275],(yF Yt [] [] [(0,[4])] [(4,zD),(7,zD),(8,[])] [(3,zD)])),([276],(oD [0,1,2,3,7,8] [] [] [(0,dY)] [(5,[2,7])] [] [(3,dY)] [3])),([277],(ng PZ [14,21] [] [(0,[4]),(5,[1]),(8,[4])] [(5,uF),(7,uF),(8,[5])] [(4,uF)] [] [] [([1],true)])),([279],⟨[0,1,2,4],[],[],[],[(5,[1,2,4])],[],[(0,jm),(4,dY)],[],[(dY,true)],[],[],[],true⟩),([280,297,308],(ng iT [] [] [] [] [] [(1,dY)] [] [(dY,true)])),([281],(ng iT [] [] [] [(4,iT)] [] [(1,dY)] [] [(dY,true)])),([282,312],(ng qX [] [] [] [] [] [(1,dY),(2,dY)] [] [(dY,true)])),([286],(jF Gt [] [] [(1,[1])] [(5,iT)] [] [(0,vW)])),([287],(iJ [0,1,2,3,4] [] [] [] [(5,[1,2,3])] [] [(0,vW),(2,dY),(3,dY),(4,dY)] [] [(dY,true)] [] [26] [23,24,1000004,1000005])),([296],(iJ [0,1,2,3,6,7,8] [] [] [(1,[1])] [(4,[1,2,3,6,7]),(6,[1,2,3,6,7,8]),(8,[6,7])] [(3,[1,2,3,6,7])] [(0,vW),(6,dY),(7,dY)] [] [(dY,true)] [] [30] [27])),([298],(iJ [0,2,3,5,8,9,10] [] [] [(8,[1])] [(5,a8M),(8,a8M),(9,JG),(11,JG),(13,xM)] [(4,a8M)] [(0,vW),(2,dY),(3,dY)] [] [(dY,true)] [] [20,24,34,44] [22,35,45,1000003])),([304],(Lt iT [] [] [] [] [] [] [] [] [] [10])),([305],(ng qX [] [] [] [] [] [(0,vW),(2,dY)] [] [(dY,true)])),([309],(Lt [0,1,2,3,4,5] [] [] [] [(10,[2,5]),(22,[1,2])] [] [(0,vW),(2,dY),(5,dY)] [] [(dY,true)] [] [96])),([310],(ng Yu [] [] [] [(5,PY)] [] [(0,vW),(4,dY),(5,dY)] [] [(dY,true)])),([311],(ng qX [] [] [] [] [] [(2,dY)] [] [(dY,true)]))]
noncomputable def SS:SE:=⟨Tryz.prog,aG2,VVt vvT,WWt wwT,CS⟩
def fG:SS.OK:=⟨b5B _,b5G _⟩
abbrev cG (r:RS) (g:FuncId) (a:ai) (K:RS.F r R):R:=kE SS.CC g a fun p=>UZ r p K
abbrev cH (r:RS) (o:List OS) (g:FuncId) (a:ai) (h:aH) (K:RS.F r (cZ o)):R:=Bo SS.CC g a h fun p h=>hv r o p h K
variable {D:R}
def cc {g:FuncId} {a:ai} {h:aH} (b:SS.C0 g a h=none:=by rfl) (e:SS.run SS.CC SS.LL g a h=D:=by kernel_rfl):SS.CC g a h=D:=CCk fG b e
def ll {E:AE} {a:Nat} {l:List Nat} {m:Nat} {x:Code} {K:KT} {b:ASt} (d:a<=m:=by decide) (f:GL l m b=true:=by kernel_rfl) (g:SS.wp E=E:=by kernel_rfl) (e:bJ (JB l m b) (bD (SS.xe SS.CC SS.LL E a) x (yM (fun c=>SS.LL E a l m x K (c.gc l m)) K) (b.gc l m))=D:=by kernel_rfl):SS.LL E a l m x K b=D:=LLk fG d f g e
abbrev G0:=cG (.t [(false,[.S]),(false,[.I .i64])])
abbrev G1:=cG (.ti .i64)
abbrev G2:=cG (.ts)
abbrev G3:=cG (.tb)
abbrev G4:=cG (.tl false 1)
abbrev G6:=cG (.t [(false,[.I .i64]),(false,[.I .i64])])
abbrev G7:=cG (.tl true 1)
abbrev G8:=cG (.g S0)
abbrev G9:=cG (.t [(true,S0),(false,[.I .i64]),(false,[.I .i64]),(false,[.I .i64])])
abbrev G10:=cG (.t [(false,[.S]),(false,[.I .i64]),(false,[.I .i64]),(false,[.I .i64])])
abbrev Ho:=cG (.tl true 3)
abbrev aj:=cH (.t []) [.c iW]
abbrev G13:=cG (.t [(false,[.L false 5]),(false,[.I .i64]),(false,[.I .i64]),(false,[.I .i64])])
abbrev H14:=cH (.z (.pt 0 0)) [.c aC]
abbrev bP:=cH (.t []) [.c aC]
abbrev Qo:=cH (.t [(false,[.I .i64]),(false,[.I .i64]),(false,[.I .i64])]) [.c aC]
abbrev H19:=cH (.ti .i64) [.c RH]
abbrev oM:=cG (.g S1)
abbrev G21:=cG (.g S5)
abbrev Qi:=cG (.tl false 5)
abbrev VU:=cH (.tb) [.c eY,.c aC]
abbrev fU:=cH (.g o7) [.c aC]
abbrev Jn:=cH (.t []) [.c dH,.c jT,.c aC]
abbrev lD:=cH (.ts) [.c aC]
abbrev H27:=cH (.tb) [.z S32]
abbrev H28:=cH (.t []) [.c iW,.z jU,.c lF]
abbrev H29:=cH (.t []) [.c iW,.z jU,.c jb]
abbrev Qp:=cH (.t []) [.c pz,.c RI]
abbrev H31:=cH (.ts) [.c Vo]
abbrev H32:=cH (.t [(false,[.I .i64]),(false,[.ni])]) [.c wu]
abbrev H33:=cH (.z (.ni)) [.c wu]
abbrev bW:=cH (.tb) [.c aC]
abbrev G37:=cG (.t [(false,[.I .i64]),(false,[.B])])
abbrev Ah:=cH (.tb) [.c xn]
abbrev gV:=cH (.t []) [.z jV,.c iW]
abbrev Di:=cH (.tb) [.c bF,.c aC]
abbrev Qq:=cH (.t []) [.c bF,.c aC]
abbrev Nh:=cG (.tl false 4)
abbrev Nr:=cH (.t []) [.z gW,.z iY,.c Bg,.c jT,.c aC]
abbrev H44:=cH (.tb) [.c S7]
abbrev H45:=cH (.t []) [.c iW,.z jU,.c xn,.c S9]
abbrev H46:=cH (.t []) [.c iW,.z jU]
abbrev H47:=cH (.t []) [.z gW,.c lF,.c iW]
abbrev H48:=cH (.t []) [.z gW,.c jb,.c iW]
abbrev G49:=cG (.tl true 5)
abbrev H50:=cH (.o (.H 0 0 5)) [.a]
abbrev H51:=cH (.t []) [.c wu]
abbrev H53:=cH (.t []) [.a]
abbrev Ns:=cH (.tb) [.z jV,.c kC,.c aC]
abbrev mO:=cH (.g S8) [.c uM,.c aC]
abbrev Hr:=cH (.g S8) [.c bF,.c aC]
abbrev H60:=cH (.g S8) [.c uN,.c aC]
abbrev rW:=cH (.g S1) [.c Am]
abbrev H63:=cH (.ti .i64) [.c S7]
abbrev H64:=cH (.t []) [.z iY,.c xn,.c S9,.c iW]
abbrev FI:=cH (.ti .i64) [.c aC]
abbrev FK:=cH (.ts) [.c bF,.c aC]
abbrev H70:=cH (.t []) [.c aC,.c dW,.z iY,.c jf]
abbrev H71:=cH (.g S9) [.c bF,.c aC]
abbrev Dl:=cH (.ti .i64) [.c bF,.c aC]
abbrev H73:=cH (.ts) [.c uM,.c aC]
abbrev H74:=cH (.t []) [.c aC,.c dn,.z iY,.c Du]
abbrev H75:=cH (.t []) [.c aC,.c dn,.z iY,.c jf]
abbrev H76:=cH (.ts) [.c uN,.c aC]
abbrev H77:=cH (.t []) [.c aC,.c dn,.z iY,.c Dv]
abbrev H78:=cH (.t []) [.c aC,.z iY,.c lq,.c jf]
abbrev H79:=cH (.ti .i64) [.c Am]
abbrev H80:=cH (.t []) [.c iO,.c dW,.c pz,.c aC]
abbrev VZ:=cH (.t []) [.c dH,.c dW,.c aC]
abbrev FN:=cH (.ts) [.c eY,.c aC]
abbrev H83:=cH (.t []) [.c iO,.c dW,.z jU,.c aC]
abbrev H84:=cH (.t []) [.c iO,.c dn,.z jU,.c aC]
abbrev Dn:=cH (.ti .i64) [.c eY,.c aC]
abbrev H86:=cH (.t []) [.c aC,.z iY,.c lq,.c jg]
abbrev H87:=cH (.tl false 1) [.c eY,.c aC]
abbrev H90:=cH (.t []) [.c dW,.z gW,.c jc,.c aC]
abbrev H91:=cH (.t []) [.c aC,.z iY,.c kP,.c jf]
abbrev qK:=cH (.g S1) [.c bF,.c aC]
abbrev H93:=cH (.t []) [.c dn,.z gW,.c Jv,.c aC]
abbrev H94:=cH (.t []) [.c dn,.z gW,.c jc,.c aC]
abbrev H95:=cH (.t []) [.c dn,.z gW,.c I4,.c aC]
abbrev H96:=cH (.t []) [.z gW,.c lq,.c jc,.c aC]
abbrev H97:=cH (.t []) [.c aC,.c dW,.z iY,.c jg]
abbrev H98:=cH (.t []) [.c aC,.z iY,.c kP,.c jg]
abbrev zZ:=cH (.g S1) [.c eY,.c aC]
abbrev aK2:=cH (.t []) [.c aC,.c dn,.z iY,.c jg]
abbrev aA3:=cH (.t []) [.z gW,.c lq,.c iO,.c aC]
abbrev aK4:=cH (.tl false 1) [.z jV,.c dH,.c aC]
abbrev a0D:=cH (.g S1) [.c kC,.z jU,.c aC]
abbrev aA4:=cH (.t []) [.z gW,.c kP,.c jc,.c aC]
abbrev aA5:=cH (.t []) [.c dW,.z gW,.c iO,.c aC]
abbrev aA6:=cH (.t []) [.z gW,.c kP,.c iO,.c aC]
abbrev aA7:=cH (.t []) [.c dn,.z gW,.c iO,.c aC]
abbrev VT:=cH (.tb) [.z jV,.c dH,.c aC]
abbrev Nk:=cH (.ti .i64) [.z jV,.c kC,.c aC]
abbrev Hq:=cH (.g S1) [.z jV,.c kC,.c aC]
abbrev aKA:=cH (.t [(false,[.I .i64]),(false,[.B]),(false,[.B])]) [.c eY,.c aC]
abbrev Ql:=cH (.g S1) [.c dH,.z jU,.c aC]
abbrev Qm:=cH (.g S1) [.z jV,.c dH,.c aC]
abbrev Qn:=cH (.t []) [.z jV,.c dH,.c aC]
abbrev aKB:=cH (.g S1) [.c jc,.z jU,.c pz,.c aC]
abbrev aAC:=cH (.g S1) [.z gW,.c pz,.c jc,.c aC]
end
end Go.Proofs.YtmbehibpfkkjbaaGreatDoor.W
end

/- A part of the proof. -/
import Derived.Test.YtagkcbgkhgccmaaGreatDoorPq3
import Derived.Shelf.Lay
import Derived.Shelf.Strings.Builder1
import Derived.Shelf.Strings.OnBuilder
import Derived.Shelf.Strconv.Itoa3
import Derived.Test.YtagkcbgkhgccmaaGreatDoorChecked
import Derived.Shelf.LaysM
import Derived.Shelf.Strings.Search1
import Derived.Shelf.Strings.Shaped
import Derived.Shelf.Strings.Repeat
set_option linter.unusedVariables false
set_option linter.unusedSimpArgs false
set_option linter.unnecessarySimpa false
set_option linter.unusedSectionVars false
noncomputable section
open Go.IntKind (i64)
namespace Go.Proofs
open Go.Shelf
shelf_lay Lays.n171 Nm 171 at Tryz as Tryz.lays171
shelf_lay Lays.n156 Nm 156 at Tryz as Tryz.lays156
shelf_lay Lays.n169 Nm 169 at Tryz as Tryz.lays169
end Go.Proofs
namespace Go.Proofs.YtagkcbgkhgccmaaGreatDoor
open Go.RowKit Go.Shelf
theorem Ye:Builder.Extra Tryz.prog Tryz.lays156_ren where
 sizeBuilder:=by kernel_rfl
 liesBuilder:=by kernel_rfl
 t5:=Tryz.underlying5
 a5:=Tryz.isAgg5
 z5:=Tryz.sizeOf5
 v5:=Tryz.zeroValue5
 infoByte:=by kernel_rfl
 cellsByte:=by kernel_rfl
 sizeByte:=by kernel_rfl
 neB5:=by decide
theorem MK:Builder.Extra Tryz.prog Tryz.lays169_ren where
 sizeBuilder:=by kernel_rfl
 liesBuilder:=by kernel_rfl
 t5:=Tryz.underlying5
 a5:=Tryz.isAgg5
 z5:=Tryz.sizeOf5
 v5:=Tryz.zeroValue5
 infoByte:=by kernel_rfl
 cellsByte:=by kernel_rfl
 sizeByte:=by kernel_rfl
 neB5:=by decide
theorem lays240:Lays.n240 Tryz.prog Tryz.lays156_ren := { Tryz.lays156 with }
theorem bPZ (i:Nat) (a:i<100) (w:World):Calls Tryz.prog 156 #[.int .i64 i] w fun e b=>e = .returned (.string ⟨(Lib.decDigits i).toArray⟩)/\b=w:=Any.strconv_Itoa_small Tryz.lays171 i a w
theorem bQ3 (h o c:Nat) (d:List ByteArray) (a:ByteArray) (w:World) (b:∀ (j:Nat) x,d[j]? = some x->w.cell? ⟨h,o+j,none⟩=some (.string x)) (i:h<w.heap.size) (l:d.length<=140737488355328) (f:d.length<=c)
 (g:(Lib.join (d.map (·.data.toList)) a.data.toList).length<=140737488355328) :
 Calls Tryz.prog 60 #[.slice (some ⟨h,o,none⟩) d.length c,.string a] w fun e m=>e = .returned (.string ⟨(Lib.join (d.map (·.data.toList)) a.data.toList).toArray⟩)/\Below w.heap.size w m :=
 Any.strings_Join Tryz.lays156 Ye h o c d a w b i l f g
theorem bQ2 (a:Option Addr) (c:Nat) (b:ByteArray) (w:World):Calls Tryz.prog 60 #[.slice a 0 c,.string b] w fun e d=>e = .returned (.string ⟨#[]⟩)/\d=w :=Any.strings_Join_none Tryz.lays156 Ye a c b w
theorem b1H (b:Nat) (w:World) (a:w.cell? ⟨b,0,none⟩=some (.pointer (some ⟨b,0,none⟩))):Calls Tryz.prog 204 #[.pointer (some ⟨b,0,none⟩)] w fun e c=>e = .returned (.tuple #[])/\c=w :=Any.Builder_copyCheck_used lays240 Ye.toX72 b w a
section
variable {P:Program} {ρ:Ren}
set_option maxHeartbeats 1000000 in
set_option maxRecDepth 100000 in
theorem b1G (L:Lays.n240 P ρ) (X:Builder.X72 P ρ) (T:TypeId) (b:Nat) (w:World) (h0:w.cell? ⟨b,0,none⟩=some (.pointer none)) (hsh:w.shape? b=some (T,2)) (hfz:w.frozen? ⟨b,0,none⟩=false)
 (hlies:liesAt P P.depth T (2 / P.cellsOf T) 0 (ρ.t 72) 1=true) :
 Calls P (ρ.f 240) #[.pointer (some ⟨b,0,none⟩)] w fun e w'=>e = .returned (.tuple #[])/\w'=w.setCell ⟨b,0,none⟩ (.pointer (some ⟨b,0,none⟩)):=by
 obtain ⟨j,hj,hjs⟩:=LU.1 X.sizeBuilder;have mixed:=L.mixed;have t72:=L.t72; have a72:=L.a72; have z72:=L.z72; have v72:=L.v72; have u72:=gJ L.t72;have t70:=L.t70; have a70:=L.a70; have z70:=L.z70; have v70:=L.v70; have u70:=gJ L.t70;have t9:=L.t9; have a9:=L.a9; have z9:=L.z9; have v9:=L.v9; have u9:=gJ L.t9;have t4:=L.t4; have a4:=L.a4; have z4:=L.z4; have v4:=L.v4; have u4:=gJ L.t4;have t164:=L.t164; have a164:=L.a164; have z164:=L.z164; have v164:=L.v164; have u164:=gJ L.t164;go_enter L.f240,Body.n240_ntmps ρ
 go_wp2
 rw[Lib.run_to_unsafe w ⟨b,0,none⟩ L.t70 L.t164 hj (by rw[hjs]; decide) hsh (Nat.zero_lt_succ 1)];simp only[Result.andThen];rw[a5Y];go_wp2
 rw[run_callFunc_extern L.f276 (by kernel_rfl) (by kernel_rfl) (by kernel_rfl) (e:=Extern.AbiNoEscape.same) (by kernel_rfl)];rw[Lib.run_noEscape];simp only[Result.andThen];rw[a5Y];go_wp2
 rw[Lib.run_from_unsafe w ⟨b,0,none⟩ L.t164 L.t70 hj hsh hlies];simp only[Result.andThen];rw[a5Y];go_wp2
 go_end0
 exact ⟨rfl,rfl⟩
end
theorem b1F (b:Nat) (w:World) (d:w.cell? ⟨b,0,none⟩=some (.pointer none)) (a:w.shape? b=some (174,2)) (c:w.frozen? ⟨b,0,none⟩=false) :
 Calls Tryz.prog 204 #[.pointer (some ⟨b,0,none⟩)] w fun e f=>e = .returned (.tuple #[])/\f=w.setCell ⟨b,0,none⟩ (.pointer (some ⟨b,0,none⟩)) :=
 b1G lays240 Ye.toX72 174 b w d a c (by kernel_rfl)
end Go.Proofs.YtagkcbgkhgccmaaGreatDoor
namespace Go.Proofs
open Go.Shelf Go.RowKit Go.Sort Go.Lib
shelf_lay LaysM.n171 Nm 171 at Tryz as Tryz.laysM171
namespace YtagkcbgkhgccmaaGreatDoor
section
variable {P:Program} {ρ:Ren}
theorem x8 (w:World) (k:Nat) (a:Array Obj):Below w.heap.size w (grow (w.drewN k) a) :=⟨rfl,rfl,rfl,by simp,fun i b=>by show (w.heap ++ a)[i]? = _; rw[IZ b]⟩
def Iz (P:Program) (ρ:Ren) (w:World):Prop:=∀ i,i<20->w.cell? ⟨ρ.g 17,i,none⟩=some (.int .u64 ((10 ^ i:Nat):Int))
theorem Iz.alloc {w:World} (h:Iz P ρ w) (o:Obj):Iz P ρ (w.alloc o):=fun i a=>by have b:=zl _ _ (h i a);rw[aG1 _ _ _ (Nat.ne_of_lt b)]; exact h i a
set_option maxHeartbeats 2000000 in
set_option maxRecDepth 100000 in
theorem b3A (L:LaysM.n284 P ρ) (u:Nat) (h1:1<=u) (h2:u<18446744073709551616) (w:World) (htab:Iz P ρ w) :
 Calls P (ρ.f 284) #[.int .u64 u] w fun e w'=>e = .returned (.int .i64 (Lib.nDigits u))/\w'=w:=by
 have mixed:=L.mixed;have t53:=L.t53; have a53:=L.a53; have z53:=L.z53; have v53:=L.v53;have t3:=L.t3; have a3:=L.a3; have z3:=L.z3; have v3:=L.v3;have t212:=L.t212; have a212:=L.a212; have z212:=L.z212; have v212:=L.v212;have t0:=L.t0; have a0:=L.a0; have z0:=L.z0; have v0:=L.v0;have t4:=L.t4; have a4:=L.a4; have z4:=L.z4; have v4:=L.v4;have e129:∀ args w,(callFunc (ρ.f 129) args).run P w = .ok (.enter (ρ.f 129) args) w:=enters_of L.f129 (by kernel_rfl) rfl;have e317:∀ args w,(callFunc (ρ.f 317) args).run P w = .ok (.enter (ρ.f 317) args) w:=enters_of L.f317 (by kernel_rfl) rfl;have e318:∀ args w,(callFunc (ρ.f 318) args).run P w = .ok (.enter (ρ.f 318) args) w:=enters_of L.f318 (by kernel_rfl) rfl;obtain ⟨hnd,h19⟩:=Lib.numDigits_eq u h1 h2;have hL:Lib.bitLen u<=64:=Lib.bitLen_le u 64 (dG _) h2;have hcell:=htab (Lib.l10 (Lib.bitLen u)) (by omega);have hto:((u:Int)).toNat=u:=by omega
 generalize hq:Lib.l10 (Lib.bitLen u)=q at hnd h19 hcell;generalize hT:10 ^ q=T at hnd hcell;have h20:q<20:=by omega
 have Hnd:=Lib.hid hnd;clear hnd htab;go_enter L.f284,Body.n284_ntmps ρ
 go_wp2_with (first
  | (go_at_fn (ρ.f 129); refine (Any.bits_Len64 { L with } _ _ (by omega) (by omega)).mono ?_; rintro e w' ⟨rfl,rfl⟩)
  | (go_at_fn (ρ.f 317); refine (Any.internal_strconv_log10Pow2 { L with } _ (by first | exact hL | (rw[hto]; exact hL)) _).mono ?_; rintro e w' ⟨rfl,rfl⟩)
  | (go_at_fn (ρ.f 318); refine (Any.internal_strconv_bool2_int { L with } _ _).mono ?_; rintro e w' ⟨rfl,rfl⟩))
 all_goals go_ret
 all_goals (
  refine ⟨?_,rfl⟩;have hnd:=Hnd.out;congr 2
  split at hnd<;>simp_all<;>omega)
set_option maxHeartbeats 6400000 in
set_option maxRecDepth 100000 in
theorem b4U (L:LaysM.n246 P ρ) (u:Nat) (hu1:100<=u) (hu:u<9223372036854775808) (w:World) (htab:Iz P ρ w) :
 Calls P (ρ.f 246) #[.int .i64 u,.int .i64 10] w fun e w'=>e = .returned (.string ⟨(Lib.decDigits u).toArray⟩)/\Below w.heap.size w w':=by
 have mixed:=L.mixed;have t2:=L.t2; have a2:=L.a2; have z2:=L.z2; have v2:=L.v2;have t3:=L.t3; have a3:=L.a3; have z3:=L.z3; have v3:=L.v3;have t9:=L.t9; have a9:=L.a9; have z9:=L.z9; have v9:=L.v9;have t4:=L.t4; have a4:=L.a4; have z4:=L.z4; have v4:=L.v4;have t171:=L.t171; have a171:=L.a171; have z171:=L.z171; have v171:=L.v171;have t0:=L.t0; have a0:=L.a0; have z0:=L.z0; have v0:=L.v0;have t53:=L.t53; have a53:=L.a53; have z53:=L.z53; have v53:=L.v53;have t37:=L.t37; have a37:=L.a37; have z37:=L.z37; have v37:=L.v37;have t5:=L.t5; have a5:=L.a5; have z5:=L.z5; have v5:=L.v5;have t173:=L.t173; have a173:=L.a173; have z173:=L.z173; have v173:=L.v173;have e283:∀ args w,(callFunc (ρ.f 283) args).run P w = .ok (.enter (ρ.f 283) args) w:=enters_of L.f283 (by kernel_rfl) rfl;have e284:∀ args w,(callFunc (ρ.f 284) args).run P w = .ok (.enter (ρ.f 284) args) w:=enters_of L.f284 (by kernel_rfl) rfl;have e285:∀ args w,(callFunc (ρ.f 285) args).run P w = .ok (.enter (ρ.f 285) args) w:=enters_of L.f285 (by kernel_rfl) rfl;have hu64:u<18446744073709551616:=by omega
 have hnd20:Lib.nDigits u<=20:=by have:=Lib.numDigits_eq u (by omega) hu64; split at this<;>omega
 have hb3:Lib.nDigits u<=23:=by omega
 have hal:P.arrayLen (ρ.t 171)=24:=by simp[Program.arrayLen,L.t171]
 have hsl1:∀ W,(Instr.sliceAt (ρ.t 171) (.pointer (some ⟨w.heap.size,0,none⟩)) (some (.int .i64 1)) (some (.int .i64 (1+(Lib.nDigits u:Int)))) none).run P W = .ok (.slice (some ⟨w.heap.size,1,none⟩) (Lib.nDigits u) 23) W:=fun W=>by
  rw[run_sliceAt_array_lh W (ρ.t 171) ⟨w.heap.size,0,none⟩ (by simp[Program.arrayLen,Program.elem,L.t171]) .i64 .i64 1 (1+(Lib.nDigits u:Int)) (by omega) (by omega) (by rw[hal]; omega)];go_simp
  omega
 have hH0:=Lib.holds_zero w (ρ.t 171) (Lib.nDigits u) (by omega);have hfmt:=Any.internal_strconv_formatBase10 { L with } w.heap.size 1 23 u (Array.replicate (Lib.nDigits u) 0) (w.alloc (.cells Lib.zeros24 (ρ.t 171))) hH0 (by rw[UF]; exact Lib.lt_pow_nDigits u) hu64 (by rw[UF]; omega);rw[UF] at hfmt;have HH0:=Lib.hid hH0;clear hH0 hal;go_enter L.f246,Body.n246_ntmps ρ
 go_wp2_with (first
  | (go_at_fn (ρ.f 284); refine (b3A { L with } u (by omega) hu64 _ (htab.alloc _)).mono ?_; rintro e w' ⟨rfl,rfl⟩))
 go_at_fn (ρ.f 285)
 refine hfmt.mono ?_;rintro e w' ⟨rfl,k,v',dk,rfl,hF⟩;have hcv:(convert (ρ.t 37) (ρ.t 9) (.slice (some ⟨w.heap.size,1,none⟩) (Lib.nDigits u) 23)).run P ((putRow (fun (b:UInt8)=>Value.int .u8 (b.toNat:Int)) (w.alloc (.cells Lib.zeros24 (ρ.t 171))) w.heap.size 1 dk).drewN k) = .ok (.string ⟨(Lib.decDigits u).toArray⟩) ((putRow (fun (b:UInt8)=>Value.int .u8 (b.toNat:Int)) (w.alloc (.cells Lib.zeros24 (ρ.t 171))) w.heap.size 1 dk).drewN k):=by have h:=run_convert_bytes_back (P:=P) ((putRow (fun (b:UInt8)=>Value.int .u8 (b.toNat:Int)) (w.alloc (.cells Lib.zeros24 (ρ.t 171))) w.heap.size 1 dk).drewN k) (ρ.t 37) (ρ.t 9) (ρ.t 5) ⟨w.heap.size,1,none⟩ 23 (Lib.decDigits u) L.t37 L.t5 L.t9 (fun j hj=>by rw[Lib.row_is_numeral hF j hj,Lib.add_plain,World.cell?_drewN];exact cell?_putRow (fun (b:UInt8)=>Value.int .u8 (b.toNat:Int)) _ w.heap.size 1 _ dk HH0.out (by rw[hF.size,UF]) j (by rw[hF.size]; rw[Lib.decDigits_length] at hj; exact hj));rw[Lib.decDigits_length] at h;exact h
 go_wp2
 go_ret
 obtain ⟨os,eo⟩:=Lib.fin_pos w (.cells Lib.zeros24 (ρ.t 171)) dk k;refine ⟨rfl,?_⟩;rw[eo];exact x8 w k os
set_option maxRecDepth 100000 in
theorem bPW (L:LaysM.n243 P ρ) (u:Nat) (hu1:100<=u) (hu:u<9223372036854775808) (w:World) (htab:Iz P ρ w) :
 Calls P (ρ.f 243) #[.int .i64 u] w fun e w'=>e = .returned (.string ⟨(Lib.decDigits u).toArray⟩)/\Below w.heap.size w w':=by
 have mixed:=L.mixed;have t3:=L.t3; have a3:=L.a3; have z3:=L.z3; have v3:=L.v3;have t9:=L.t9; have a9:=L.a9; have z9:=L.z9; have v9:=L.v9;have t2:=L.t2; have a2:=L.a2; have z2:=L.z2; have v2:=L.v2;have e246:∀ args w,(callFunc (ρ.f 246) args).run P w = .ok (.enter (ρ.f 246) args) w:=enters_of L.f246 (by kernel_rfl) rfl;go_enter L.f243,Body.n243_ntmps ρ
 go_wp2_with (go_at_fn (ρ.f 246); refine (b4U { L with } u hu1 hu _ htab).mono ?_; rintro e w' ⟨rfl,hb⟩)
 go_ret
 exact ⟨rfl,hb⟩
set_option maxRecDepth 100000 in
theorem bPY (L:LaysM.n171 P ρ) (u:Nat) (hu1:100<=u) (hu:u<9223372036854775808) (w:World) (htab:Iz P ρ w) :
 Calls P (ρ.f 171) #[.int .i64 u] w fun e w'=>e = .returned (.string ⟨(Lib.decDigits u).toArray⟩)/\Below w.heap.size w w':=by
 have mixed:=L.mixed;have t3:=L.t3; have a3:=L.a3; have z3:=L.z3; have v3:=L.v3;have t9:=L.t9; have a9:=L.a9; have z9:=L.z9; have v9:=L.v9;have e243:∀ args w,(callFunc (ρ.f 243) args).run P w = .ok (.enter (ρ.f 243) args) w:=enters_of L.f243 (by kernel_rfl) rfl;go_enter L.f171,Body.n171_ntmps ρ
 go_wp2_with (go_at_fn (ρ.f 243); refine (bPW { L with } u hu1 hu _ htab).mono ?_; rintro e w' ⟨rfl,hb⟩)
 go_ret
 exact ⟨rfl,hb⟩
end
end YtagkcbgkhgccmaaGreatDoor
end Go.Proofs
namespace Go.Proofs
open Go.Shelf
shelf_lay Lays.n217 Nm 217 at Tryz as Tryz.lays217
end Go.Proofs
namespace Go.Proofs.YtagkcbgkhgccmaaGreatDoor
open Go.RowKit Go.Shelf
theorem bPG (s:ByteArray) (c:Int) (w:World):Calls Tryz.prog 219 #[.string s,.int .u8 c] w fun e a=>e = .returned (.int .i64 (Lib.indexByte s.data.toList c.toNat.toUInt8))/\a=w:=Any.stringslite_IndexByte Tryz.lays217 s c w
def C16:oW:=fun g args h=>match g,args with
 | 219,[.str s,.int .u8 c]=>some (.int .i64 (Lib.indexByte s.data.toList c.toNat.toUInt8),h)
 | _,_=>none
theorem a7U {P:Program} {g:FuncId} {args:List PV} {r:PV} {v:Value} (m:m_ P g=true) (n:∀ M B,eU M B r v) (o:r.own=false)
 (h:∀ (M:Mem) (B:aS) (w:World) (a:Array Value),au M B args a.toList->Calls P g a w fun e f=>e = .returned v/\f=w) (i:aH):Ev P g args i r i:=by
 refine ⟨m,fun p M B w a d c j l hv=>(h M B w a hv).mono ?_⟩;rintro e f ⟨rfl,rfl⟩;refine ⟨v,M,B,rfl,d,eH.refl _ _,Fr.refl _ _ _,c,n M B,gU o,fun b _ => ?_,fun b => ?_,fun b q => ?_⟩;grind [ed]
 grind [ed]
 grind [ed]
theorem GK:pU Tryz.prog C16:=by
 intro g args h r h' hv;unfold C16 at hv;split at hv
 .rename_i s c;injection hv with hv; injection hv with e f; subst e; subst f
  refine a7U (v := .int .i64 (Lib.indexByte s.data.toList c.toNat.toUInt8)) (by kernel_rfl) (fun _ _=>fH.2 rfl) rfl (fun M B w a hv => ?_) h;obtain ⟨l,i,j,b,hv⟩:=dO.1 hv;obtain ⟨m,i,rfl,d,hv⟩:=dO.1 hv;rw[fA] at hv;subst hv;rw[jS] at b; rw[fH] at d;subst b; subst d;have:a = #[.string s,.int .u8 c]:=by rw[<- uA]; exact j
  rw[this];exact bPG s c w
 .cases hv
end Go.Proofs.YtagkcbgkhgccmaaGreatDoor
namespace Go.Proofs.YtagkcbgkhgccmaaGreatDoor
open Go.RowKit
set_option maxRecDepth 1000000
def OY (p:PV) (K:Int->ByteArray->Int->Int->Int->R):R:=match p with | .agg [.int .i64 a,.str b,.int .i64 c,.int .i64 d,.int .i64 e]=>K a b c d e | _=>none
theorem aFH (p:PV):(∀ K:PV->R,OY p (fun a b c d e=>K (.agg [aN a,.str b,aN c,aN d,aN e]))=K p)\/(∀ K:PV->R,OY p (fun a b c d e=>K (.agg [aN a,.str b,aN c,aN d,aN e]))=none):=by
 unfold OY; split
 .exact .inl fun _=>rfl
 .exact .inr fun _=>rfl
@[simp] theorem c5G (a : Int) (b : ByteArray) (c  d  e : Int) (K : Int -> ByteArray -> Int -> Int -> Int -> R) : OY (.agg [aN a, .str b, aN c, aN d, aN e]) K = K a b c d e := rfl
def VV (t:TypeId) (p:PV) (K:PV->R):R :=
 aB (Nat.beq t 2) (vI .i64 p fun a=>K (aN a))
  (aB (Nat.beq t 3) (vI .i64 p fun a=>K (aN a))
  (aB (Nat.beq t 4) (vB p fun g=>K (.bool g))
  (aB (Nat.beq t 5) (vI .u8 p fun a=>K (.int .u8 a))
  (aB (Nat.beq t 6) (vI .u8 p fun a=>K (.int .u8 a))
  (aB (Nat.beq t 9) (vS p fun s1=>K (.str s1))
  (aB (Nat.beq t 10) (vS p fun s1=>K (.str s1))
  (aB (Nat.beq t 11) (vS p fun s1=>K (.str s1))
  (aB (Nat.beq t 12) (vI .u64 p fun a=>K (.int .u64 a))
  (aB (Nat.beq t 21) (vI .i32 p fun a=>K (.int .i32 a))
  (aB (Nat.beq t 24) (vL false 5 p fun b=>K (.sl false 5 b))
  (aB (Nat.beq t 31) (vI .i64 p fun a=>K (aN a))
  (aB (Nat.beq t 41) (vL false 1 p fun b=>K (.sl false 1 b))
  (aB (Nat.beq t 99999) (vI .u16 p fun a=>K (.int .u16 a))
  (aB (Nat.beq t 45) (vL false 1 p fun b=>K (.sl false 1 b))
  (aB (Nat.beq t 88) (vL false 5 p fun b=>K (.sl false 5 b))
  (aB (Nat.beq t 172) (vL false 1 p fun b=>K (.sl false 1 b))
  (aB (Nat.beq t 198) (vL false 1 p fun b=>K (.sl false 1 b))
  (aB (Nat.beq t 73) (vL false 5 p fun b=>K (.sl false 5 b))
  (aB (Nat.beq t 229) (vI .u64 p fun a=>K (.int .u64 a))
  (aB (Nat.beq t 99999) (vI .i8 p fun a=>K (.int .i8 a))
  (aB (Nat.beq t 64) (OY p fun a c d e f=>K (.agg [aN a,.str c,aN d,aN e,aN f]))
  (aB (Nat.beq t 65) (OY p fun a c d e f=>K (.agg [aN a,.str c,aN d,aN e,aN f]))
  (aB (Nat.beq t 243) (vL false 1 p fun b=>K (.sl false 1 b))
  (aB (Nat.beq t 214) (vL false 1 p fun b=>K (.sl false 1 b))
  (aB (Nat.beq t 266) (vI .u32 p fun a=>K (.int .u32 a))
  (aB (Nat.beq t 269) (vI .u64 p fun a=>K (.int .u64 a))
  (aB (Nat.beq t 300) (vI .u8 p fun a=>K (.int .u8 a))
  (aB (Nat.beq t 301) (vI .u8 p fun a=>K (.int .u8 a))
  (aB (Nat.beq t 303) (vI .i32 p fun a=>K (.int .i32 a))
  (aB (Nat.beq t 304) (vI .i32 p fun a=>K (.int .i32 a))
  (K p)))))))))))))))))))))))))))))))
theorem a'M:zV VV:=fun t p =>lh (tZ .i64 p) (lh (tZ .i64 p) (lh (Kr p) (lh (tZ .u8 p) (lh (tZ .u8 p) (lh (Xc p) (lh (Xc p) (lh (Xc p) (lh (tZ .u64 p) (lh (tZ .i32 p) (lh (Bz false 5 p) (lh (tZ .i64 p) (lh (Bz false 1 p) (lh (tZ .u16 p) (lh (Bz false 1 p) (lh (Bz false 5 p) (lh (Bz false 1 p) (lh (Bz false 1 p) (lh (Bz false 5 p) (lh (tZ .u64 p) (lh (tZ .i8 p) (lh (aFH p) (lh (aFH p) (lh (Bz false 1 p) (lh (Bz false 1 p) (lh (tZ .u32 p) (lh (tZ .u64 p) (lh (tZ .u8 p) (lh (tZ .u8 p) (lh (tZ .i32 p) (lh (tZ .i32 p) (.inl fun _=>rfl)))))))))))))))))))))))))))))))
def Xd (p:PV) (K:List PV->Int->Int->Int->R):R:=match p with | .tuple [.sl false 5 a,.int .i64 b,.int .i64 c,.int .i64 d]=>K a b c d | _=>none
theorem c08 (p:PV) (h:aH):(∀ K:PV->aH->R,Xd p (fun a b c d=>K (.tuple [.sl false 5 a,aN b,aN c,aN d]) h)=K p h)\/(∀ K:PV->aH->R,Xd p (fun a b c d=>K (.tuple [.sl false 5 a,aN b,aN c,aN d]) h)=none):=by
 unfold Xd; split
 .exact .inl fun _=>rfl
 .exact .inr fun _=>rfl
@[simp] theorem c5I (a : List PV) (b  c  d : Int) (K : List PV -> Int -> Int -> Int -> R) : Xd (.tuple [.sl false 5 a, aN b, aN c, aN d]) K = K a b c d := rfl
def GG (p:PV) (K:Int->ByteArray->Int->Int->Int->Int->R):R:=match p with | .tuple [.agg [.int .i64 a,.str b,.int .i64 c,.int .i64 d,.int .i64 e],.int .i64 f]=>K a b c d e f | _=>none
theorem aFJ (p:PV) (h:aH):(∀ K:PV->aH->R,GG p (fun a b c d e f=>K (.tuple [.agg [aN a,.str b,aN c,aN d,aN e],aN f]) h)=K p h)\/(∀ K:PV->aH->R,GG p (fun a b c d e f=>K (.tuple [.agg [aN a,.str b,aN c,aN d,aN e],aN f]) h)=none):=by
 unfold GG; split
 .exact .inl fun _=>rfl
 .exact .inr fun _=>rfl
@[simp] theorem c5J (a : Int) (b : ByteArray) (c  d  e  f : Int) (K : Int -> ByteArray -> Int -> Int -> Int -> Int -> R) : GG (.tuple [.agg [aN a, .str b, aN c, aN d, aN e], aN f]) K = K a b c d e f := rfl
def NF (p:PV) (h:aH) (K:Int->ByteArray->Int->Int->Int->Int->Int->Int->R):R:=match p,h with | .agg [.int .i64 a,.str b,.int .i64 c,.int .i64 d,.int .i64 e],[some [.int .i64 f],some [.int .i64 g],some [.int .i64 i]]=>K a b c d e f g i | _,_=>none
theorem bOS (p:PV) (h:aH):(∀ K:PV->aH->R,NF p h (fun a b c d e f g i=>K (.agg [aN a,.str b,aN c,aN d,aN e]) [some [aN f],some [aN g],some [aN i]])=K p h)\/(∀ K:PV->aH->R,NF p h (fun a b c d e f g i=>K (.agg [aN a,.str b,aN c,aN d,aN e]) [some [aN f],some [aN g],some [aN i]])=none):=by
 unfold NF; split
 .exact .inl fun _=>rfl
 .exact .inr fun _=>rfl
@[simp] theorem c2K (a : Int) (b : ByteArray) (c  d  e  f  g  h : Int) (K : Int -> ByteArray -> Int -> Int -> Int -> Int -> Int -> Int -> R) : NF (.agg [aN a, .str b, aN c, aN d, aN e]) [some [aN f], some [aN g], some [aN h]] K = K a b c d e f g h := rfl
def YA (f:aH) (r:PV) (h:aH) (K:PV->aH->R):R:=match f with
 | [some [.int .i64 _],some [.int .i64 _],some [.int .i64 _]]=>NF r h (fun a b c d e g i j=>K (.agg [.int .i64 a,.str b,.int .i64 c,.int .i64 d,.int .i64 e]) [some [.int .i64 g],some [.int .i64 i],some [.int .i64 j]])
 | []=>OY r fun a b c d e=>K (.agg [.int .i64 a,.str b,.int .i64 c,.int .i64 d,.int .i64 e]) h
 | _=>K r h
theorem a'O (a:aH) (r:PV) (h:aH):(∀ K:PV->aH->R,YA a r h K=K r h)\/(∀ K:PV->aH->R,YA a r h K=none):=by
 unfold YA; split
 .exact bOS r h
 .exact Aj (aFH r) h
 .exact .inl fun _=>rfl
def a6S (g:FuncId) (j:aH) (r:PV) (h:aH) (K:PV->aH->R):R :=
 aB (Nat.beq g 267) (vB r fun a=>K (.bool a) h)
  (aB (Nat.beq g 268) (GG r fun b c d e f i=>K (.tuple [.agg [aN b,.str c,aN d,aN e,aN f],aN i]) h)
  (aB (Nat.beq g 269) (vB r fun a=>K (.bool a) h)
  (aB (Nat.beq g 270) (GG r fun b c d e f i=>K (.tuple [.agg [aN b,.str c,aN d,aN e,aN f],aN i]) h)
  (aB (Nat.beq g 279) (vS r fun s1=>K (.str s1) h)
  (aB (Nat.beq g 280) (vB r fun a=>K (.bool a) h)
  (K r h))))))
theorem a'R (g:FuncId) (a:aH) (r:PV) (h:aH):(∀ K:PV->aH->R,a6S g a r h K=K r h)\/(∀ K:PV->aH->R,a6S g a r h K=none) :=uP (Aj (Kr r) h) (uP (aFJ r h) (uP (Aj (Kr r) h) (uP (aFJ r h) (uP (Aj (Xc r) h) (uP (Aj (Kr r) h) (.inl fun _=>rfl))))))
def a6R (g:FuncId) (f:aH) (r:PV) (h:aH) (K:PV->aH->R):R :=
 aB (Nat.beq g 59) (Xd r fun b i d e=>K (.tuple [.sl false 5 b,aN i,aN d,aN e]) h)
  (aB (Nat.beq g 209) (vB r fun c=>K (.bool c) h)
  (aB (Nat.beq g 253) (vB r fun c=>K (.bool c) h)
  (aB (Nat.beq g 230) (w0 r (K (.tuple []) h))
  (aB (Nat.beq g 231) (vI .i64 r fun a=>K (aN a) h)
  (aB (Nat.beq g 232) (YA f r h K)
  (aB (Nat.beq g 233) (GG r fun a j d e l m=>K (.tuple [.agg [aN a,.str j,aN d,aN e,aN l],aN m]) h)
  (aB (Nat.beq g 234) (vL false 2 r fun b=>K (.sl false 2 b) h)
  (aB (Nat.beq g 219) (vI .i64 r fun a=>K (aN a) h)
  (aB (Nat.beq g 264) (vB r fun c=>K (.bool c) h)
  (aB (Nat.beq g 265) (vI .i64 r fun a=>K (aN a) h)
  (aB (Nat.beq g 266) (vL false 1 r fun b=>K (.sl false 1 b) h)
  (a6S g f r h K))))))))))))
theorem a'Q (g:FuncId) (a:aH) (r:PV) (h:aH):(∀ K:PV->aH->R,a6R g a r h K=K r h)\/(∀ K:PV->aH->R,a6R g a r h K=none) :=uP (c08 r h) (uP (Aj (Kr r) h) (uP (Aj (Kr r) h) (uP (c07 r h) (uP (Aj (tZ .i64 r) h) (uP (a'O a r h) (uP (aFJ r h) (uP (Aj (Bz false 2 r) h) (uP (Aj (tZ .i64 r) h) (uP (Aj (Kr r) h) (uP (Aj (tZ .i64 r) h) (uP (Aj (Bz false 1 r) h) (a'R g a r h))))))))))))
def WW:FuncId->aH->PV->aH->(PV->aH->R)->R:=a6R
theorem a'P:uq WW:=a'Q
def aCH (g:FuncId):xY:=match g with
 | 59=>⟨[0,2,3,4,5],[22],[],[],[(4,[0]),(10,[2,3,4,5])],[],[(2,[5])],[],[([5],false),([],true),([],true),([],true)],[],[],[],false⟩
 | 209=>⟨[0,1],[],[],[],[],[],[],[],[],[],[],[],false⟩
 | 154=>⟨[0,1],[],[],[],[],[],[],[1],[],[],[],[],false⟩
 | 253=>⟨[0,1],[],[],[],[],[],[],[],[],[],[],[],false⟩
 | 230=>⟨[0,1,3,4,5,6,7,8,9,11,12,13,47,48,49],[],[],[(47,[2])],[(2,[0,1,3,4,5]),(6,[0,1,3,4,5,6,7]),(5,[0,1,3,4,5,6,7]),(8,[0,1,3,4,5,6]),(12,[0,1,3,4,5,8]),(15,[0,1,3,4,5,8,9,47,48,49]),(18,[0,1,3,4,5,8,9,47,48,49]),(19,[0,1,3,4,5,8,9]),(21,[0,1,3,4,5,12])],[(2,[0,1,3,4,5]),(4,[0,1,3,4,5,6,7]),(14,[0,1,3,4,5,8,9,47,48,49])],[],[],[],[],[],[],false⟩
 | 231=>⟨[0,3,4],[],[],[],[(5,[0,3]),(11,[0,3,4]),(12,[3])],[(3,[0,3])],[],[],[],[],[],[],false⟩
 | 232=>⟨[0,1,2,3,4,5],[],[],[],[],[],[],[],[],[],[],[6,7,8,1000000,1000001,1000002],false⟩
 | 233=>⟨[0,2,5,6,7,8],[],[],[(6,[1])],[(4,[0,2,6,7,8]),(7,[0,2,6,7,8]),(8,[2])],[(3,[0,2,6,7,8])],[],[],[],[],[],[],false⟩
 | 234=>⟨[],[],[],[],[],[],[],[],[([2],false)],[],[],[],false⟩
 | 219=>⟨[0,1],[],[],[],[],[],[],[],[],[],[],[],false⟩
 | 264=>⟨[0],[],[],[],[],[],[],[],[],[],[],[],false⟩
 | 265=>⟨[0,1],[],[],[],[],[],[],[],[],[],[],[],false⟩
 | 266=>⟨[],[],[],[],[],[],[],[],[([1],false)],[],[],[],false⟩
 | 267=>⟨[0],[],[],[],[],[],[],[],[],[],[],[],false⟩
 | 268=>⟨[0,2,4],[],[],[],[(5,[2,4])],[],[],[],[],[],[],[],false⟩
 | 269=>⟨[0],[],[],[],[],[],[],[],[],[],[],[],false⟩
 | 270=>⟨[0,2,4,5,6,27,28],[],[],[],[(5,[2,4]),(8,[2,4,5,27,28]),(12,[2,4,5,27,28]),(13,[2,4,5])],[(7,[2,4,5,27,28])],[],[],[],[],[],[],false⟩
 | 279=>⟨[0,1,5,7,8],[],[],[],[(4,[0,1,7,8]),(7,[0,1,7,8]),(8,[0])],[(3,[0,1,7,8])],[],[],[],[],[],[],false⟩
 | 280=>⟨[0],[],[],[],[],[],[],[],[],[],[],[],false⟩
 | _=>⟨[],[],[],[],[],[],[],[],[],[],[],[],false⟩
noncomputable def SS:SE:=⟨Tryz.prog,aCH,VV,WW,C16⟩
theorem fD:SS.OK:=⟨a'M,a'P⟩
noncomputable def aL':Code:=rU Tryz.f231
def a8W:AE:=SS.ae 231 34
def bDS:XE:=SS.xe SS.CC SS.LL a8W 0
def aLY:AX->ASt->R:=IJ SS.P Tryz.f231.results.toList (SS.iq 231).ro 0 []
def aM0:Code:=Code.sub [true,true,true] aL'
def bDQ:AX->ASt->R:=xM (wu a8W 0 aM0 (bC bDS aM0 aLY)) aLY
def bDR:AX->ASt->R:=aW 0 bDQ
def bDT:Code:=Code.sub [true,true,false,false,false] aL'
def VA (a:ByteArray) (b:Int):R:=SS.LL a8W 0 [0,3] 0 bDT bDR ⟨[(0,.str a),(3,aN b)],[]⟩
theorem aLZ (b:ByteArray) (a:Int):VA b a=aB (decide (a<(b.size:Int))) (wV b a fun d=>jk SS.CC 264 [.int .u8 d] fun e=>vB e fun f=>aB f (VA b (i64.wrap (a+1))) (b_ (decide (0<=a)&&decide (a<=(b.size:Int))) (jk SS.CC 209 [.str (b.extract a.toNat b.size),.str ⟨#[47,47]⟩] fun g=>vB g fun h=>aB h (b_ (decide (0<=a)&&decide (a<=(b.size:Int))) (jk SS.CC 265 [.str (b.extract a.toNat b.size),.int .u8 10] fun i=>vI .i64 i fun c=>aB (decide (c<0)) (some (aN (b.size:Int),[])) (VA b (i64.wrap (a+c))))) (some (aN a,[]))))) (some (aN a,[])):=(Ea fD (by decide) (by kernel_rfl) (by kernel_rfl)).trans (by kernel_rfl)
theorem bDU (a0:ByteArray):SS.CC 231 [.str a0] []=VA a0 0:=(uZ fD rfl).trans (by kernel_rfl)
noncomputable def aM4:Code:=rU Tryz.f233
def a8X:AE:=SS.ae 233 19
def bDX:XE:=SS.xe SS.CC SS.LL a8X 0
def aM2:AX->ASt->R:=IJ SS.P Tryz.f233.results.toList (SS.iq 233).ro 0 []
def aM5:Code:=Code.sub [true,true] aM4
def bDV:AX->ASt->R:=xM (wu a8X 0 aM5 (bC bDX aM5 aM2)) aM2
def bDW:AX->ASt->R:=aW 0 bDV
def bDY:Code:=Code.sub [true,false,true,false,false] aM4
def Zy (b:ByteArray) (a:ai) (c:Int):R:=SS.LL a8X 0 [0,2,6,7,8] 1 bDY bDW ⟨[(0,.str b),(2,.ptr 0 0),(6,.sl false 1 a),(7,aN (a.length:Int)),(8,aN c)],[some [aN 0,.str ⟨#[]⟩,aN 0,aN 0,aN 0]]⟩
theorem aM3 (c:ByteArray) (a:ai) (b:Int):Zy c a b=aB (decide (b<(a.length:Int))) (di a b fun e=>vS e fun d=>jk SS.CC 209 [.str c,.str d] fun f=>vB f fun g=>aB g (some (.tuple [.agg [aN 3,.str d,aN 0,aN 0,aN 0],aN 0],[])) (Zy c a (i64.wrap (b+1)))) (some (.tuple [.agg [aN 0,.str ⟨#[]⟩,aN 0,aN 0,aN 0],aN 14],[])):=(Ea fD (by decide) (by kernel_rfl) (by kernel_rfl)).trans (by kernel_rfl)
theorem bDZ (a0:ByteArray):SS.CC 233 [.str a0] []=jk SS.CC 266 [] fun a=>vL false 1 a fun b=>Zy a0 b 0:=(uZ fD rfl).trans (by kernel_rfl)
theorem bHQ (a0:ByteArray):SS.CC 268 [.str a0] []=jk SS.CC 279 [.str a0,.func (.func 280) [] []] fun a=>vS a fun s1=>aB (decide (32<(s1.size:Int))) (some (.tuple [.agg [aN 0,.str ⟨#[]⟩,aN 0,aN 0,aN 0],aN 15],[])) (some (.tuple [.agg [aN 1,.str s1,aN 0,aN 0,aN 0],aN 0],[])):=(uZ fD rfl).trans (by kernel_rfl)
noncomputable def a98:Code:=rU Tryz.f270
def a96:AE:=SS.ae 270 46
def aN9:XE:=SS.xe SS.CC SS.LL a96 0
def a97:AX->ASt->R:=IJ SS.P Tryz.f270.results.toList (SS.iq 270).ro 0 []
def bHV:Code:=Code.sub [true,true,true] a98
def aNA:Code:=Code.sub [true,true,true,true,true] a98
def bHT:AX->ASt->R:=xM (wu a96 0 aNA (bC aN9 aNA a97)) a97
def bHU:AX->ASt->R:=aW 0 bHT
def bHW:Code:=Code.sub [true,true,true,true,false,true,false,false] a98
def a0P (a:ByteArray):R:=bC aN9 bHV a97 ⟨[(2,.ptr 0 0),(4,.str a)],[some [aN 0,.str ⟨#[]⟩,aN 0,aN 0,aN 0]]⟩
def a0Q (b:ByteArray) (c a:Int):R:=SS.LL a96 0 [2,4,5,27,28] 1 bHW bHU ⟨[(2,.ptr 0 0),(4,.str b),(5,aN c),(27,aN (b.size:Int)),(28,aN a)],[some [aN 0,.str ⟨#[]⟩,aN 0,aN 0,aN 0]]⟩
theorem bHS (a:ByteArray):a0P a=a0Q a 0 0:=by kernel_rfl
theorem aN8 (b:ByteArray) (c a:Int):a0Q b c a=aB (decide (a<(b.size:Int))) (wV b a fun d=>aB (decide (65536<(i64.wrap ((i64.wrap (10*c))+(i64.wrap (IntKind.u8.wrap (d-48))))))) (some (.tuple [.agg [aN 0,.str ⟨#[]⟩,aN 0,aN 0,aN 0],aN 2],[])) (a0Q b (i64.wrap ((i64.wrap (10*c))+(i64.wrap (IntKind.u8.wrap (d-48))))) (i64.wrap (a+1)))) (some (.tuple [.agg [aN 2,.str b,aN c,aN 0,aN 0],aN 0],[])):=(Ea fD (by decide) (by kernel_rfl) (by kernel_rfl)).trans (by kernel_rfl)
theorem bHX (a0:ByteArray):SS.CC 270 [.str a0] []=jk SS.CC 279 [.str a0,.func (.func 269) [] []] fun a=>vS a fun s1=>jk SS.CC 279 [.str a0,.func (.func 280) [] []] fun b=>vS b fun c=>aB (decide ((s1.size:Int)<(c.size:Int))) (some (.tuple [.agg [aN 0,.str ⟨#[]⟩,aN 0,aN 0,aN 0],aN 6],[])) (aB (decide (1<(s1.size:Int))) (wV s1 0 fun d=>aB (d==48) (some (.tuple [.agg [aN 0,.str ⟨#[]⟩,aN 0,aN 0,aN 0],aN 6],[])) (a0P s1)) (a0P s1)):=(uZ fD rfl).trans (by kernel_rfl)
theorem bD':SS.CC 234 [] []=some (.sl false 2 [.agg [.func (.func 267) [] [],.func (.func 268) [] []],.agg [.func (.func 269) [] [],.func (.func 270) [] []]],[]):=(uZ fD rfl).trans (by kernel_rfl)
theorem bHM (a0:Int):SS.CC 264 [.int .u8 a0] []=aB (a0==32) (some (.bool true,[])) (aB (a0==9) (some (.bool true,[])) (aB (a0==13) (some (.bool true,[])) (some (.bool (a0==10),[])))):=(uZ fD rfl).trans (by kernel_rfl)
theorem b5Z (a0 a1:ByteArray):SS.CC 209 [.str a0,.str a1] []=jk SS.CC 253 [.str a0,.str a1] fun a=>vB a fun b=>some (.bool b,[]):=(uZ fD rfl).trans (by kernel_rfl)
theorem bHN (a0:ByteArray) (a1:Int):SS.CC 265 [.str a0,.int .u8 a1] []=jk SS.CC 219 [.str a0,.int .u8 a1] fun a=>vI .i64 a fun b=>some (aN b,[]):=(uZ fD rfl).trans (by kernel_rfl)
theorem bHO:SS.CC 266 [] []=some (.sl false 1 [.str ⟨#[45,62]⟩,.str ⟨#[58,61]⟩,.str ⟨#[61,61]⟩,.str ⟨#[33,61]⟩,.str ⟨#[60,61]⟩,.str ⟨#[62,61]⟩,.str ⟨#[46,46]⟩,.str ⟨#[38,38]⟩,.str ⟨#[124,124]⟩,.str ⟨#[123]⟩,.str ⟨#[125]⟩,.str ⟨#[40]⟩,.str ⟨#[41]⟩,.str ⟨#[91]⟩,.str ⟨#[93]⟩,.str ⟨#[44]⟩,.str ⟨#[59]⟩,.str ⟨#[58]⟩,.str ⟨#[61]⟩,.str ⟨#[60]⟩,.str ⟨#[62]⟩,.str ⟨#[43]⟩,.str ⟨#[45]⟩,.str ⟨#[42]⟩,.str ⟨#[33]⟩,.str ⟨#[63]⟩],[]):=(uZ fD rfl).trans (by kernel_rfl)
noncomputable def aNP:Code:=rU Tryz.f279
def a9F:AE:=SS.ae 279 22
def bIY:XE:=SS.xe SS.CC SS.LL a9F 0
def aNN:AX->ASt->R:=IJ SS.P Tryz.f279.results.toList (SS.iq 279).ro 0 []
def aNQ:Code:=Code.sub [true,true] aNP
def bIW:AX->ASt->R:=xM (wu a9F 0 aNQ (bC bIY aNQ aNN)) aNN
def bIX:AX->ASt->R:=aW 0 bIW
def bIZ:Code:=Code.sub [true,false,true,false,false] aNP
def O_ (a:ByteArray) (b:Int):R:=SS.LL a9F 0 [0,1,7,8] 0 bIZ bIX ⟨[(0,.str a),(1,.func (.func 280) [] []),(7,aN (a.size:Int)),(8,aN b)],[]⟩
theorem aNO (a:ByteArray) (b:Int):O_ a b=aB (decide (b<(a.size:Int))) (wV a b fun c=>jk SS.CC 280 [.int .u8 c] fun d=>vB d fun e=>aB (!e) (b_ (decide (0<=b)&&decide (b<=(a.size:Int))) (some (.str (a.extract 0 b.toNat),[]))) (O_ a (i64.wrap (b+1)))) (some (.str a,[])):=(Ea fD (by decide) (by kernel_rfl) (by kernel_rfl)).trans (by kernel_rfl)
theorem bI' (a0:ByteArray):SS.CC 279 [.str a0,.func (.func 280) [] []] []=O_ a0 0:=(uZ fD rfl).trans (by kernel_rfl)
noncomputable def aNL:Code:=rU Tryz.f279
def a9E:AE:=SS.ae 279 22
def bIT:XE:=SS.xe SS.CC SS.LL a9E 0
def aNJ:AX->ASt->R:=IJ SS.P Tryz.f279.results.toList (SS.iq 279).ro 0 []
def aNM:Code:=Code.sub [true,true] aNL
def bIR:AX->ASt->R:=xM (wu a9E 0 aNM (bC bIT aNM aNJ)) aNJ
def bIS:AX->ASt->R:=aW 0 bIR
def bIU:Code:=Code.sub [true,false,true,false,false] aNL
def a0Y (a:ByteArray) (b:Int):R:=SS.LL a9E 0 [0,1,7,8] 0 bIU bIS ⟨[(0,.str a),(1,.func (.func 269) [] []),(7,aN (a.size:Int)),(8,aN b)],[]⟩
theorem aNK (a:ByteArray) (b:Int):a0Y a b=aB (decide (b<(a.size:Int))) (wV a b fun c=>jk SS.CC 269 [.int .u8 c] fun d=>vB d fun e=>aB (!e) (b_ (decide (0<=b)&&decide (b<=(a.size:Int))) (some (.str (a.extract 0 b.toNat),[]))) (a0Y a (i64.wrap (b+1)))) (some (.str a,[])):=(Ea fD (by decide) (by kernel_rfl) (by kernel_rfl)).trans (by kernel_rfl)
theorem bIV (a0:ByteArray):SS.CC 279 [.str a0,.func (.func 269) [] []] []=a0Y a0 0:=(uZ fD rfl).trans (by kernel_rfl)
theorem bCF (a0 a1:ByteArray):SS.CC 253 [.str a0,.str a1] []=aB (decide ((a1.size:Int)<=(a0.size:Int))) (b_ (decide (0<=(a1.size:Int))&&decide ((a1.size:Int)<=(a0.size:Int))) (some (.bool ((a0.extract 0 (a1.size:Int).toNat).toList==a1.toList),[]))) (some (.bool false,[])):=(uZ fD rfl).trans (by kernel_rfl)
theorem bJ0 (a0:Int):SS.CC 280 [.int .u8 a0] []=jk SS.CC 267 [.int .u8 a0] fun a=>vB a fun b=>aB b (some (.bool true,[])) (jk SS.CC 269 [.int .u8 a0] fun c=>vB c fun d=>some (.bool d,[])):=(uZ fD rfl).trans (by kernel_rfl)
theorem bHR (a0:Int):SS.CC 269 [.int .u8 a0] []=aB (decide (48<=a0)) (some (.bool (decide (a0<=57)),[])) (some (.bool false,[])):=(uZ fD rfl).trans (by kernel_rfl)
theorem bHP (a0:Int):SS.CC 267 [.int .u8 a0] []=aB (decide (97<=a0)) (aB (decide (a0<=122)) (some (.bool true,[])) (aB (decide (65<=a0)) (aB (decide (a0<=90)) (some (.bool true,[])) (some (.bool (a0==95),[]))) (some (.bool (a0==95),[])))) (aB (decide (65<=a0)) (aB (decide (a0<=90)) (some (.bool true,[])) (some (.bool (a0==95),[]))) (some (.bool (a0==95),[]))):=(uZ fD rfl).trans (by kernel_rfl)
theorem aM1 (a0:Int) (d:ByteArray) (e f g a b c:Int):SS.CC 232 [.agg [aN a0,.str d,aN e,aN f,aN g],.ptr 0 0,.ptr 1 0,.ptr 2 0] [some [aN a],some [aN b],some [aN c]]=some (.agg [aN a0,.str d,aN e,aN a,aN (i64.wrap ((i64.wrap (b-c))+1))],[some [aN a],some [aN b],some [aN c]]):=(show SS.CC 232 [.agg [aN a0,.str d,aN e,aN f,aN g],.ptr 0 0,.ptr 1 0,.ptr 2 0] [some [aN a],some [aN b],some [aN c]]=bf (bf (some (.agg [aN a0,.str d,aN e,aN a,aN (i64.wrap ((i64.wrap (b-c))+1))],[some [aN a],some [aN b],some [aN c]])) (some (.agg [aN a0,.str d,aN e,aN a,aN (i64.wrap ((i64.wrap (b-c))+1))],[some [aN a],some [aN b],some [aN c]]))) (bf (bf (some (.agg [aN a0,.str d,aN e,aN a,aN (i64.wrap ((i64.wrap (b-c))+1))],[some [aN a],some [aN b],some [aN c]])) (some (.agg [aN a0,.str d,aN e,aN a,aN (i64.wrap ((i64.wrap (b-c))+1))],[some [aN a],some [aN b],some [aN c]]))) (some (.agg [aN a0,.str d,aN e,aN a,aN (i64.wrap ((i64.wrap (b-c))+1))],[some [aN a],some [aN b],some [aN c]]))) from (uZ fD rfl).trans (by kernel_rfl)).trans (by simp only[uD])
abbrev lm (p:PV):R:=some (p,[])
variable {u:Prop}
theorem aP [Decidable u] (h:u):decide u=true:=by simp[h]
theorem bG [Decidable u] (h:¬ u):decide u=false:=by simp[h]
def bs (l:f_):ByteArray:=⟨l.toArray⟩
@[simp] theorem nR (l : f_) : (bs l).size = l.length := by rfl
theorem JF (l:f_) (i:Nat):(bs l)[i]? = l[i]? := by
 by_cases h:i<l.length
 .rw[jq h];have:i<(bs l).size:=by simpa using h
  rw[getElem?_pos (bs l) i this];rfl
 simp_all
theorem DJ (l:f_):(bs l).toList=l:=by rw[LH];rfl
theorem UI (l:f_) (a b:Nat):(bs l).extract a b=bs ((l.drop a).take (b-a)):=by apply ByteArray.ext;rw[ByteArray.data_extract];grind [bs]
theorem Yc (s:ByteArray):bs s.data.toList=s:=by rfl
def kJ (n:Nat):Bool:=(decide (97<=n)&&decide (n<=122))||((decide (65<=n)&&decide (n<=90))||n==95)
def gm (n:Nat):Bool:=decide (48<=n)&&decide (n<=57)
def jB (n:Nat):Bool:=kJ n||gm n
def y8 (n:Nat):Bool:=n==32||(n==9||(n==13||n==10))
theorem MI (n k:Nat):((n:Int)==(k:Int))=(n==k):=by rw[I4,qG,qG]; omega
theorem NQ (k n:Nat):decide ((k:Int)<=(n:Int))=decide (k<=n):=by simp
theorem c78 (n:Nat):SS.CC 267 [.int .u8 n] []=lm (.bool (kJ n)):=by
 rw[bHP,show decide ((97:Int)<=n)=decide (97<=n) from NQ 97 n,show decide ((n:Int)<=122)=decide (n<=122) from NQ n 122,show decide ((65:Int)<=n)=decide (65<=n) from NQ 65 n,show decide ((n:Int)<=90)=decide (n<=90) from NQ n 90,
  show ((n:Int)==95)=(n==95) from MI n 95]
 grind [PY,kJ]
theorem c80 (n:Nat):SS.CC 269 [.int .u8 n] []=lm (.bool (gm n)):=by rw[bHR,show decide ((48:Int)<=n)=decide (48<=n) from NQ 48 n,show decide ((n:Int)<=57)=decide (n<=57) from NQ n 57];grind [PY,gm]
theorem c91 (n:Nat):SS.CC 280 [.int .u8 n] []=lm (.bool (jB n)):=by rw[bJ0,qw (c78 n),Aw,qw (c80 n),Aw,PY,jB];cases kJ n<;>rfl
theorem c75 (n:Nat):SS.CC 264 [.int .u8 n] []=lm (.bool (y8 n)):=by rw[bHM,show ((n:Int)==32)=(n==32) from MI n 32,show ((n:Int)==9)=(n==9) from MI n 9,show ((n:Int)==13)=(n==13) from MI n 13,show ((n:Int)==10)=(n==10) from MI n 10];grind [PY,y8]
theorem bU {k:Nat} (h:k<1000000000000000):i64.wrap ((k:Int)+1)=((k+1:Nat):Int):=by rw[wrap64 (by omega) (by omega)]; omega
def dJ (p:Nat->Bool) (l:f_):f_:=l.takeWhile fun b=>p b.toNat
theorem aWA (p:Nat->Bool) (l:f_):(dJ p l).length<=l.length:=(List.takeWhile_sublist _).length_le
variable {p:Nat->Bool} {a:f_}
theorem aWC:∀ {k:Nat} {b:UInt8},a[k]? = some b->(∀ j c,j<k->a[j]? = some c->p c.toNat=true)->p b.toNat=false->dJ p a=a.take k:=by
 induction a with
 | nil=>simp
 | cons d a f =>
  intro k b h e g;cases k with
  | zero=>grind [dJ,List.takeWhile_cons]
  | succ k =>have i:=e 0 d (by omega) (by simp);have:=f (k:=k) (b:=b) (by grind) (fun j c m n=>e (j+1) c (by omega) (by grind)) g;grind [dJ,List.takeWhile_cons]
theorem OC {l:f_} (h:∀ (j:Nat) c,l[j]? = some c->p c.toNat=true):dJ p l=l:=by
 induction l with
 | nil=>rfl
 | cons a l b =>
  have d:=h 0 a (by simp);have:=b fun j c e=>h (j+1) c (by grind)
  grind [dJ,List.takeWhile_cons]
theorem c90 (l:f_) (g:l.length<=1000000):SS.CC 279 [.str (bs l),.func (.func 280) [] []] []=lm (.str (bs (dJ jB l))):=by
 rw[bI'];have a:∀ (m k:Nat),k+m=l.length->(∀ j c,j<k->l[j]? = some c->jB c.toNat=true)->O_ (bs l) (k:Int)=lm (.str (bs (dJ jB l))):=by
  intro m;induction m with
  | zero =>grind [aNO,nR,aF,OC]
  | succ m e =>
   intro k hk h;obtain ⟨b,d⟩:∃ b,l[k]? = some b:=⟨l[k],jq (by omega)⟩;rw[aNO,aP (by rw[nR]; omega),aI,Gl (b:=b) (by omega) (by rw[JF]; simpa using d),qw (c91 b.toNat),Aw,bU (by omega)];cases f:jB b.toNat with
   | true =>exact e (k+1) (by omega) fun j c i n=>by grind
   | false =>rw[aWC d h f];simp only[pG,aI];rw[aQ (by simp; omega),UI];simp
 exact a l.length 0 (by omega) (by omega)
theorem b0H (l:f_) (g:l.length<=1000000):SS.CC 279 [.str (bs l),.func (.func 269) [] []] []=lm (.str (bs (dJ gm l))):=by
 rw[bIV];have a:∀ (m k:Nat),k+m=l.length->(∀ j c,j<k->l[j]? = some c->gm c.toNat=true)->a0Y (bs l) (k:Int)=lm (.str (bs (dJ gm l))):=by
  intro m;induction m with
  | zero =>grind [aNK,nR,aF,OC]
  | succ m e =>
   intro k hk h;obtain ⟨b,d⟩:∃ b,l[k]? = some b:=⟨l[k],jq (by omega)⟩;rw[aNK,aP (by rw[nR]; omega),aI,Gl (b:=b) (by omega) (by rw[JF]; simpa using d),qw (c80 b.toNat),Aw,bU (by omega)];cases f:gm b.toNat with
   | true =>exact e (k+1) (by omega) fun j c i n=>by grind
   | false =>rw[aWC d h f];simp only[pG,aI];rw[aQ (by simp; omega),UI];simp
 exact a l.length 0 (by omega) (by omega)
structure Tok where
 kind:Int
 text:f_
 value:Int
 line:Int
 sN:Int
 deriving DecidableEq
def Tok.zero:Tok:=⟨0,[],0,0,0⟩
def bI (t:Tok):PV := .agg [aN t.kind,.str (bs t.text),aN t.value,aN t.line,aN t.sN]
def rd (r:Tok×Int):PV := .tuple [bI r.1,aN r.2]
def CB (l:f_):Tok×Int:=if 32<(dJ jB l).length then (.zero,15) else (⟨1,dJ jB l,0,0,0⟩,0)
theorem c79 (l:f_) (a:l.length<=1000000):SS.CC 268 [.str (bs l)] []=lm (rd (CB l)):=by
 rw[bHQ,qw (c90 l a),kG,nR,show decide ((32:Int)<((dJ jB l).length:Int))=decide (32<(dJ jB l).length) by grind];unfold CB;by_cases h:32<(dJ jB l).length
 .rw[aP h,ah h]; rfl
 .rw[bG h,aV h]; rfl
def rF:f_->Nat->Option Nat
 | [],n=>some n
 | b::l,n=>if 65536<10*n+(b.toNat-48) then none else rF l (10*n+(b.toNat-48))
def Be (l:f_):Tok×Int :=
 if (dJ gm l).length<(dJ jB l).length then (.zero,6)
 else if 1<(dJ gm l).length/\(dJ gm l)[0]? = some 48 then (.zero,6)
 else match rF (dJ gm l) 0 with
  | none=>(.zero,2)
  | some n=>(⟨2,dJ gm l,n,0,0⟩,0)
theorem aA5 {n:Nat}:gm n=true↔48<=n/\n<=57:=by simp[gm]
variable {j:UInt8}
theorem b39 (h:gm j.toNat=true):i64.wrap (IntKind.u8.wrap ((j.toNat:Int)-48))=((j.toNat-48:Nat):Int):=by obtain ⟨a,c⟩:=aA5.1 h;rw[show IntKind.u8.wrap ((j.toNat:Int)-48)=(j.toNat:Int)-48 by grind [IntKind.wrap,IntKind.bits]];rw[wrap64 (by omega) (by omega)]; omega
theorem aWB (h:j∈dJ p a):p j.toNat=true:=by
 induction a with
 | nil=>cases h
 | cons c a d =>grind [dJ,List.takeWhile_cons]
theorem b0G (l:f_) (e:∀ b,b∈l->gm b.toNat=true) (g:l.length<=1000000):∀ (m k n:Nat),k+m=l.length->n<=65536 ->
 a0Q (bs l) (n:Int) (k:Int)=(match rF (l.drop k) n with | none=>lm (rd (.zero,2)) | some v=>lm (rd (⟨2,l,v,0,0⟩,0))):=by
 intro m;induction m with
 | zero =>intro k n hk f;rw[aN8,bG (by rw[nR]; omega),aF,Ik (by omega)];rfl
 | succ m h =>
  intro k n hk f;obtain ⟨b,d⟩:∃ b,l[k]? = some b:=⟨l[k],jq (by omega)⟩;have c:=e b (qh d);obtain ⟨i,j⟩:=aA5.1 c;have a:l.drop k=b::l.drop (k+1):=by grind [List.drop_eq_getElem_cons]
  rw[aN8,aP (by rw[nR]; omega),aI,Gl (b:=b) (by omega) (by rw[JF]; simpa using d),b39 c,wrap64 (n:=10*(n:Int)) (by omega) (by omega),wrap64 (by omega) (by omega),bU (by omega),a,rF];by_cases hv:65536<10*n+(b.toNat-48)
  .rw[aP (by omega),aI,ah hv]; rfl
  grind [aF]
theorem c81 (l:f_) (g:l.length<=1000000):SS.CC 270 [.str (bs l)] []=lm (rd (Be l)):=by
 have m:=aWA gm l;have a:a0P (bs (dJ gm l))=(match rF (dJ gm l) 0 with | none=>lm (rd (.zero,2)) | some v=>lm (rd (⟨2,dJ gm l,v,0,0⟩,0))):=by have:=b0G (dJ gm l) (fun b c=>aWB c) (by omega) (dJ gm l).length 0 0 (by omega) (by omega);rw[bHS]; exact this
 have d:(match rF (dJ gm l) 0 with | none=>lm (rd (.zero,2)) | some v=>lm (rd (⟨2,dJ gm l,v,0,0⟩,0)))=lm (rd (match rF (dJ gm l) 0 with | none=>(.zero,2) | some n=>(⟨2,dJ gm l,n,0,0⟩,0))):=by cases rF (dJ gm l) 0<;>rfl
 rw[bHX,qw (b0H l g),kG,qw (c90 l g),kG,nR,nR];unfold Be;by_cases i:(dJ gm l).length<(dJ jB l).length
 .rw[aP (by omega),aI,ah i]; rfl
 .rw[bG (by omega),aF,aV i];by_cases j:1<(dJ gm l).length
  .obtain ⟨b,c⟩:∃ b,(dJ gm l)[0]? = some b:=⟨(dJ gm l)[0],jq (by omega)⟩;rw[aP (by omega),aI,Gl (b:=b) (by omega) (by rw[JF]; grind),c];rw[show ((b.toNat:Int)==48)=(b.toNat==48) from MI b.toNat 48];by_cases f:b=48
   .subst f;rw[ah ⟨j,rfl⟩]; rfl
   .have:b.toNat≠48:=fun e=>f (UInt8.toNat_inj.1 (by rw[e]; rfl))
    rw[aV (fun h=>f (by simp_all)),show (b.toNat==48)=false by simp_all,aF,a,d]
  grind [aF]
def kM:List (f_) := [[45,62],[58,61],[61,61],[33,61],[60,61],[62,61],[46,46],[38,38],[124,124],[123],[125],[40],[41],[91],[93],[44],[59],[58],[61],[60],[62],[43],[45],[42],[33],[63]]
def Fv (l:f_):Option (f_):=kM.find? fun x=>x.isPrefixOf l
def EH (l:f_):Tok×Int:=match Fv l with
 | some x=>(⟨3,x,0,0,0⟩,0)
 | none=>(.zero,14)
theorem aVM:∀ (x l:f_),(decide (x.length<=l.length)&&(l.take x.length==x))=x.isPrefixOf l
 | [],l=>by simp
 | a::x,[]=>by simp
 | a::x,b::l=>by have:=aVM x l;grind
theorem c87 (l x:f_):SS.CC 253 [.str (bs l),.str (bs x)] []=lm (.bool (x.isPrefixOf l)):=by
 rw[bCF,<- aVM,nR,nR,show decide ((x.length:Int)<=(l.length:Int))=decide (x.length<=l.length) from NQ _ _];by_cases h:x.length<=l.length;grind [aI,aQ,UI,DJ]
 .rw[bG h]; rfl
theorem c69 (l x:f_):SS.CC 209 [.str (bs l),.str (bs x)] []=lm (.bool (x.isPrefixOf l)):=by rw[b5Z,qw (c87 l x),Aw]
theorem c77:SS.CC 266 [] []=lm (.sl false 1 (kM.map fun x => .str (bs x))):=bHO
theorem b0F (l:f_) (a:List (f_)) (d:a.length<=1000):∀ (m k:Nat),k+m=a.length ->
 Zy (bs l) (a.map fun x => .str (bs x)) (k:Int)=lm (rd (match (a.drop k).find? (fun x=>x.isPrefixOf l) with | some x=>(⟨3,x,0,0,0⟩,0) | none=>(.zero,14))):=by
 intro m;induction m with
 | zero =>intro k hk;rw[aM3,bG (by rw[bM]; omega),aF,Ik (by omega)];rfl
 | succ m c =>
  intro k hk;have b:k<a.length:=by omega
  rw[aM3,aP (by rw[bM]; omega),aI,nD (e := .str (bs a[k])) (by omega) (by simp[b]),kG,qw (c69 l a[k]),Aw,bU (by omega),EO b,List.find?_cons];cases a[k].isPrefixOf l with
  | true=>rfl
  | false=>exact c (k+1) (by omega)
theorem c61 (l:f_):SS.CC 233 [.str (bs l)] []=lm (rd (EH l)):=by rw[bDZ,qw c77,a5N];exact b0F l kM (by decide) kM.length 0 (by omega)
def jF:Bool->f_->Nat
 | _,[]=>0
 | true,b::l=>if b=10 then 1+jF false l else 1+jF true l
 | false,b::l=>if y8 b.toNat then 1+jF false l else if [47,47].isPrefixOf (b::l) then 1+jF true l else 0
theorem bZP (l:f_):if Lib.indexByte l 10<0 then jF true l=l.length else ∃ j:Nat,Lib.indexByte l 10=j/\j<l.length/\jF true l=j+jF false (l.drop j):=by
 induction l with
 | nil=>rfl
 | cons b l c =>
  have d:=Lib.indexByte_ge l 10;rw[Lib.indexByte];by_cases e:b=10
  .subst e;grind [jF,y8]
  .have a:(b==10)=false:=by grind
   simp only[a,TA,if_false];by_cases h:Lib.indexByte l 10<0;grind [jF]
   .rw[aV h] at c;obtain ⟨j,f,g,i⟩:=c;have:(Lib.indexByte l 10 == -1)=false:=by simp; omega
    rw[this];simp only[TA,if_false];rw[aV (by omega)];exact ⟨j+1,by omega,by simp; omega,by grind [jF]⟩
theorem c76 (l:f_):SS.CC 265 [.str (bs l),.int .u8 10] []=lm (aN (Lib.indexByte l 10)):=by
 have a:SS.CC 219 [.str (bs l),.int .u8 10] []=lm (aN (Lib.indexByte l 10)):=by rw[LZ fD]; rfl
 rw[bHN,qw a,zU]
theorem c59 (l:f_) (t:l.length<=1000000):SS.CC 231 [.str (bs l)] []=lm (aN ((jF false l:Nat):Int)):=by
 rw[bDU];have d:∀ (m k:Nat),l.length<=k+m->k<=l.length->VA (bs l) (k:Int)=lm (aN ((k+jF false (l.drop k):Nat):Int)):=by
  intro m;induction m with
  | zero =>intro k hk e;rw[aLZ,bG (by rw[nR]; omega),aF,Ik (by omega)];rfl
  | succ m f =>
   intro k hk e;by_cases c:k<l.length
   .have a:l.drop k=l[k]::l.drop (k+1):=EO c;have he:(bs l).extract k l.length=bs (l.drop k):=by rw[UI,TF (by simp)]
    rw[aLZ,aP (by rw[nR]; omega),aI,Gl (b:=l[k]) (by omega) (by rw[JF]; simp[c]),qw (c75 _),Aw,nR,qf,he,show (⟨#[47,47]⟩:ByteArray)=bs [47,47] from rfl,qw (c69 _ _),Aw,qw (c76 _),zU,bU (by omega)];cases i:y8 l[k].toNat with
    | true =>rw[aI,f (k+1) (by omega) (by omega),a,jF,ah i];grind
    | false =>
     rw[aF,aQ (by simp; omega)];cases n : [47,47].isPrefixOf (l.drop k) with
     | false =>rw[aF];grind [jF]
     | true =>
      rw[aI,aQ (by simp; omega)];have o:jF false (l.drop k)=jF true (l.drop k):=by rw[a] at n ⊢;grind [jF]
      have g:=bZP (l.drop k);rw[o];by_cases h:Lib.indexByte (l.drop k) 10<0;simp_all
      .rw[aV h] at g;obtain ⟨j,p,q,r⟩:=g;have u:0<j:=by grind [Lib.indexByte]
       simp at q;rw[bG h,aF,p,wrap64 (by omega) (by omega),show ((k:Int)+(j:Int))=((k+j:Nat):Int) by omega,f (k+j) (by omega) (by omega),r,Oi];grind
   grind
 have:=d l.length 0 (by omega) (by omega);simp_all
def j_:Code->Array Oper | .region _ a _=>a | _ => #[]
noncomputable def ik:Code:=rU Tryz.f230
def Nl:AE:=SS.ae 230 86
def Bh:XE:=SS.xe SS.CC SS.LL Nl 7
def bUW:Code:=Code.sub [false,true,true,false,false,false,false] ik
theorem bUX (l:Nat) (K:AX->ASt->R) (s:ByteArray) (L:ai) (c d e b start a:Int):bC Bh bUW K ⟨[(0,.func (.yield l) [] []),(1,.cst (.str s)),(3,.ptr 4 0),(4,.ptr 5 0),(5,.ptr 6 0)],[some [.sl true 5 L],some [aN c],some [aN d],some [aN e],some [aN b],some [aN start],some [aN a]]⟩=b_ (decide (0<=a)&&decide (a<=(s.size:Int))) (jk SS.CC 231 [.str (s.extract a.toNat s.size)] fun g=>vI .i64 g fun f=>K .normal ⟨[(0,.func (.yield l) [] []),(1,.cst (.str s)),(3,.ptr 4 0),(4,.ptr 5 0),(5,.ptr 6 0),(6,aN f),(14,.str s),(15,aN a),(16,.str (s.extract a.toNat s.size)),(17,aN f)],[some [.sl true 5 L],some [aN c],some [aN d],some [aN e],some [aN b],some [aN start],some [aN a]]⟩):=by kernel_rfl
noncomputable def aV8:Code:=rU Tryz.f230
def aV6:AE:=SS.ae 230 86
def bUZ:XE:=SS.xe SS.CC SS.LL aV6 7
def bU':Code:=Code.sub [false,true,true,false,false,false,true,false] aV8
def bUY (K:AX->ASt->R):AX->ASt->R:=aW 2 K
def bV0:Code:=Code.sub [false,true,true,false,false,false,true,false,true,false,false] aV8
def Ws (l:Nat) (K:AX->ASt->R) (a:ByteArray) (b c:Int) (d:ai) (e f g h i j:Int):R:=SS.LL aV6 7 [0,1,3,4,5,6,7] 7 bV0 (bUY K) ⟨[(0,.func (.yield l) [] []),(1,.cst (.str a)),(3,.ptr 4 0),(4,.ptr 5 0),(5,.ptr 6 0),(6,aN b),(7,aN c)],[some [.sl true 5 d],some [aN e],some [aN f],some [aN g],some [aN h],some [aN i],some [aN j]]⟩
theorem aV7 (l:Nat) (K:AX->ASt->R) (d:ByteArray) (b a:Int) (e:ai) (f g h i j c:Int):Ws l K d b a e f g h i j c=aB (decide (a<(i64.wrap (c+b)))) (wV d a fun m=>aB (m==10) (Ws l K d b (i64.wrap (a+1)) e f g h (i64.wrap (i+1)) (i64.wrap (a+1)) c) (Ws l K d b (i64.wrap (a+1)) e f g h i j c)) (K .normal ⟨[(0,.func (.yield l) [] []),(1,.cst (.str d)),(3,.ptr 4 0),(4,.ptr 5 0),(5,.ptr 6 0),(6,aN b),(7,aN a),(19,aN a),(20,aN c),(21,aN b),(22,aN (i64.wrap (c+b))),(23,.bool false)],[some [.sl true 5 e],some [aN f],some [aN g],some [aN h],some [aN i],some [aN j],some [aN c]]⟩):=(Ea fD (by decide) (by kernel_rfl) (by kernel_rfl)).trans (by kernel_rfl)
theorem bV1 (l:Nat) (K:AX->ASt->R) (s:ByteArray) (g:Int) (L:ai) (c d e a start b:Int):bC bUZ bU' K ⟨[(0,.func (.yield l) [] []),(1,.cst (.str s)),(3,.ptr 4 0),(4,.ptr 5 0),(5,.ptr 6 0),(6,aN g)],[some [.sl true 5 L],some [aN c],some [aN d],some [aN e],some [aN a],some [aN start],some [aN b]]⟩=Ws l K s g b L c d e a start b:=by kernel_rfl
noncomputable def bV4:Code:=rU Tryz.f230
def bV2:AE:=SS.ae 230 86
def bV3:XE:=SS.xe SS.CC SS.LL bV2 7
def bV5:Code:=Code.sub [false,true,true,false,false,false,true,true,false] bV4
theorem bV6 (l:Nat) (K:AX->ASt->R) (s:ByteArray) (g:Int) (L:ai) (c d e b start a:Int):bC bV3 bV5 K ⟨[(0,.func (.yield l) [] []),(1,.cst (.str s)),(3,.ptr 4 0),(4,.ptr 5 0),(5,.ptr 6 0),(6,aN g)],[some [.sl true 5 L],some [aN c],some [aN d],some [aN e],some [aN b],some [aN start],some [aN a]]⟩=K .normal ⟨[(0,.func (.yield l) [] []),(1,.cst (.str s)),(3,.ptr 4 0),(4,.ptr 5 0),(5,.ptr 6 0),(6,aN g),(34,aN a),(35,aN g),(36,aN (i64.wrap (a+g)))],[some [.sl true 5 L],some [aN c],some [aN d],some [aN e],some [aN b],some [aN start],some [aN (i64.wrap (a+g))]]⟩:=by kernel_rfl
noncomputable def bV9:Code:=rU Tryz.f230
def bV7:AE:=SS.ae 230 86
def bV8:XE:=SS.xe SS.CC SS.LL bV7 7
def bVA:Code:=Code.sub [false,true,true,false,false,false,true,true,true,false] bV9
theorem bVB (l:Nat) (K:AX->ASt->R) (s:ByteArray) (L:ai) (c d e a start b:Int):bC bV8 bVA K ⟨[(0,.func (.yield l) [] []),(1,.cst (.str s)),(3,.ptr 4 0),(4,.ptr 5 0),(5,.ptr 6 0)],[some [.sl true 5 L],some [aN c],some [aN d],some [aN e],some [aN a],some [aN start],some [aN b]]⟩=K .normal ⟨[(0,.func (.yield l) [] []),(1,.cst (.str s)),(3,.ptr 4 0),(4,.ptr 5 0),(5,.ptr 6 0),(8,.func (.func 232) [] [.ptr 4 0,.ptr 6 0,.ptr 5 0]),(37,.func (.func 232) [] [.ptr 4 0,.ptr 6 0,.ptr 5 0])],[some [.sl true 5 L],some [aN c],some [aN d],some [aN e],some [aN a],some [aN start],some [aN b]]⟩:=by kernel_rfl
noncomputable def bVE:Code:=rU Tryz.f230
def bVC:AE:=SS.ae 230 86
def bVD:XE:=SS.xe SS.CC SS.LL bVC 7
def bVF:Code:=Code.sub [false,true,true,false,false,false,true,true,true,true,false,false] bVE
theorem aV9 (l:Nat) (K:AX->ASt->R) (s:ByteArray) (L:ai) (c d e b start a:Int):bC bVD bVF K ⟨[(0,.func (.yield l) [] []),(1,.cst (.str s)),(3,.ptr 4 0),(4,.ptr 5 0),(5,.ptr 6 0),(8,.func (.func 232) [] [.ptr 4 0,.ptr 6 0,.ptr 5 0])],[some [.sl true 5 L],some [aN c],some [aN d],some [aN e],some [aN b],some [aN start],some [aN a]]⟩=K .normal ⟨[(0,.func (.yield l) [] []),(1,.cst (.str s)),(3,.ptr 4 0),(4,.ptr 5 0),(5,.ptr 6 0),(8,.func (.func 232) [] [.ptr 4 0,.ptr 6 0,.ptr 5 0]),(38,aN a),(39,.str s),(40,aN (s.size:Int)),(41,.bool (a==(s.size:Int)))],[some [.sl true 5 L],some [aN c],some [aN d],some [aN e],some [aN b],some [aN start],some [aN a]]⟩:=by kernel_rfl
noncomputable def bVH:Code:=rU Tryz.f230
def bVG:AE:=SS.ae 230 86
def aVA:XE:=SS.xe SS.CC SS.LL bVG 7
def Xh:Code:=Code.sub [false,true,true,false,false,false,true,true,true,true,false,true,false,false] bVH
theorem bVI (l:Nat) (K:AX->ASt->R) (s:ByteArray) (L:ai) (d e f a start b:Int):kS aVA false (j_ Xh) (((j_ Xh).toList.drop 0).take 4) (K .normal) ⟨[(0,.func (.yield l) [] []),(1,.cst (.str s)),(3,.ptr 4 0),(4,.ptr 5 0),(5,.ptr 6 0),(8,.func (.func 232) [] [.ptr 4 0,.ptr 6 0,.ptr 5 0])],[some [.sl true 5 L],some [aN d],some [aN e],some [aN f],some [aN a],some [aN start],some [aN b]]⟩=BL SS.CC 232 [.agg [aN 4,.str ⟨#[]⟩,aN 0,aN 0,aN 0],.ptr 0 0,.ptr 1 0,.ptr 2 0] [some [aN a],some [aN b],some [aN start]] fun g c=>NF g c fun h i j m n o p q=>K .normal ⟨[(0,.func (.yield l) [] []),(1,.cst (.str s)),(3,.ptr 4 0),(4,.ptr 5 0),(5,.ptr 6 0),(8,.func (.func 232) [] [.ptr 4 0,.ptr 6 0,.ptr 5 0]),(42,.func (.yield l) [] []),(43,.func (.func 232) [] [.ptr 4 0,.ptr 6 0,.ptr 5 0]),(44,.agg [aN 4,.str ⟨#[]⟩,aN 0,aN 0,aN 0]),(45,.agg [aN h,.str i,aN j,aN m,aN n])],[some [.sl true 5 L],some [aN d],some [aN e],some [aN f],some [aN o],some [aN q],some [aN p]]⟩:=by kernel_rfl
noncomputable def bVL:Code:=rU Tryz.f230
def bVJ:AE:=SS.ae 230 86
def bVK:XE:=SS.xe SS.CC SS.LL bVJ 7
def bVM:Code:=Code.sub [false,true,true,false,false,false,true,true,true,true,true,false] bVL
theorem bVN (l:Nat) (K:AX->ASt->R) (s:ByteArray) (L:ai) (c d e a start b:Int):bC bVK bVM K ⟨[(0,.func (.yield l) [] []),(1,.cst (.str s)),(3,.ptr 4 0),(4,.ptr 5 0),(5,.ptr 6 0),(8,.func (.func 232) [] [.ptr 4 0,.ptr 6 0,.ptr 5 0])],[some [.sl true 5 L],some [aN c],some [aN d],some [aN e],some [aN a],some [aN start],some [aN b]]⟩=K .normal ⟨[(0,.func (.yield l) [] []),(1,.cst (.str s)),(3,.ptr 4 0),(4,.ptr 5 0),(5,.ptr 6 0),(8,.func (.func 232) [] [.ptr 4 0,.ptr 6 0,.ptr 5 0]),(9,.func (.func 233) [] [])],[some [.sl true 5 L],some [aN c],some [aN d],some [aN e],some [aN a],some [aN start],some [aN b]]⟩:=by kernel_rfl
noncomputable def bVQ:Code:=rU Tryz.f230
def bVO:AE:=SS.ae 230 86
def bVP:XE:=SS.xe SS.CC SS.LL bVO 7
def bVR:Code:=Code.sub [false,true,true,false,false,false,true,true,true,true,true,true,true,false] bVQ
theorem bVS (l:Nat) (K:AX->ASt->R) (s:ByteArray) (L:ai) (i j m b start a:Int):bC bVP bVR K ⟨[(0,.func (.yield l) [] []),(1,.cst (.str s)),(3,.ptr 4 0),(4,.ptr 5 0),(5,.ptr 6 0),(8,.func (.func 232) [] [.ptr 4 0,.ptr 6 0,.ptr 5 0]),(9,.func (.func 233) [] [])],[some [.sl true 5 L],some [aN i],some [aN j],some [aN m],some [aN b],some [aN start],some [aN a]]⟩=b_ (decide (0<=a)&&decide (a<=(s.size:Int))) (jk SS.CC 233 [.str (s.extract a.toNat s.size)] fun n=>GG n fun c d e f g h=>K .normal ⟨[(0,.func (.yield l) [] []),(1,.cst (.str s)),(3,.ptr 4 0),(4,.ptr 5 0),(5,.ptr 6 0),(8,.func (.func 232) [] [.ptr 4 0,.ptr 6 0,.ptr 5 0]),(9,.func (.func 233) [] []),(12,.ptr 7 0),(13,aN h),(62,.tuple [.agg [aN c,.str d,aN e,aN f,aN g],aN h]),(63,.func (.func 233) [] []),(64,.str s),(65,aN a),(66,.str (s.extract a.toNat s.size)),(67,.tuple [.agg [aN c,.str d,aN e,aN f,aN g],aN h]),(68,.agg [aN c,.str d,aN e,aN f,aN g]),(69,aN h)],[some [.sl true 5 L],some [aN i],some [aN j],some [aN m],some [aN b],some [aN start],some [aN a],some [aN c,.str d,aN e,aN f,aN g]]⟩):=by kernel_rfl
noncomputable def bVV:Code:=rU Tryz.f230
def bVT:AE:=SS.ae 230 86
def bVU:XE:=SS.xe SS.CC SS.LL bVT 7
def bVW:Code:=Code.sub [false,true,true,false,false,false,true,true,true,true,true,true,true,false] bVV
theorem bVX (l:Nat) (K:AX->ASt->R) (s:ByteArray) (L:ai) (i j m b start a:Int):bC bVU bVW K ⟨[(0,.func (.yield l) [] []),(1,.cst (.str s)),(3,.ptr 4 0),(4,.ptr 5 0),(5,.ptr 6 0),(8,.func (.func 232) [] [.ptr 4 0,.ptr 6 0,.ptr 5 0]),(9,.func (.func 268) [] [])],[some [.sl true 5 L],some [aN i],some [aN j],some [aN m],some [aN b],some [aN start],some [aN a]]⟩=b_ (decide (0<=a)&&decide (a<=(s.size:Int))) (jk SS.CC 268 [.str (s.extract a.toNat s.size)] fun n=>GG n fun c d e f g h=>K .normal ⟨[(0,.func (.yield l) [] []),(1,.cst (.str s)),(3,.ptr 4 0),(4,.ptr 5 0),(5,.ptr 6 0),(8,.func (.func 232) [] [.ptr 4 0,.ptr 6 0,.ptr 5 0]),(9,.func (.func 268) [] []),(12,.ptr 7 0),(13,aN h),(62,.tuple [.agg [aN c,.str d,aN e,aN f,aN g],aN h]),(63,.func (.func 268) [] []),(64,.str s),(65,aN a),(66,.str (s.extract a.toNat s.size)),(67,.tuple [.agg [aN c,.str d,aN e,aN f,aN g],aN h]),(68,.agg [aN c,.str d,aN e,aN f,aN g]),(69,aN h)],[some [.sl true 5 L],some [aN i],some [aN j],some [aN m],some [aN b],some [aN start],some [aN a],some [aN c,.str d,aN e,aN f,aN g]]⟩):=by kernel_rfl
noncomputable def bV':Code:=rU Tryz.f230
def bVY:AE:=SS.ae 230 86
def bVZ:XE:=SS.xe SS.CC SS.LL bVY 7
def bW0:Code:=Code.sub [false,true,true,false,false,false,true,true,true,true,true,true,true,false] bV'
theorem bW1 (l:Nat) (K:AX->ASt->R) (s:ByteArray) (L:ai) (i j m b start a:Int):bC bVZ bW0 K ⟨[(0,.func (.yield l) [] []),(1,.cst (.str s)),(3,.ptr 4 0),(4,.ptr 5 0),(5,.ptr 6 0),(8,.func (.func 232) [] [.ptr 4 0,.ptr 6 0,.ptr 5 0]),(9,.func (.func 270) [] [])],[some [.sl true 5 L],some [aN i],some [aN j],some [aN m],some [aN b],some [aN start],some [aN a]]⟩=b_ (decide (0<=a)&&decide (a<=(s.size:Int))) (jk SS.CC 270 [.str (s.extract a.toNat s.size)] fun n=>GG n fun c d e f g h=>K .normal ⟨[(0,.func (.yield l) [] []),(1,.cst (.str s)),(3,.ptr 4 0),(4,.ptr 5 0),(5,.ptr 6 0),(8,.func (.func 232) [] [.ptr 4 0,.ptr 6 0,.ptr 5 0]),(9,.func (.func 270) [] []),(12,.ptr 7 0),(13,aN h),(62,.tuple [.agg [aN c,.str d,aN e,aN f,aN g],aN h]),(63,.func (.func 270) [] []),(64,.str s),(65,aN a),(66,.str (s.extract a.toNat s.size)),(67,.tuple [.agg [aN c,.str d,aN e,aN f,aN g],aN h]),(68,.agg [aN c,.str d,aN e,aN f,aN g]),(69,aN h)],[some [.sl true 5 L],some [aN i],some [aN j],some [aN m],some [aN b],some [aN start],some [aN a],some [aN c,.str d,aN e,aN f,aN g]]⟩):=by kernel_rfl
def RL:ai := [.agg [.func (.func 267) [] [],.func (.func 268) [] []],.agg [.func (.func 269) [] [],.func (.func 270) [] []]]
theorem c62:SS.CC 234 [] []=lm (.sl false 2 RL):=bD'
def aCA:Code:=Code.sub [false,true,true,false,false,false,true,true,true,true,true,true,false] ik
def aVC:Code:=Code.sub [false,true,true,false,false,false,true,true,true,true,true,true,false,true,false,false] ik
abbrev nS:PV := .func (.func 232) [] [.ptr 4 0,.ptr 6 0,.ptr 5 0]
abbrev lQ (L:ai) (c1 c2 c3 line start at_:Int):aH := [some [.sl true 5 L],some [aN c1],some [aN c2],some [aN c3],some [aN line],some [aN start],some [aN at_]]
def L8 (l:Nat) (K:AX->ASt->R) (L:ai) (c d e:Int) (s:ByteArray) (a start b:Int) (f:Nat) (i:Int):R :=SS.LL Nl 7 [0,1,3,4,5,8,9,47,48,49] 7 aVC (aW 4 K) ⟨[(0,.func (.yield l) [] []),(1,.cst (.str s)),(3,.ptr 4 0),(4,.ptr 5 0),(5,.ptr 6 0),(8,nS),(9,.func (.func f) [] []),(47,.sl false 2 RL),(48,aN (RL.length:Int)),(49,aN i)],lQ L c d e a start b⟩
theorem a'K (l:Nat) (K:AX->ASt->R) (L:ai) (c d e:Int) (s:ByteArray) (a start b:Int) :
 bC Bh aCA K ⟨[(0,.func (.yield l) [] []),(1,.cst (.str s)),(3,.ptr 4 0),(4,.ptr 5 0),(5,.ptr 6 0),(8,nS),(9,.func (.func 233) [] [])],lQ L c d e a start b⟩=L8 l K L c d e s a start b 233 0:=by
 have:bC Bh aCA K ⟨[(0,.func (.yield l) [] []),(1,.cst (.str s)),(3,.ptr 4 0),(4,.ptr 5 0),(5,.ptr 6 0),(8,nS),(9,.func (.func 233) [] [])],lQ L c d e a start b⟩=jk SS.CC 234 [] fun g=>vL false 2 g fun f=>SS.LL Nl 7 [0,1,3,4,5,8,9,47,48,49] 7 aVC (aW 4 K) ⟨[(0,.func (.yield l) [] []),(1,.cst (.str s)),(3,.ptr 4 0),(4,.ptr 5 0),(5,.ptr 6 0),(8,nS),(9,.func (.func 233) [] []),(47,.sl false 2 f),(48,aN (f.length:Int)),(49,aN 0)],lQ L c d e a start b⟩:=by kernel_rfl
 rw[this,qw c62,a5N]; rfl
theorem a'H (l:Nat) (K:AX->ASt->R) (L:ai) (e f g:Int) (s:ByteArray) (a start d:Int) (h:Nat):L8 l K L e f g s a start d h 0=wV s d fun c=>jk SS.CC 267 [.int .u8 c] fun r=>vB r fun b=>aB b (L8 l K L e f g s a start d 268 1) (L8 l K L e f g s a start d h 1):=(Ea fD (by decide) (by kernel_rfl) (by kernel_rfl)).trans (by kernel_rfl)
theorem a'I (l:Nat) (K:AX->ASt->R) (L:ai) (e f g:Int) (s:ByteArray) (a start d:Int) (h:Nat):L8 l K L e f g s a start d h 1=wV s d fun c=>jk SS.CC 269 [.int .u8 c] fun r=>vB r fun b=>aB b (L8 l K L e f g s a start d 270 2) (L8 l K L e f g s a start d h 2):=(Ea fD (by decide) (by kernel_rfl) (by kernel_rfl)).trans (by kernel_rfl)
theorem a'J (l:Nat) (K:AX->ASt->R) (L:ai) (c d e:Int) (s:ByteArray) (a start b:Int) (f:Nat):L8 l K L c d e s a start b f 2=K .normal ⟨[(0,.func (.yield l) [] []),(1,.cst (.str s)),(3,.ptr 4 0),(4,.ptr 5 0),(5,.ptr 6 0),(8,nS),(9,.func (.func f) [] []),(47,.sl false 2 RL),(48,aN (RL.length:Int)),(49,aN 2),(50,.bool false)],lQ L c d e a start b⟩:=(Ea fD (by decide) (by kernel_rfl) (by kernel_rfl)).trans (by kernel_rfl)
end Go.Proofs.YtagkcbgkhgccmaaGreatDoor
namespace Go.Proofs.YtagkcbgkhgccmaaGreatDoor
open Go.RowKit
set_option maxRecDepth 1000000
noncomputable def xC:Code:=rU Tryz.f59
def mY:AE := { SS.ae 59 27 with vars := [2,3,4,5,6,7,13,14] }
noncomputable def bUR:Code:=rU Tryz.f59
def bUQ:AE := { SS.ae 59 27 with vars := [2,3,4,5,6,7,13,14] }
def aC6:XE:=SS.xe SS.CC SS.LL bUQ 7
def aC7:Code:=Code.sub [true,true,false,true,false,true] bUR
theorem bUS (l:Nat) (K:AX->ASt->R) (e k:Int) (t:ByteArray) (v a b:Int) (L:ai) (f g h c start d:Int):bC aC6 aC7 K ⟨[(2,.ptr 0 0),(3,.ptr 1 0),(4,.ptr 2 0),(5,.ptr 3 0),(6,.ptr 7 0),(7,aN e),(13,.agg [aN k,.str t,aN v,aN a,aN b]),(14,aN e)],[some [.sl true 5 L],some [aN f],some [aN g],some [aN h],some [aN c],some [aN start],some [aN d],some [aN k,.str t,aN v,aN a,aN b]]⟩=aB (e != 0) (K .ret ⟨[(2,.ptr 0 0),(3,.ptr 1 0),(4,.ptr 2 0),(5,.ptr 3 0),(6,.ptr 7 0),(7,aN e),(13,.agg [aN k,.str t,aN v,aN a,aN b]),(14,aN e),(17,.ptr 7 3),(18,aN a),(19,.ptr 7 4),(20,aN b),(21,aN e)],[some [.sl true 0 []],some [aN a],some [aN b],some [aN e],some [aN c],some [aN start],some [aN d],some [aN k,.str t,aN v,aN a,aN b]]⟩) (b_ (decide (L.length+1<=aO)) (K .normal ⟨[(2,.ptr 0 0),(3,.ptr 1 0),(4,.ptr 2 0),(5,.ptr 3 0),(6,.ptr 7 0),(7,aN e),(13,.agg [aN k,.str t,aN v,aN a,aN b]),(14,aN e),(22,.sl false 5 L),(23,.agg [aN k,.str t,aN v,aN a,aN b]),(24,.sl true 5 [.agg [aN k,.str t,aN v,aN a,aN b]]),(25,.sl false 5 (L ++ [.agg [aN k,.str t,aN v,aN a,aN b]]))],[some [.sl true 5 (L ++ [.agg [aN k,.str t,aN v,aN a,aN b]])],some [aN f],some [aN g],some [aN h],some [aN c],some [aN start],some [aN d],some [aN k,.str t,aN v,aN a,aN b]]⟩)):=(show bC aC6 aC7 K ⟨[(2,.ptr 0 0),(3,.ptr 1 0),(4,.ptr 2 0),(5,.ptr 3 0),(6,.ptr 7 0),(7,aN e),(13,.agg [aN k,.str t,aN v,aN a,aN b]),(14,aN e)],[some [.sl true 5 L],some [aN f],some [aN g],some [aN h],some [aN c],some [aN start],some [aN d],some [aN k,.str t,aN v,aN a,aN b]]⟩=aB (e != 0) (bf (bf (K .ret ⟨[(2,.ptr 0 0),(3,.ptr 1 0),(4,.ptr 2 0),(5,.ptr 3 0),(6,.ptr 7 0),(7,aN e),(13,.agg [aN k,.str t,aN v,aN a,aN b]),(14,aN e),(17,.ptr 7 3),(18,aN a),(19,.ptr 7 4),(20,aN b),(21,aN e)],[some [.sl true 0 []],some [aN a],some [aN b],some [aN e],some [aN c],some [aN start],some [aN d],some [aN k,.str t,aN v,aN a,aN b]]⟩) (bf (K .ret ⟨[(2,.ptr 0 0),(3,.ptr 1 0),(4,.ptr 2 0),(5,.ptr 3 0),(6,.ptr 7 0),(7,aN e),(13,.agg [aN k,.str t,aN v,aN a,aN b]),(14,aN e),(17,.ptr 7 3),(18,aN a),(19,.ptr 7 4),(20,aN b),(21,aN e)],[some [.sl true 0 []],some [aN a],some [aN b],some [aN e],some [aN c],some [aN start],some [aN d],some [aN k,.str t,aN v,aN a,aN b]]⟩) (K .ret ⟨[(2,.ptr 0 0),(3,.ptr 1 0),(4,.ptr 2 0),(5,.ptr 3 0),(6,.ptr 7 0),(7,aN e),(13,.agg [aN k,.str t,aN v,aN a,aN b]),(14,aN e),(17,.ptr 7 3),(18,aN a),(19,.ptr 7 4),(20,aN b),(21,aN e)],[some [.sl true 0 []],some [aN a],some [aN b],some [aN e],some [aN c],some [aN start],some [aN d],some [aN k,.str t,aN v,aN a,aN b]]⟩))) (bf (bf (K .ret ⟨[(2,.ptr 0 0),(3,.ptr 1 0),(4,.ptr 2 0),(5,.ptr 3 0),(6,.ptr 7 0),(7,aN e),(13,.agg [aN k,.str t,aN v,aN a,aN b]),(14,aN e),(17,.ptr 7 3),(18,aN a),(19,.ptr 7 4),(20,aN b),(21,aN e)],[some [.sl true 0 []],some [aN a],some [aN b],some [aN e],some [aN c],some [aN start],some [aN d],some [aN k,.str t,aN v,aN a,aN b]]⟩) (K .ret ⟨[(2,.ptr 0 0),(3,.ptr 1 0),(4,.ptr 2 0),(5,.ptr 3 0),(6,.ptr 7 0),(7,aN e),(13,.agg [aN k,.str t,aN v,aN a,aN b]),(14,aN e),(17,.ptr 7 3),(18,aN a),(19,.ptr 7 4),(20,aN b),(21,aN e)],[some [.sl true 0 []],some [aN a],some [aN b],some [aN e],some [aN c],some [aN start],some [aN d],some [aN k,.str t,aN v,aN a,aN b]]⟩)) (bf (K .ret ⟨[(2,.ptr 0 0),(3,.ptr 1 0),(4,.ptr 2 0),(5,.ptr 3 0),(6,.ptr 7 0),(7,aN e),(13,.agg [aN k,.str t,aN v,aN a,aN b]),(14,aN e),(17,.ptr 7 3),(18,aN a),(19,.ptr 7 4),(20,aN b),(21,aN e)],[some [.sl true 0 []],some [aN a],some [aN b],some [aN e],some [aN c],some [aN start],some [aN d],some [aN k,.str t,aN v,aN a,aN b]]⟩) (K .ret ⟨[(2,.ptr 0 0),(3,.ptr 1 0),(4,.ptr 2 0),(5,.ptr 3 0),(6,.ptr 7 0),(7,aN e),(13,.agg [aN k,.str t,aN v,aN a,aN b]),(14,aN e),(17,.ptr 7 3),(18,aN a),(19,.ptr 7 4),(20,aN b),(21,aN e)],[some [.sl true 0 []],some [aN a],some [aN b],some [aN e],some [aN c],some [aN start],some [aN d],some [aN k,.str t,aN v,aN a,aN b]]⟩)))) (b_ (decide (L.length+1<=aO)) (K .normal ⟨[(2,.ptr 0 0),(3,.ptr 1 0),(4,.ptr 2 0),(5,.ptr 3 0),(6,.ptr 7 0),(7,aN e),(13,.agg [aN k,.str t,aN v,aN a,aN b]),(14,aN e),(22,.sl false 5 L),(23,.agg [aN k,.str t,aN v,aN a,aN b]),(24,.sl true 5 [.agg [aN k,.str t,aN v,aN a,aN b]]),(25,.sl false 5 (L ++ [.agg [aN k,.str t,aN v,aN a,aN b]]))],[some [.sl true 5 (L ++ [.agg [aN k,.str t,aN v,aN a,aN b]])],some [aN f],some [aN g],some [aN h],some [aN c],some [aN start],some [aN d],some [aN k,.str t,aN v,aN a,aN b]]⟩)) from by kernel_rfl).trans (by simp only[uD])
noncomputable def bUU:Code:=rU Tryz.f59
def bUT:AE := { SS.ae 59 27 with vars := [2,3,4,5,6,7,13,14] }
def aC8:XE:=SS.xe SS.CC SS.LL bUT 8
def aC9:Code:=Code.sub [true,true,false,true,false,true] bUU
theorem bUV (l:Nat) (K:AX->ASt->R) (e k:Int) (t:ByteArray) (v a b:Int) (L:ai) (m n o c start d f:Int) (g:ByteArray) (h i j:Int):bC aC8 aC9 K ⟨[(2,.ptr 0 0),(3,.ptr 1 0),(4,.ptr 2 0),(5,.ptr 3 0),(6,.ptr 8 0),(7,aN e),(13,.agg [aN k,.str t,aN v,aN a,aN b]),(14,aN e)],[some [.sl true 5 L],some [aN m],some [aN n],some [aN o],some [aN c],some [aN start],some [aN d],some [aN f,.str g,aN h,aN i,aN j],some [aN k,.str t,aN v,aN a,aN b]]⟩=aB (e != 0) (K .ret ⟨[(2,.ptr 0 0),(3,.ptr 1 0),(4,.ptr 2 0),(5,.ptr 3 0),(6,.ptr 8 0),(7,aN e),(13,.agg [aN k,.str t,aN v,aN a,aN b]),(14,aN e),(17,.ptr 8 3),(18,aN a),(19,.ptr 8 4),(20,aN b),(21,aN e)],[some [.sl true 0 []],some [aN a],some [aN b],some [aN e],some [aN c],some [aN start],some [aN d],some [aN f,.str g,aN h,aN i,aN j],some [aN k,.str t,aN v,aN a,aN b]]⟩) (b_ (decide (L.length+1<=aO)) (K .normal ⟨[(2,.ptr 0 0),(3,.ptr 1 0),(4,.ptr 2 0),(5,.ptr 3 0),(6,.ptr 8 0),(7,aN e),(13,.agg [aN k,.str t,aN v,aN a,aN b]),(14,aN e),(22,.sl false 5 L),(23,.agg [aN k,.str t,aN v,aN a,aN b]),(24,.sl true 5 [.agg [aN k,.str t,aN v,aN a,aN b]]),(25,.sl false 5 (L ++ [.agg [aN k,.str t,aN v,aN a,aN b]]))],[some [.sl true 5 (L ++ [.agg [aN k,.str t,aN v,aN a,aN b]])],some [aN m],some [aN n],some [aN o],some [aN c],some [aN start],some [aN d],some [aN f,.str g,aN h,aN i,aN j],some [aN k,.str t,aN v,aN a,aN b]]⟩)):=(show bC aC8 aC9 K ⟨[(2,.ptr 0 0),(3,.ptr 1 0),(4,.ptr 2 0),(5,.ptr 3 0),(6,.ptr 8 0),(7,aN e),(13,.agg [aN k,.str t,aN v,aN a,aN b]),(14,aN e)],[some [.sl true 5 L],some [aN m],some [aN n],some [aN o],some [aN c],some [aN start],some [aN d],some [aN f,.str g,aN h,aN i,aN j],some [aN k,.str t,aN v,aN a,aN b]]⟩=aB (e != 0) (bf (bf (K .ret ⟨[(2,.ptr 0 0),(3,.ptr 1 0),(4,.ptr 2 0),(5,.ptr 3 0),(6,.ptr 8 0),(7,aN e),(13,.agg [aN k,.str t,aN v,aN a,aN b]),(14,aN e),(17,.ptr 8 3),(18,aN a),(19,.ptr 8 4),(20,aN b),(21,aN e)],[some [.sl true 0 []],some [aN a],some [aN b],some [aN e],some [aN c],some [aN start],some [aN d],some [aN f,.str g,aN h,aN i,aN j],some [aN k,.str t,aN v,aN a,aN b]]⟩) (bf (K .ret ⟨[(2,.ptr 0 0),(3,.ptr 1 0),(4,.ptr 2 0),(5,.ptr 3 0),(6,.ptr 8 0),(7,aN e),(13,.agg [aN k,.str t,aN v,aN a,aN b]),(14,aN e),(17,.ptr 8 3),(18,aN a),(19,.ptr 8 4),(20,aN b),(21,aN e)],[some [.sl true 0 []],some [aN a],some [aN b],some [aN e],some [aN c],some [aN start],some [aN d],some [aN f,.str g,aN h,aN i,aN j],some [aN k,.str t,aN v,aN a,aN b]]⟩) (K .ret ⟨[(2,.ptr 0 0),(3,.ptr 1 0),(4,.ptr 2 0),(5,.ptr 3 0),(6,.ptr 8 0),(7,aN e),(13,.agg [aN k,.str t,aN v,aN a,aN b]),(14,aN e),(17,.ptr 8 3),(18,aN a),(19,.ptr 8 4),(20,aN b),(21,aN e)],[some [.sl true 0 []],some [aN a],some [aN b],some [aN e],some [aN c],some [aN start],some [aN d],some [aN f,.str g,aN h,aN i,aN j],some [aN k,.str t,aN v,aN a,aN b]]⟩))) (bf (bf (K .ret ⟨[(2,.ptr 0 0),(3,.ptr 1 0),(4,.ptr 2 0),(5,.ptr 3 0),(6,.ptr 8 0),(7,aN e),(13,.agg [aN k,.str t,aN v,aN a,aN b]),(14,aN e),(17,.ptr 8 3),(18,aN a),(19,.ptr 8 4),(20,aN b),(21,aN e)],[some [.sl true 0 []],some [aN a],some [aN b],some [aN e],some [aN c],some [aN start],some [aN d],some [aN f,.str g,aN h,aN i,aN j],some [aN k,.str t,aN v,aN a,aN b]]⟩) (K .ret ⟨[(2,.ptr 0 0),(3,.ptr 1 0),(4,.ptr 2 0),(5,.ptr 3 0),(6,.ptr 8 0),(7,aN e),(13,.agg [aN k,.str t,aN v,aN a,aN b]),(14,aN e),(17,.ptr 8 3),(18,aN a),(19,.ptr 8 4),(20,aN b),(21,aN e)],[some [.sl true 0 []],some [aN a],some [aN b],some [aN e],some [aN c],some [aN start],some [aN d],some [aN f,.str g,aN h,aN i,aN j],some [aN k,.str t,aN v,aN a,aN b]]⟩)) (bf (K .ret ⟨[(2,.ptr 0 0),(3,.ptr 1 0),(4,.ptr 2 0),(5,.ptr 3 0),(6,.ptr 8 0),(7,aN e),(13,.agg [aN k,.str t,aN v,aN a,aN b]),(14,aN e),(17,.ptr 8 3),(18,aN a),(19,.ptr 8 4),(20,aN b),(21,aN e)],[some [.sl true 0 []],some [aN a],some [aN b],some [aN e],some [aN c],some [aN start],some [aN d],some [aN f,.str g,aN h,aN i,aN j],some [aN k,.str t,aN v,aN a,aN b]]⟩) (K .ret ⟨[(2,.ptr 0 0),(3,.ptr 1 0),(4,.ptr 2 0),(5,.ptr 3 0),(6,.ptr 8 0),(7,aN e),(13,.agg [aN k,.str t,aN v,aN a,aN b]),(14,aN e),(17,.ptr 8 3),(18,aN a),(19,.ptr 8 4),(20,aN b),(21,aN e)],[some [.sl true 0 []],some [aN a],some [aN b],some [aN e],some [aN c],some [aN start],some [aN d],some [aN f,.str g,aN h,aN i,aN j],some [aN k,.str t,aN v,aN a,aN b]]⟩)))) (b_ (decide (L.length+1<=aO)) (K .normal ⟨[(2,.ptr 0 0),(3,.ptr 1 0),(4,.ptr 2 0),(5,.ptr 3 0),(6,.ptr 8 0),(7,aN e),(13,.agg [aN k,.str t,aN v,aN a,aN b]),(14,aN e),(22,.sl false 5 L),(23,.agg [aN k,.str t,aN v,aN a,aN b]),(24,.sl true 5 [.agg [aN k,.str t,aN v,aN a,aN b]]),(25,.sl false 5 (L ++ [.agg [aN k,.str t,aN v,aN a,aN b]]))],[some [.sl true 5 (L ++ [.agg [aN k,.str t,aN v,aN a,aN b]])],some [aN m],some [aN n],some [aN o],some [aN c],some [aN start],some [aN d],some [aN f,.str g,aN h,aN i,aN j],some [aN k,.str t,aN v,aN a,aN b]]⟩)) from by kernel_rfl).trans (by simp only[uD])
def Fg:Code:=Code.sub [true,true,false,true,false,false] xC
def Bq:Code:=Code.sub [true,true,false,true,false,true] xC
theorem aWS:pq Fg=true:=by kernel_rfl
theorem aWT:pq Bq=true:=by kernel_rfl
theorem Dj:Tryz.prog.follows .mixedOrders=true:=by kernel_rfl
theorem bZ5 (K:AX->ASt->R) (L:ai) (f g h a start b k:Int) (t:ByteArray) (v c d e:Int):bC (SS.xe SS.CC SS.LL mY 7) Fg K ⟨[(2,.ptr 0 0),(3,.ptr 1 0),(4,.ptr 2 0),(5,.ptr 3 0),(13,.agg [aN k,.str t,aN v,aN c,aN d]),(14,aN e)],[some [.sl true 5 L],some [aN f],some [aN g],some [aN h],some [aN a],some [aN start],some [aN b]]⟩=K .normal ⟨[(2,.ptr 0 0),(3,.ptr 1 0),(4,.ptr 2 0),(5,.ptr 3 0),(6,.ptr 7 0),(7,aN e),(13,.agg [aN k,.str t,aN v,aN c,aN d]),(14,aN e)],[some [.sl true 5 L],some [aN f],some [aN g],some [aN h],some [aN a],some [aN start],some [aN b],some [aN k,.str t,aN v,aN c,aN d]]⟩:=by kernel_rfl
def aE9 (L:ai) (f g h a start d k:Int) (t:ByteArray) (v b c e:Int):ASt:=⟨[(2,.ptr 0 0),(3,.ptr 1 0),(4,.ptr 2 0),(5,.ptr 3 0),(6,.ptr 7 0),(7,aN e),(13,.agg [aN k,.str t,aN v,aN b,aN c]),(14,aN e),(17,.ptr 7 3),(18,aN b),(19,.ptr 7 4),(20,aN c),(21,aN e)],[some [.sl true 0 []],some [aN b],some [aN c],some [aN e],some [aN a],some [aN start],some [aN d],some [aN k,.str t,aN v,aN b,aN c]]⟩
def aEB (L:ai) (f g h c start d k:Int) (t:ByteArray) (v a b e:Int):ASt:=⟨[(2,.ptr 0 0),(3,.ptr 1 0),(4,.ptr 2 0),(5,.ptr 3 0),(6,.ptr 7 0),(7,aN e),(13,.agg [aN k,.str t,aN v,aN a,aN b]),(14,aN e),(22,.sl false 5 L),(23,.agg [aN k,.str t,aN v,aN a,aN b]),(24,.sl true 5 [.agg [aN k,.str t,aN v,aN a,aN b]]),(25,.sl false 5 (L ++ [.agg [aN k,.str t,aN v,aN a,aN b]]))],[some [.sl true 5 (L ++ [.agg [aN k,.str t,aN v,aN a,aN b]])],some [aN f],some [aN g],some [aN h],some [aN c],some [aN start],some [aN d],some [aN k,.str t,aN v,aN a,aN b]]⟩
theorem aWQ (K:AX->ASt->R) (L:ai) (f g h a start b k:Int) (t:ByteArray) (v c d e:Int):bC (SS.xe SS.CC SS.LL mY 7) Bq K ⟨[(2,.ptr 0 0),(3,.ptr 1 0),(4,.ptr 2 0),(5,.ptr 3 0),(6,.ptr 7 0),(7,aN e),(13,.agg [aN k,.str t,aN v,aN c,aN d]),(14,aN e)],[some [.sl true 5 L],some [aN f],some [aN g],some [aN h],some [aN a],some [aN start],some [aN b],some [aN k,.str t,aN v,aN c,aN d]]⟩=aB (e != 0) (K .ret (aE9 L f g h a start b k t v c d e)) (b_ (decide (L.length+1<=aO)) (K .normal (aEB L f g h a start b k t v c d e))) :=(show bC (SS.xe SS.CC SS.LL mY 7) Bq K ⟨[(2,.ptr 0 0),(3,.ptr 1 0),(4,.ptr 2 0),(5,.ptr 3 0),(6,.ptr 7 0),(7,aN e),(13,.agg [aN k,.str t,aN v,aN c,aN d]),(14,aN e)],[some [.sl true 5 L],some [aN f],some [aN g],some [aN h],some [aN a],some [aN start],some [aN b],some [aN k,.str t,aN v,aN c,aN d]]⟩=bC aC6 aC7 K ⟨[(2,.ptr 0 0),(3,.ptr 1 0),(4,.ptr 2 0),(5,.ptr 3 0),(6,.ptr 7 0),(7,aN e),(13,.agg [aN k,.str t,aN v,aN c,aN d]),(14,aN e)],[some [.sl true 5 L],some [aN f],some [aN g],some [aN h],some [aN a],some [aN start],some [aN b],some [aN k,.str t,aN v,aN c,aN d]]⟩ from by kernel_rfl).trans (bUS 0 K e k t v c d L f g h a start b)
theorem bZ7 (L:ai) (d f g a start b k:Int) (t:ByteArray) (v i j e:Int) (o:L.length+1<=aO):eu mY 7 Fg (Eo (eu mY 7 Bq fun l c=>if e=0 then l = .normal/\c=aEB L d f g a start b k t v i j e else l = .ret/\c=aE9 L d f g a start b k t v i j e) fun _ _=>False) ⟨[(2,.ptr 0 0),(3,.ptr 1 0),(4,.ptr 2 0),(5,.ptr 3 0),(13,.agg [aN k,.str t,aN v,aN i,aN j]),(14,aN e)],[some [.sl true 5 L],some [aN d],some [aN f],some [aN g],some [aN a],some [aN start],some [aN b]]⟩:=by
 have m:pU (SS.xe SS.CC SS.LL mY 7).E.P (SS.xe SS.CC SS.LL mY 7).C:=Ox Dj fD GK;have n:Jh (SS.xe SS.CC SS.LL mY 7):=Y1 Dj fD GK rfl;refine yw Fg (fun l c h => ?_) (Jw (X:=(SS.xe SS.CC SS.LL mY 7)) fD.V fD.W m n fun K=>bZ5 K L d f g a start b k t v i j e);obtain ⟨rfl,rfl⟩:=h;show eu mY 7 Bq _ _;by_cases he:e=0
 .simp only[ah he];refine Jw (X:=(SS.xe SS.CC SS.LL mY 7)) fD.V fD.W m n fun K => ?_
  rw[aWQ,show (e != 0)=false by simp[he],aF,aQ (by grind)]
 .simp only[aV he];refine Jw (X:=(SS.xe SS.CC SS.LL mY 7)) fD.V fD.W m n fun K => ?_
  rw[aWQ,show (e != 0)=true by simp[he],aI]
theorem bZ6 (K:AX->ASt->R) (L:ai) (f g h a start b i:Int) (j:ByteArray) (l m n k:Int) (t:ByteArray) (v c d e:Int):bC (SS.xe SS.CC SS.LL mY 8) Fg K ⟨[(2,.ptr 0 0),(3,.ptr 1 0),(4,.ptr 2 0),(5,.ptr 3 0),(13,.agg [aN k,.str t,aN v,aN c,aN d]),(14,aN e)],[some [.sl true 5 L],some [aN f],some [aN g],some [aN h],some [aN a],some [aN start],some [aN b],some [aN i,.str j,aN l,aN m,aN n]]⟩=K .normal ⟨[(2,.ptr 0 0),(3,.ptr 1 0),(4,.ptr 2 0),(5,.ptr 3 0),(6,.ptr 8 0),(7,aN e),(13,.agg [aN k,.str t,aN v,aN c,aN d]),(14,aN e)],[some [.sl true 5 L],some [aN f],some [aN g],some [aN h],some [aN a],some [aN start],some [aN b],some [aN i,.str j,aN l,aN m,aN n],some [aN k,.str t,aN v,aN c,aN d]]⟩:=by kernel_rfl
def aEA (L:ai) (l m n a start d f:Int) (g:ByteArray) (h i j k:Int) (t:ByteArray) (v b c e:Int):ASt:=⟨[(2,.ptr 0 0),(3,.ptr 1 0),(4,.ptr 2 0),(5,.ptr 3 0),(6,.ptr 8 0),(7,aN e),(13,.agg [aN k,.str t,aN v,aN b,aN c]),(14,aN e),(17,.ptr 8 3),(18,aN b),(19,.ptr 8 4),(20,aN c),(21,aN e)],[some [.sl true 0 []],some [aN b],some [aN c],some [aN e],some [aN a],some [aN start],some [aN d],some [aN f,.str g,aN h,aN i,aN j],some [aN k,.str t,aN v,aN b,aN c]]⟩
def aEC (L:ai) (f g h c start d i:Int) (j:ByteArray) (l m n k:Int) (t:ByteArray) (v a b e:Int):ASt:=⟨[(2,.ptr 0 0),(3,.ptr 1 0),(4,.ptr 2 0),(5,.ptr 3 0),(6,.ptr 8 0),(7,aN e),(13,.agg [aN k,.str t,aN v,aN a,aN b]),(14,aN e),(22,.sl false 5 L),(23,.agg [aN k,.str t,aN v,aN a,aN b]),(24,.sl true 5 [.agg [aN k,.str t,aN v,aN a,aN b]]),(25,.sl false 5 (L ++ [.agg [aN k,.str t,aN v,aN a,aN b]]))],[some [.sl true 5 (L ++ [.agg [aN k,.str t,aN v,aN a,aN b]])],some [aN f],some [aN g],some [aN h],some [aN c],some [aN start],some [aN d],some [aN i,.str j,aN l,aN m,aN n],some [aN k,.str t,aN v,aN a,aN b]]⟩
theorem aWR (K:AX->ASt->R) (L:ai) (f g h a start b i:Int) (j:ByteArray) (l m n k:Int) (t:ByteArray) (v c d e:Int):bC (SS.xe SS.CC SS.LL mY 8) Bq K ⟨[(2,.ptr 0 0),(3,.ptr 1 0),(4,.ptr 2 0),(5,.ptr 3 0),(6,.ptr 8 0),(7,aN e),(13,.agg [aN k,.str t,aN v,aN c,aN d]),(14,aN e)],[some [.sl true 5 L],some [aN f],some [aN g],some [aN h],some [aN a],some [aN start],some [aN b],some [aN i,.str j,aN l,aN m,aN n],some [aN k,.str t,aN v,aN c,aN d]]⟩=aB (e != 0) (K .ret (aEA L f g h a start b i j l m n k t v c d e)) (b_ (decide (L.length+1<=aO)) (K .normal (aEC L f g h a start b i j l m n k t v c d e))) :=(show bC (SS.xe SS.CC SS.LL mY 8) Bq K ⟨[(2,.ptr 0 0),(3,.ptr 1 0),(4,.ptr 2 0),(5,.ptr 3 0),(6,.ptr 8 0),(7,aN e),(13,.agg [aN k,.str t,aN v,aN c,aN d]),(14,aN e)],[some [.sl true 5 L],some [aN f],some [aN g],some [aN h],some [aN a],some [aN start],some [aN b],some [aN i,.str j,aN l,aN m,aN n],some [aN k,.str t,aN v,aN c,aN d]]⟩=bC aC8 aC9 K ⟨[(2,.ptr 0 0),(3,.ptr 1 0),(4,.ptr 2 0),(5,.ptr 3 0),(6,.ptr 8 0),(7,aN e),(13,.agg [aN k,.str t,aN v,aN c,aN d]),(14,aN e)],[some [.sl true 5 L],some [aN f],some [aN g],some [aN h],some [aN a],some [aN start],some [aN b],some [aN i,.str j,aN l,aN m,aN n],some [aN k,.str t,aN v,aN c,aN d]]⟩ from by kernel_rfl).trans (bUV 0 K e k t v c d L f g h a start b i j l m n)
theorem bZ8 (L:ai) (d f g a start b i:Int) (j:ByteArray) (l m n k:Int) (t:ByteArray) (v o p e:Int) (w:L.length+1<=aO):eu mY 8 Fg (Eo (eu mY 8 Bq fun q c=>if e=0 then q = .normal/\c=aEC L d f g a start b i j l m n k t v o p e else q = .ret/\c=aEA L d f g a start b i j l m n k t v o p e) fun _ _=>False) ⟨[(2,.ptr 0 0),(3,.ptr 1 0),(4,.ptr 2 0),(5,.ptr 3 0),(13,.agg [aN k,.str t,aN v,aN o,aN p]),(14,aN e)],[some [.sl true 5 L],some [aN d],some [aN f],some [aN g],some [aN a],some [aN start],some [aN b],some [aN i,.str j,aN l,aN m,aN n]]⟩:=by
 have r:pU (SS.xe SS.CC SS.LL mY 8).E.P (SS.xe SS.CC SS.LL mY 8).C:=Ox Dj fD GK;have u:Jh (SS.xe SS.CC SS.LL mY 8):=Y1 Dj fD GK rfl;refine yw Fg (fun q c h => ?_) (Jw (X:=(SS.xe SS.CC SS.LL mY 8)) fD.V fD.W r u fun K=>bZ6 K L d f g a start b i j l m n k t v o p e);obtain ⟨rfl,rfl⟩:=h;show eu mY 8 Bq _ _;by_cases he:e=0
 .simp only[ah he];refine Jw (X:=(SS.xe SS.CC SS.LL mY 8)) fD.V fD.W r u fun K => ?_
  rw[aWR,show (e != 0)=false by simp[he],aF,aQ (by grind)]
 .simp only[aV he];refine Jw (X:=(SS.xe SS.CC SS.LL mY 8)) fD.V fD.W r u fun K => ?_
  rw[aWR,show (e != 0)=true by simp[he],aI]
noncomputable def bW3:Code:=rU Tryz.f230
def bW2:AE:=SS.ae 230 86
def aVB:XE:=SS.xe SS.CC SS.LL bW2 8
def Wi:Code:=Code.sub [false,true,true,false,false,false,true,true,true,true,true,true,true,true,false,false] bW3
theorem bW4 (l:Nat) (K:AX->ASt->R) (s:ByteArray) (e:Int) (L:ai) (g h i c start d k:Int) (t:ByteArray) (v a b:Int):kS aVB false (j_ Wi) (((j_ Wi).toList.drop 0).take 5) (K .normal) ⟨[(0,.func (.yield l) [] []),(1,.cst (.str s)),(3,.ptr 4 0),(4,.ptr 5 0),(5,.ptr 6 0),(8,.func (.func 232) [] [.ptr 4 0,.ptr 6 0,.ptr 5 0]),(12,.ptr 7 0),(13,aN e)],[some [.sl true 5 L],some [aN g],some [aN h],some [aN i],some [aN c],some [aN start],some [aN d],some [aN k,.str t,aN v,aN a,aN b]]⟩=BL SS.CC 232 [.agg [aN k,.str t,aN v,aN a,aN b],.ptr 0 0,.ptr 1 0,.ptr 2 0] [some [aN c],some [aN d],some [aN start]] fun j f=>NF j f fun m n o p q r u w=>K .normal ⟨[(0,.func (.yield l) [] []),(1,.cst (.str s)),(3,.ptr 4 0),(4,.ptr 5 0),(5,.ptr 6 0),(8,.func (.func 232) [] [.ptr 4 0,.ptr 6 0,.ptr 5 0]),(12,.ptr 7 0),(13,aN e),(70,.func (.yield l) [] []),(71,.func (.func 232) [] [.ptr 4 0,.ptr 6 0,.ptr 5 0]),(72,.agg [aN k,.str t,aN v,aN a,aN b]),(73,.agg [aN m,.str n,aN o,aN p,aN q]),(74,aN e)],[some [.sl true 5 L],some [aN g],some [aN h],some [aN i],some [aN r],some [aN w],some [aN u],some [aN k,.str t,aN v,aN a,aN b]]⟩:=by kernel_rfl
noncomputable def bW7:Code:=rU Tryz.f230
def bW5:AE:=SS.ae 230 86
def bW6:XE:=SS.xe SS.CC SS.LL bW5 8
def bW8:Code:=Code.sub [false,true,true,false,false,false,true,true,true,true,true,true,true,true,true,false] bW7
theorem bW9 (l:Nat) (K:AX->ASt->R) (s:ByteArray) (L:ai) (e f g d start c k:Int) (t:ByteArray) (v a b:Int):bC bW6 bW8 K ⟨[(0,.func (.yield l) [] []),(1,.cst (.str s)),(3,.ptr 4 0),(4,.ptr 5 0),(5,.ptr 6 0),(12,.ptr 7 0)],[some [.sl true 5 L],some [aN e],some [aN f],some [aN g],some [aN d],some [aN start],some [aN c],some [aN k,.str t,aN v,aN a,aN b]]⟩=K .normal ⟨[(0,.func (.yield l) [] []),(1,.cst (.str s)),(3,.ptr 4 0),(4,.ptr 5 0),(5,.ptr 6 0),(12,.ptr 7 0),(81,aN c),(82,.ptr 7 1),(83,.str t),(84,aN (t.size:Int)),(85,aN (i64.wrap (c+(t.size:Int))))],[some [.sl true 5 L],some [aN e],some [aN f],some [aN g],some [aN d],some [aN start],some [aN (i64.wrap (c+(t.size:Int)))],some [aN k,.str t,aN v,aN a,aN b]]⟩:=by kernel_rfl
def k:Code:=Code.sub [] ik
def k0:Code:=Code.sub [false] ik
def k00:Code:=Code.sub [false,false] ik
def k01:Code:=Code.sub [false,true] ik
def aR2:Code:=Code.sub [false,true,false] ik
theorem bQ5:aR2 = .label 0:=by kernel_rfl
def aAA:Code:=Code.sub [false,true,true] ik
def aR3:Code:=Code.sub [false,true,true,false] ik
def NK:Code:=Code.sub [false,true,true,false,false] ik
def aAB:Code:=Code.sub [false,true,true,false,false,false] ik
def bQ6:Code:=Code.sub [false,true,true,false,false,false,false] ik
def U_:Code:=Code.sub [false,true,true,false,false,false,true] ik
def bQ7:Code:=Code.sub [false,true,true,false,false,false,true,false] ik
def a2M:Code:=Code.sub [false,true,true,false,false,false,true,true] ik
def bQ8:Code:=Code.sub [false,true,true,false,false,false,true,true,false] ik
def Zj:Code:=Code.sub [false,true,true,false,false,false,true,true,true] ik
def bQ9:Code:=Code.sub [false,true,true,false,false,false,true,true,true,false] ik
def Qs:Code:=Code.sub [false,true,true,false,false,false,true,true,true,true] ik
def aR4:Code:=Code.sub [false,true,true,false,false,false,true,true,true,true,false] ik
def bQA:Code:=Code.sub [false,true,true,false,false,false,true,true,true,true,false,false] ik
def W_:Code:=Code.sub [false,true,true,false,false,false,true,true,true,true,false,true] ik
def aR5:Code:=Code.sub [false,true,true,false,false,false,true,true,true,true,false,true,false] ik
def NL:Code:=Code.sub [false,true,true,false,false,false,true,true,true,true,false,true,false,false] ik
theorem bQG:NL = .region 10 (j_ NL) false:=by kernel_rfl
def aAD:Code:=Code.sub [false,true,true,false,false,false,true,true,true,true,false,true,false,true] ik
theorem bQH:aAD = .ret:=by kernel_rfl
theorem bQI:aR5 = .seq NL aAD:=by kernel_rfl
def aR6:Code:=Code.sub [false,true,true,false,false,false,true,true,true,true,false,true,true] ik
theorem bQJ:aR6 = .skip:=by kernel_rfl
theorem aR7:W_ = .cond (.tmp 41) aR5 aR6:=by kernel_rfl
theorem aR8:aR4 = .seq bQA W_:=by kernel_rfl
def a2Q:Code:=Code.sub [false,true,true,false,false,false,true,true,true,true,true] ik
def bQK:Code:=Code.sub [false,true,true,false,false,false,true,true,true,true,true,false] ik
def aAE:Code:=Code.sub [false,true,true,false,false,false,true,true,true,true,true,true] ik
def bQL:Code:=Code.sub [false,true,true,false,false,false,true,true,true,true,true,true,false] ik
def aAF:Code:=Code.sub [false,true,true,false,false,false,true,true,true,true,true,true,true] ik
def aR9:Code:=Code.sub [false,true,true,false,false,false,true,true,true,true,true,true,true,false] ik
def aAG:Code:=Code.sub [false,true,true,false,false,false,true,true,true,true,true,true,true,true] ik
def aRA:Code:=Code.sub [false,true,true,false,false,false,true,true,true,true,true,true,true,true,false] ik
def y9:Code:=Code.sub [false,true,true,false,false,false,true,true,true,true,true,true,true,true,false,false] ik
theorem bQR:y9 = .region 19 (j_ y9) false:=by kernel_rfl
def a2S:Code:=Code.sub [false,true,true,false,false,false,true,true,true,true,true,true,true,true,false,true] ik
def aRB:Code:=Code.sub [false,true,true,false,false,false,true,true,true,true,true,true,true,true,false,true,false] ik
theorem bQS:aRB = .ret:=by kernel_rfl
def aRC:Code:=Code.sub [false,true,true,false,false,false,true,true,true,true,true,true,true,true,false,true,true] ik
theorem bQT:aRC = .skip:=by kernel_rfl
theorem aRD:a2S = .cond (.tmp 80) aRB aRC:=by kernel_rfl
theorem bQU:aRA = .seq y9 a2S:=by kernel_rfl
def aAI:Code:=Code.sub [false,true,true,false,false,false,true,true,true,true,true,true,true,true,true] ik
def bQV:Code:=Code.sub [false,true,true,false,false,false,true,true,true,true,true,true,true,true,true,false] ik
def aAJ:Code:=Code.sub [false,true,true,false,false,false,true,true,true,true,true,true,true,true,true,true] ik
theorem bQW:aAJ = .exit 1:=by kernel_rfl
theorem bQX:aAI = .seq bQV aAJ:=by kernel_rfl
theorem bQY:aAG = .seq aRA aAI:=by kernel_rfl
theorem bQZ:aAF = .seq aR9 aAG:=by kernel_rfl
theorem bQ':aAE = .seq bQL aAF:=by kernel_rfl
theorem bR0:a2Q = .seq bQK aAE:=by kernel_rfl
theorem aRE:Qs = .seq aR4 a2Q:=by kernel_rfl
theorem bR3:Zj = .seq bQ9 Qs:=by kernel_rfl
theorem bR4:a2M = .seq bQ8 Zj:=by kernel_rfl
theorem bR5:U_ = .seq bQ7 a2M:=by kernel_rfl
theorem bR6:aAB = .seq bQ6 U_:=by kernel_rfl
theorem aAK:NK = .block 1 aAB:=by kernel_rfl
theorem bR7:aR3 = .loop NK:=by kernel_rfl
theorem bR8:aAA = .block 0 aR3:=by kernel_rfl
theorem bR9:k01 = .seq aR2 aAA:=by kernel_rfl
theorem bRA:k0 = .seq k00 k01:=by kernel_rfl
theorem bRB:k = .scope k0:=by kernel_rfl
def a2P:Oper:=(j_ NL)[4]!
def aAC:Call:=match a2P.op with | .call c=>c | _=>default
theorem bQB:a2P.op = .call aAC:=by kernel_rfl
theorem bQC:a2P.guard=none:=by kernel_rfl
theorem bQD:aAC.callee = .value (.tmp 42):=by kernel_rfl
theorem bQE:aAC.args = #[(.tmp 45),(.const (.int .i64 0))]:=by kernel_rfl
theorem bQF:(j_ NL).toList=((j_ NL).toList.drop 0).take 4 ++ a2P::((j_ NL).toList.drop 5).take 5:=by kernel_rfl
def a2R:Oper:=(j_ y9)[5]!
def aAH:Call:=match a2R.op with | .call c=>c | _=>default
theorem bQM:a2R.op = .call aAH:=by kernel_rfl
theorem bQN:a2R.guard=none:=by kernel_rfl
theorem bQO:aAH.callee = .value (.tmp 70):=by kernel_rfl
theorem bQP:aAH.args = #[(.tmp 73),(.tmp 74)]:=by kernel_rfl
theorem bQQ:(j_ y9).toList=((j_ y9).toList.drop 0).take 5 ++ a2R::((j_ y9).toList.drop 6).take 5:=by kernel_rfl
def uN:f_->Nat->Nat×Nat->Nat×Nat
 | [],_,p=>p
 | b::l,i,p=>uN l (i+1) (if b=10 then (p.1+1,i+1) else p)
def dh (l:f_):Tok×Int:=match l with
 | []=>EH []
 | b::l=>if gm b.toNat then Be (b::l) else if kJ b.toNat then CB (b::l) else EH (b::l)
inductive J6 where
 | ok (ts:List Tok)
 | err (line sN e:Int)
def Tok.at (t:Tok) (line sN:Int):Tok := { t with line:=line,sN:=sN }
def tJ:Nat->f_->Nat->Nat->Nat->List Tok->J6
 | 0,_,_,_,_,_ => .err 0 0 0
 | f+1,a,i,c,start,dC =>
  let g:=jF false a
  let p:=uN (a.take g) i (c,start)
  match a.drop g with
  | [] => .ok (dC ++ [(⟨4,[],0,(p.1:Nat),((i+g-p.2+1:Nat):Int)⟩:Tok)])
  | b::r =>
   if (dh (b::r)).2=0 then tJ f ((b::r).drop (dh (b::r)).1.text.length) (i+g+(dh (b::r)).1.text.length) p.1 p.2 (dC ++ [(dh (b::r)).1.at (p.1:Nat) ((i+g-p.2+1:Nat):Int)])
   else .err (p.1:Nat) ((i+g-p.2+1:Nat):Int) (dh (b::r)).2
theorem SA:∀ (c:Bool) (l:f_),jF c l<=l.length
 | _,[]=>by cases ‹Bool› <;> simp[jF]
 | true,b::l=>by have a:=SA false l;have d:=SA true l;rw[jF]; split<;>simp<;>omega
 | false,b::l=>by have a:=SA false l;have d:=SA true l;rw[jF]; grind
theorem aBP:∀ (l:f_) (i:Nat) (p:Nat×Nat),p.2<=i->(uN l i p).2<=i+l.length/\p.1<=(uN l i p).1/\(uN l i p).1<=p.1+l.length
 | [],i,p,h=>by simp[uN,h]
 | b::l,i,p,h=>by
  rw[uN];split
  .have:=aBP l (i+1) (p.1+1,i+1) (by simp);simp only[bT] at *; omega
  .have:=aBP l (i+1) p (by omega);simp only[bT]; omega
variable {a:f_}
theorem bYM {p:Nat->Bool} {b:UInt8} (h:p b.toNat=true):0<(dJ p (b::a)).length:=by grind [dJ,List.takeWhile_cons]
theorem a5F {x:f_} (h:Fv a=some x):x∈kM/\x.isPrefixOf a=true:=by grind [Fv]
theorem aEL:∀ x∈kM,0<x.length/\x.length<=2:=by decide
theorem Ny {b:UInt8} {r:f_} (h:(dh (b::r)).2=0):0<(dh (b::r)).1.text.length/\(dh (b::r)).1.text.length<=(b::r).length:=by rw[show dh (b::r)=if gm b.toNat then Be (b::r) else if kJ b.toNat then CB (b::r) else EH (b::r) from rfl] at h ⊢;grind [bYM,aWA,Be,jB,CB,EH,Fv,aEL]
def je (l:Nat) (b:Loop) (a:Nat->Nat):YC:=⟨Nl,mY,l,7,b,a,[(2,.ptr 0 0),(3,.ptr 1 0),(4,.ptr 2 0),(5,.ptr 3 0)]⟩
structure PP (rc:Loop):Prop where
 par:rc.params = #[13,14]
 YO:rc.assign=Fg
 Ya:rc.body=Bq
 tm:rc.tmps.size=27
variable {n:Nat} {d:Nat->Nat}
theorem a6T {a:Loop} (b:1<=d n):(je n a d).OK:=⟨Dj,rfl,b⟩
section
variable {l:Nat} {rc:Loop} {out:Nat->Nat} {e:ASt}
theorem pc (a:1<=out l) {c:Code} {Q:AX->ASt->AX->Prop} {j ax:AX} {σt:ASt} (h:∀ K,bC Bh c K e=K ax σt) (hq:Q ax σt j):Tr (je l rc out) c Q j e :=Tr.aBV (a6T a) (Jw (X:=Bh) fD.V fD.W (Ox Dj fD GK) (Y1 Dj fD GK rfl) h) (by simp_all)
theorem XU {b:Array Oper} {c:List Oper} {σt:ASt} (h:∀ K:ASt->R,kS Bh false b c K e=K σt):mV Nl b c (fun a=>a=σt) e:=by
 have d:kS Bh false b c (fun a=>Rf .normal σt .normal a) e=some (.nilp,[]):=by rw[h]; simp[Rf]
 refine Ee (fun a he => ?_) _ (UU (X:=Bh) fD.V fD.W (Ox Dj fD GK) c d);grind [Rf]
end
abbrev qp (l:Nat) (s:ByteArray) (t:gV):gV:=(0,.func (.yield l) [] [])::(1,.cst (.str s))::(3,.ptr 4 0)::(4,.ptr 5 0)::(5,.ptr 6 0)::t
variable {m:Nat}
theorem uo {a:Type} {l:List a} (h:n<l.length):(l.drop n).take (m+1)=l[n]::(l.drop (n+1)).take m:=by rw[EO h,List.take_succ_cons]
theorem bSN (l:Nat) (K:AX->ASt->R) (a:f_) (L:ai) (j n o:Int) (c g:Nat) (t:c+g<=a.length) (u:a.length<=1000000):∀ (m i d start:Nat),i+m=c+g->d<=i+1 ->
 Ws l K (bs a) (g:Int) (i:Int) L j n o (d:Int) (start:Int) (c:Int) =
  K .normal ⟨qp l (bs a) [(6,aN (g:Int)),(7,aN ((c+g:Nat):Int)),(19,aN ((c+g:Nat):Int)),(20,aN (c:Int)),(21,aN (g:Int)),(22,aN ((c+g:Nat):Int)),(23,.bool false)],
   lQ L j n o ((uN ((a.drop i).take m) i (d,start)).1:Nat) ((uN ((a.drop i).take m) i (d,start)).2:Nat) (c:Int)⟩:=by
 have p:i64.wrap ((c:Int)+(g:Int))=((c+g:Nat):Int):=by rw[wrap64 (by omega) (by omega)]; omega
 intro m;induction m with
 | zero =>
  intro i d start q r;rw[aV7,p,bG (by omega),aF,List.take_zero];have:i=c+g:=by omega
  subst this;rfl
 | succ m v =>
  intro i d start q r;have f:i<a.length:=by omega
  rw[aV7,p,aP (by omega),aI,Gl (b:=a[i]) (by omega) (by rw[JF]; simp[f]),show ((a[i].toNat:Int)==10)=(a[i].toNat==10) from MI _ 10,bU (by omega),bU (by omega),uo f,uN];by_cases h:a[i]=10
  .rw[h,show ((10:UInt8).toNat==10)=true from rfl,aI,ah rfl];grind
  .have:(a[i].toNat==10)=false:=by rw[zn]; intro e; exact h (UInt8.toNat_inj.1 (by rw[e]; rfl))
   rw[this,aF,aV h];grind
def Rt (b:UInt8):Nat:=if gm b.toNat then 270 else if kJ b.toNat then 268 else 233
theorem bYL (l:Nat) (K:AX->ASt->R) (a:f_) (L:ai) (d e f c start:Int) (b:Nat) (h:b<a.length) :
 bC Bh aCA K ⟨qp l (bs a) [(8,nS),(9,.func (.func 233) [] [])],lQ L d e f c start (b:Int)⟩=K .normal ⟨qp l (bs a) [(8,nS),(9,.func (.func (Rt a[b])) [] []),(47,.sl false 2 RL),(48,aN (RL.length:Int)),(49,aN 2),(50,.bool false)],lQ L d e f c start (b:Int)⟩:=by
 have g:((bs a)[(b:Int).toNat]? : Option UInt8)=some a[b]:=by rw[qf,JF]; simp[h]
 rw[a'K,a'H,Gl (by omega) g,qw (c78 _),Aw];grind [Rt,kJ,aF,a'I,Gl,qw,c80,Aw,a'J,aI]
theorem Yd (a:f_) (i:Nat):(bs a).extract i (bs a).size=bs (a.drop i):=by rw[nR,UI,TF (by simp)]
section
variable {l:Nat} {rc:Loop} {out:Nat->Nat} {L:ai} {f g h:Int} {Q:AX->ASt->AX->Prop}
theorem aCG (e:1<=out l) {i b d start:Nat} (o:a.length<=1000000) (t:i<=a.length) (q:d<=i+1) (n:jF false (a.drop i)=b)
 (c:Tr (je l rc out) Qs Q .normal ⟨qp l (bs a) [(8,nS)],lQ L f g h ((uN ((a.drop i).take b) i (d,start)).1:Nat) ((uN ((a.drop i).take b) i (d,start)).2:Nat) ((i+b:Nat):Int)⟩) :
 Tr (je l rc out) aAB Q .normal ⟨qp l (bs a) [],lQ L f g h (d:Int) (start:Int) (i:Int)⟩:=by
 have j:=SA false (a.drop i);rw[n,xR] at j;generalize r:uN ((a.drop i).take b) i (d,start)=p at c;rw[bR6];refine Tr.seq (pc (σt:=⟨qp l (bs a) [(6,aN (b:Int)),(14,.str (bs a)),(15,aN (i:Int)),(16,.str (bs (a.drop i))),(17,aN (b:Int))],lQ L f g h d start i⟩) (ax := .normal) e (fun K => ?_) ?_)
 .refine (bUX l K (bs a) L f g h d start i).trans ?_;rw[aQ (by rw[nR]; simp; omega),qf,Yd,qw (c59 (a.drop i) (by simp; omega)),zU,n]
 show Tr (je l rc out) U_ Q .normal _;refine Tr.gc (l := [0,1,3,4,5,6]) (m:=7) (dG _) rfl ?_;show Tr (je l rc out) U_ Q .normal ⟨qp l (bs a) [(6,aN (b:Int))],lQ L f g h d start i⟩;rw[bR5];refine Tr.seq (pc (σt:=⟨qp l (bs a) [(6,aN (b:Int)),(7,aN ((i+b:Nat):Int)),(19,aN ((i+b:Nat):Int)),(20,aN (i:Int)),(21,aN (b:Int)),(22,aN ((i+b:Nat):Int)),(23,.bool false)],lQ L f g h (p.1:Nat) (p.2:Nat) i⟩) (ax := .normal) e (fun K => ?_) ?_)
 .refine (bV1 l K (bs a) b L f g h d start i).trans ?_;rw[bSN l K a L f g h i b (by omega) o b i d start rfl q,r]
 show Tr (je l rc out) a2M Q .normal _;refine Tr.gc (l := [0,1,3,4,5,6]) (m:=7) (dG _) rfl ?_;show Tr (je l rc out) a2M Q .normal ⟨qp l (bs a) [(6,aN (b:Int))],lQ L f g h (p.1:Nat) (p.2:Nat) i⟩;rw[bR4];refine Tr.seq (pc (ax := .normal) e (fun K=>bV6 l K (bs a) b L f g h (p.1:Nat) (p.2:Nat) i) ?_);show Tr (je l rc out) Zj Q .normal _;refine Tr.gc (l := [0,1,3,4,5]) (m:=7) (dG _) rfl ?_;rw[show i64.wrap ((i:Int)+(b:Int))=((i+b:Nat):Int) by rw[wrap64 (by omega) (by omega)]; omega];show Tr (je l rc out) Zj Q .normal ⟨qp l (bs a) [],lQ L f g h (p.1:Nat) (p.2:Nat) ((i+b:Nat):Int)⟩;rw[bR3];refine Tr.seq (pc (ax := .normal) e (fun K=>bVB l K (bs a) L f g h (p.1:Nat) (p.2:Nat) ((i+b:Nat):Int)) ?_);show Tr (je l rc out) Qs Q .normal _;exact Tr.gc (l := [0,1,3,4,5,8]) (m:=7) (dG _) rfl c
theorem aII {i start:Nat} (a:start<=i) (b:i<=1000000):i64.wrap (i64.wrap ((i:Int)-(start:Int))+1)=((i-start+1:Nat):Int):=by rw[wrap64 (n:=(i:Int)-start) (by omega) (by omega),wrap64 (by omega) (by omega)]; omega
theorem b3G (o:1<=out l) (e:PP rc) {i d start:Nat} (w:a.length<=1000000) (q:i=a.length) (r:start<=i) (t:L.length+1<=aO)
 (c:∀ p,p.h.take 4 = [some [.sl true 5 (L ++ [bI ⟨4,[],0,(d:Int),((i-start+1:Nat):Int)⟩])],some [aN f],some [aN g],some [aN h]]->Q .ret p .normal) :
 Tr (je l rc out) Qs Q .normal ⟨qp l (bs a) [(8,nS)],lQ L f g h (d:Int) (start:Int) (i:Int)⟩:=by
 rw[aRE];refine Tr.seq ?_;rw[aR8];refine Tr.seq (pc (ax := .normal) o (fun K=>aV9 l K (bs a) L f g h d start i) ?_);show Tr (je l rc out) W_ _ .normal _;rw[show ((i:Int)==((bs a).size:Int))=true by rw[nR,q]; simp,aR7];refine Tr.cond (b:=true) rfl (fun _ => ?_) (fun c=>by cases c);rw[bQI];refine Tr.seq ?_;rw[bQG];refine Tr.gc (l := [0,1,3,4,5,8]) (m:=7) (dG _) rfl ?_;refine Tr.yield (a6T o) bQF bQB bQC bQD bQE e.par (by decide) (show 14<27 by decide) ?_ ?_ e.tm (by show pq rc.assign=true; rw[e.YO]; exact aWS) (by show pq rc.body=true; rw[e.Ya]; exact aWT) ?_;grind [je]
 .simp[ji,je]
 .refine Ee (fun u n => ?_) _ (XU (σt:=⟨qp l (bs a) [(8,nS),(42,.func (.yield l) [] []),(43,nS),(44,.agg [aN 4,.str ⟨#[]⟩,aN 0,aN 0,aN 0]),(45,.agg [aN 4,.str ⟨#[]⟩,aN 0,aN (d:Int),aN ((i-start+1:Nat):Int)])],lQ L f g h d start i⟩) fun K => ?_)
  .subst n;have v:=bZ7 L f g h d start i 4 ⟨#[]⟩ 0 d ((i-start+1:Nat):Int) 0 t;refine ⟨.agg [aN 4,.str ⟨#[]⟩,aN 0,aN (d:Int),aN ((i-start+1:Nat):Int)],aN 0,fun ax j=>if (0:Int)=0 then ax = .normal/\j=aEB L f g h d start i 4 ⟨#[]⟩ 0 d ((i-start+1:Nat):Int) 0 else ax = .ret/\j=aE9 L f g h d start i 4 ⟨#[]⟩ 0 d ((i-start+1:Nat):Int) 0,rfl,rfl,rfl,dG _,?_,?_⟩
   .show eu mY 7 rc.assign (Eo (eu mY 7 rc.body _) fun _ _=>False) _;rw[e.YO,e.Ya];exact v
   .intro ax j hq;rw[ah rfl] at hq;obtain ⟨rfl,rfl⟩:=hq;refine ⟨rfl,?_⟩;show Tr (je l rc out) aAD _ .normal _;rw[bQH];exact Tr.ret (c _ rfl)
  .refine Eq.trans (b:=kS aVA false (j_ Xh) (((j_ Xh).toList.drop 0).take 4) K ⟨qp l (bs a) [(8,nS)],lQ L f g h d start i⟩) rfl ?_;refine (bVI l (fun _=>K) (bs a) L f g h d start i).trans ?_;unfold BL;rw[aM1,aII r (by omega)];rfl
end
abbrev h6 (t:Tok):ai := [aN t.kind,.str (bs t.text),aN t.value,aN t.line,aN t.sN]
theorem bXN (l:Nat) (K:AX->ASt->R) (a:f_) (L:ai) (c d f b start:Int) (i:Nat) (h:i<a.length) (p:a.length<=1000000) :
 bC Bh aR9 K ⟨qp l (bs a) [(8,nS),(9,.func (.func (Rt a[i])) [] [])],lQ L c d f b start (i:Int)⟩ =
  K .normal ⟨qp l (bs a) [(8,nS),(9,.func (.func (Rt a[i])) [] []),(12,.ptr 7 0),(13,aN (dh (a.drop i)).2),(62,rd (dh (a.drop i))),(63,.func (.func (Rt a[i])) [] []),(64,.str (bs a)),(65,aN (i:Int)),(66,.str (bs (a.drop i))),(67,rd (dh (a.drop i))),(68,bI (dh (a.drop i)).1),(69,aN (dh (a.drop i)).2)],
   lQ L c d f b start (i:Int) ++ [some (h6 (dh (a.drop i)).1)]⟩:=by
 have e:a.drop i=a[i]::a.drop (i+1):=EO h;have j:(decide (0<=(i:Int))&&decide ((i:Int)<=((bs a).size:Int)))=true:=by rw[nR]; simp; omega
 have n:(a.drop i).length<=1000000:=by simp; omega
 unfold Rt;cases m:gm a[i].toNat with
 | true =>
  have g:dh (a.drop i)=Be (a.drop i):=by rw[e]; simp[dh,m]
  refine (bW1 l K (bs a) L c d f b start i).trans ?_;rw[aQ j,qf,Yd,qw (c81 _ n),g];rfl
 | false =>
  cases o:kJ a[i].toNat with
  | true =>
   have g:dh (a.drop i)=CB (a.drop i):=by rw[e]; simp[dh,m,o]
   refine (bVX l K (bs a) L c d f b start i).trans ?_;rw[aQ j,qf,Yd,qw (c79 _ n),g];rfl
  | false =>
   have g:dh (a.drop i)=EH (a.drop i):=by rw[e]; simp[dh,m,o]
   refine (bVS l K (bs a) L c d f b start i).trans ?_;rw[aQ j,qf,Yd,qw (c61 _),g];rfl
theorem bX7 (l:Nat) (K:ASt->R) (s:ByteArray) (tk a:PV) (h:aH):kS Bh false (j_ y9) (((j_ y9).toList.drop 6).take 5) K ⟨qp l s [(8,nS),(12,.ptr 7 0),(13,aN 0),(70,.func (.yield l) [] []),(71,nS),(72,tk),(73,a),(74,aN 0),(75,.bool true)],h⟩=K ⟨qp l s [(8,nS),(12,.ptr 7 0),(13,aN 0),(70,.func (.yield l) [] []),(71,nS),(72,tk),(73,a),(74,aN 0),(75,.bool true),(76,.bool false),(77,.bool false),(78,aN 0),(79,.bool false),(80,.bool false)],h⟩:=by kernel_rfl
theorem bX6 (l:Nat) (K:ASt->R) (s:ByteArray) (e:Int) (tk a:PV) (h:aH):kS Bh false (j_ y9) (((j_ y9).toList.drop 6).take 5) K ⟨qp l s [(8,nS),(12,.ptr 7 0),(13,aN e),(70,.func (.yield l) [] []),(71,nS),(72,tk),(73,a),(74,aN e),(75,.bool false)],h⟩=K ⟨qp l s [(8,nS),(12,.ptr 7 0),(13,aN e),(70,.func (.yield l) [] []),(71,nS),(72,tk),(73,a),(74,aN e),(75,.bool false),(76,.bool true),(77,.bool true),(78,.tuple []),(79,.tuple []),(80,.bool true)],h⟩:=by kernel_rfl
section
variable {l:Nat} {rc:Loop} {out:Nat->Nat}
theorem aY8 (t:1<=out l) (o:PP rc) {L:ai} {d f g:Int} {i c start:Nat} {Q:AX->ASt->AX->Prop} (y:a.length<=1000000) (x:i<a.length) (z:start<=i) (A:L.length+1<=aO)
 (B:(dh (a.drop i)).2=0->∀ u,F7 [0,1,3,4,5] 7 u=true->u.gc [0,1,3,4,5] 7=⟨qp l (bs a) [],lQ (L ++ [bI ((dh (a.drop i)).1.at (c:Int) ((i-start+1:Nat):Int))]) d f g c start (i64.wrap ((i:Int)+((dh (a.drop i)).1.text.length:Int)))⟩->Q (.exit 1) u .normal)
 (C:(dh (a.drop i)).2≠0->∀ u,u.h.take 4 = [some [.sl true 0 []],some [aN (c:Int)],some [aN ((i-start+1:Nat):Int)],some [aN (dh (a.drop i)).2]]->Q .ret u .ret) :
 Tr (je l rc out) Qs Q .normal ⟨qp l (bs a) [(8,nS)],lQ L d f g (c:Int) (start:Int) (i:Int)⟩:=by
 rw[aRE];refine Tr.seq ?_;rw[aR8];refine Tr.seq (pc (ax := .normal) t (fun K=>aV9 l K (bs a) L d f g c start i) ?_);show Tr (je l rc out) W_ _ .normal _;rw[show ((i:Int)==((bs a).size:Int))=false by rw[nR,zn]; omega,aR7];refine Tr.cond (b:=false) rfl (fun h=>by cases h) (fun _ => ?_);rw[bQJ];refine Tr.skip ?_;show Tr (je l rc out) a2Q Q .normal _;refine Tr.gc (l := [0,1,3,4,5,8]) (m:=7) (dG _) rfl ?_;show Tr (je l rc out) a2Q Q .normal ⟨qp l (bs a) [(8,nS)],lQ L d f g (c:Int) (start:Int) (i:Int)⟩;rw[bR0];refine Tr.seq (pc (ax := .normal) t (fun K=>bVN l K (bs a) L d f g c start i) ?_);show Tr (je l rc out) aAE Q .normal _;rw[bQ'];refine Tr.seq (pc (ax := .normal) t (fun K=>bYL l K a L d f g c start i x) ?_);show Tr (je l rc out) aAF Q .normal _;refine Tr.gc (l := [0,1,3,4,5,8,9]) (m:=7) (dG _) rfl ?_;rw[bQZ];refine Tr.seq (pc (ax := .normal) t (fun K=>bXN l K a L d f g c start i x y) ?_);generalize dh (a.drop i)=te at *;obtain ⟨⟨tk,j,n,tl,q⟩,e⟩:=te;show Tr (je l rc out) aAG Q .normal _;refine Tr.gc (l := [0,1,3,4,5,8,12,13]) (m:=8) (show 7<=8 by decide) rfl ?_;rw[bQY];refine Tr.seq ?_;rw[bQU];refine Tr.seq ?_;rw[bQR];refine Tr.yield (a6T t) bQQ bQM bQN bQO bQP o.par (by decide) (show 14<27 by decide) ?_ ?_ o.tm (by show pq rc.assign=true; rw[o.YO]; exact aWS) (by show pq rc.body=true; rw[o.Ya]; exact aWT) ?_;grind [je]
 .simp[ji,je]
 .refine Ee (fun D v => ?_) _ (XU (σt:=⟨qp l (bs a) [(8,nS),(12,.ptr 7 0),(13,aN e),(70,.func (.yield l) [] []),(71,nS),(72,bI ⟨tk,j,n,tl,q⟩),(73,bI ⟨tk,j,n,(c:Int),((i-start+1:Nat):Int)⟩),(74,aN e)],lQ L d f g c start i ++ [some (h6 ⟨tk,j,n,tl,q⟩)]⟩) fun K => ?_)
  .subst v;have E:=bZ8 L d f g c start i tk (bs j) n tl q tk (bs j) n c ((i-start+1:Nat):Int) e A;refine ⟨bI ⟨tk,j,n,(c:Int),((i-start+1:Nat):Int)⟩,aN e,fun ax r=>if e=0 then ax = .normal/\r=aEC L d f g c start i tk (bs j) n tl q tk (bs j) n c ((i-start+1:Nat):Int) e else ax = .ret/\r=aEA L d f g c start i tk (bs j) n tl q tk (bs j) n c ((i-start+1:Nat):Int) e,rfl,rfl,rfl,show 7<=8 by decide,?_,?_⟩
   .show eu mY 8 rc.assign (Eo (eu mY 8 rc.body _) fun _ _=>False) _;rw[o.YO,o.Ya];exact E
   .intro ax r hq;by_cases he:e=0
    .rw[ah he] at hq;obtain ⟨rfl,rfl⟩:=hq;subst he;refine ⟨rfl,?_⟩;show mV Nl (j_ y9) (((j_ y9).toList.drop 6).take 5) _ _;refine Ee (fun w p => ?_) _ (XU fun K=>bX7 l K (bs a) _ _ _);subst p;show Tr (je l rc out) a2S _ .normal _;rw[aRD];refine Tr.cond (b:=false) rfl (fun h=>by cases h) (fun _ => ?_);rw[bQT];refine Tr.skip ?_;show Tr (je l rc out) aAI Q .normal _;refine Tr.gc (l := [0,1,3,4,5,12]) (m:=8) (show 7<=8 by decide) rfl ?_;rw[bQX];refine Tr.seq (pc (ax := .normal) t (fun K=>bW9 l K (bs a) (L ++ [bI ⟨tk,j,n,(c:Int),((i-start+1:Nat):Int)⟩]) d f g c start i tk (bs j) n tl q) ?_);show Tr (je l rc out) aAJ Q .normal _;rw[bQW];refine Tr.exit (B rfl _ rfl ?_);rw[nR];rfl
    .rw[aV he] at hq;obtain ⟨rfl,rfl⟩:=hq;refine ⟨rfl,?_⟩;show mV Nl (j_ y9) (((j_ y9).toList.drop 6).take 5) _ _;refine Ee (fun w p => ?_) _ (XU fun K=>bX6 l K (bs a) e _ _ _);subst p;show Tr (je l rc out) a2S _ .ret _;rw[aRD];refine Tr.cond (b:=true) rfl (fun _ => ?_) (fun h=>by cases h);rw[bQS];exact Tr.ret (C he _ rfl)
  .refine Eq.trans (b:=kS aVB false (j_ Wi) (((j_ Wi).toList.drop 0).take 5) K ⟨qp l (bs a) [(8,nS),(12,.ptr 7 0),(13,aN e)],lQ L d f g c start i ++ [some (h6 ⟨tk,j,n,tl,q⟩)]⟩) rfl ?_;refine (bW4 l (fun _=>K) (bs a) e L d f g c start i tk (bs j) n tl q).trans ?_;unfold BL;rw[aM1,aII z (by omega)];rfl
end
def s:Code:=Code.sub [] xC
def s0:Code:=Code.sub [false] xC
def s1:Code:=Code.sub [true] xC
def G_:Code:=Code.sub [true,false] xC
def yj:Code:=Code.sub [true,true] xC
def aWJ:Code:=Code.sub [true,true,false] xC
def aE2:Code:=Code.sub [true,true,false,false] xC
def aE3:Code:=Code.sub [true,true,false,true] xC
def aWK:Code:=Code.sub [true,true,false,true,false] xC
theorem bYS:aWK = .rangeFunc (.tmp 12) #[13,14] Fg Bq:=by kernel_rfl
theorem bYT:aE3 = .block 0 aWK:=by kernel_rfl
theorem bYU:aWJ = .seq aE2 aE3:=by kernel_rfl
def aE4:Code:=Code.sub [true,true,true] xC
def aWL:Code:=Code.sub [true,true,true,false] xC
def aE5:Code:=Code.sub [true,true,true,true] xC
theorem bYW:aE5 = .ret:=by kernel_rfl
theorem bYX:aE4 = .seq aWL aE5:=by kernel_rfl
theorem bYY:yj = .seq aWJ aE4:=by kernel_rfl
theorem bZ2:s1 = .seq G_ yj:=by kernel_rfl
theorem bZ4:s = .seq s0 s1:=by kernel_rfl
def s_E:AE:=SS.ae 59 27
def OE:XE:=SS.xe SS.CC SS.LL s_E 0
abbrev KL (s:ByteArray) (t:gV):gV:=(0,.str s)::(2,.ptr 0 0)::(3,.ptr 1 0)::(4,.ptr 2 0)::(5,.ptr 3 0)::t
abbrev tH (o:Bool) (z:Nat) (L:ai) (a b c:Int):aH := [some [.sl o z L],some [aN a],some [aN b],some [aN c]]
theorem c31 (s:ByteArray):SS.CC 154 [.str s] []=some (.func (.func 230) [] [.cst (.str s)],[]):=(uZ fD rfl).trans (by kernel_rfl)
theorem bYQ (K:AX->ASt->R) (s:ByteArray):bC OE s0 K ⟨[(0,.str s)],[]⟩=K .normal ⟨KL s [],tH true 0 [] 0 0 0⟩:=by kernel_rfl
theorem aWI (K:AX->ASt->R) (s:ByteArray):bC OE G_ K ⟨KL s [],tH true 0 [] 0 0 0⟩=aB (decide ((65536:Int)<(s.size:Int))) (K .ret ⟨KL s [],tH true 0 [] 1 1 15⟩) (K .normal ⟨KL s [(8,.str s),(9,aN (s.size:Int)),(10,.bool false)],tH true 5 [] 0 0 0⟩):=by kernel_rfl
theorem bYR (K:AX->ASt->R) (s:ByteArray):bC OE aE2 K ⟨KL s [],tH true 5 [] 0 0 0⟩=K .normal ⟨KL s [(11,.str s),(12,.func (.func 230) [] [.cst (.str s)])],tH true 5 [] 0 0 0⟩:=by
 have:bC OE aE2 K ⟨KL s [],tH true 5 [] 0 0 0⟩=jk SS.CC 154 [.str s] fun r=>SS.W 31 [] r [] fun a _=>(match PV.flat a with | true=>K .normal ⟨KL s [(11,.str s),(12,a)],tH true 5 [] 0 0 0⟩ | false=>none):=by kernel_rfl
 refine this.trans ((qw (c31 s)).trans ?_);kernel_rfl
theorem bYV (K:AX->ASt->R) (L:ai):bC OE aWL K ⟨[(2,.ptr 0 0),(3,.ptr 1 0),(4,.ptr 2 0),(5,.ptr 3 0)],tH true 5 L 0 0 0⟩=K .normal ⟨[(2,.ptr 0 0),(3,.ptr 1 0),(4,.ptr 2 0),(5,.ptr 3 0),(26,.sl false 5 L)],tH false 5 L 0 0 0⟩:=by kernel_rfl
def PN (d f g:Int) (r:J6):AX->ASt->AX->Prop:=fun i c j=>i = .ret/\match r with
 | .ok l=>j = .normal/\c.h.take 4=tH true 5 (l.map bI) d f g
 | .err a b e=>j = .ret/\c.h.take 4=tH true 0 [] a b e
section
variable {l:Nat} {rc:Loop} {out:Nat->Nat}
theorem walk (o:1<=out l) (j:PP rc) (a:f_) (q t u:Int) (v:a.length<=1000000) (x:J6):∀ (f i c start:Nat) (dC:List Tok),(a.drop i).length<f->i<=a.length->c<=i+1->start<=i->dC.length<=i->tJ f (a.drop i) i c start dC=x ->
 ∃ k,U6 (je l rc out) NK (PN q t u x) k .normal ⟨qp l (bs a) [],lQ (dC.map bI) q t u c start i⟩:=by
 intro f;induction f with
 | zero=>omega
 | succ f L =>
  intro i c start dC y F G M N d;obtain ⟨g,z⟩:∃ g,jF false (a.drop i)=g:=⟨_,rfl⟩;have H:=SA false (a.drop i);rw[z,xR] at H;obtain ⟨p,A⟩:∃ p,uN ((a.drop i).take g) i (c,start)=p:=⟨_,rfl⟩;have B:=aBP ((a.drop i).take g) i (c,start) M;have I:((a.drop i).take g).length=g:=by simp; omega
  rw[A,I] at B;simp only at B;rw[tJ] at d;simp only[z,A,Oi] at d;by_cases he:i+g=a.length
  .rw[Ik (by omega)] at d;simp only at d;refine ⟨1,?_⟩;show Tr (je l rc out) NK _ .normal _;rw[aAK];refine Tr.block (aCG o v F G z ?_);rw[A];refine b3G o j v he (by omega) (by simp[aO]; omega) fun w e => ?_
   show PN q t u x .ret w .normal;subst d;refine ⟨rfl,rfl,?_⟩;rw[e]; simp
  .have n:i+g<a.length:=by omega
   have E:a.drop (i+g)=a[i+g]::a.drop (i+g+1):=EO n;rw[E] at d;simp only at d;rw[<- E] at d;by_cases C:(dh (a.drop (i+g))).2=0
   .rw[ah C,Oi] at d;have J:=Ny (b:=a[i+g]) (r:=a.drop (i+g+1)) (by rw[<- E]; exact C);rw[<- E,xR] at J;simp only[xR] at y;obtain ⟨k,hk⟩:=L (i+g+(dh (a.drop (i+g))).1.text.length) p.1 p.2 _ (by simp; omega) (by omega) (by omega) (by omega) (by simp; omega) d;refine ⟨k+1,?_⟩;show Tr (je l rc out) NK _ .normal _;rw[aAK];refine Tr.block (aCG o v F G z ?_);rw[A];refine aY8 o j v n (by omega) (by simp[aO]; omega) (fun _ w K e => ?_) (fun h=>absurd C h);show U6 (je l rc out) NK (PN q t u x) k .normal w;have D:w.gc [0,1,3,4,5] 7=⟨qp l (bs a) [],lQ ((dC ++ [(dh (a.drop (i+g))).1.at (p.1:Nat) ((i+g-p.2+1:Nat):Int)]).map bI) q t u (p.1:Nat) (p.2:Nat) ((i+g+(dh (a.drop (i+g))).1.text.length:Nat):Int)⟩:=by rw[e,show i64.wrap (((i+g:Nat):Int)+((dh (a.drop (i+g))).1.text.length:Int))=((i+g+(dh (a.drop (i+g))).1.text.length:Nat):Int) by rw[wrap64 (by omega) (by omega)]; omega];simp
    cases k with
    | zero=>exact hk.elim
    | succ k =>exact Tr.gc (l := [0,1,3,4,5]) (m:=7) (dG _) K (by rw[D]; exact hk)
   .rw[aV C] at d;refine ⟨1,?_⟩;show Tr (je l rc out) NK _ .normal _;rw[aAK];refine Tr.block (aCG o v F G z ?_);rw[A];refine aY8 o j v n (by omega) (by simp[aO]; omega) (fun h=>absurd h C) (fun _ w e => ?_);show PN q t u x .ret w .ret;subst d;exact ⟨rfl,rfl,e⟩
theorem iter (c:1<=out l) (b:PP rc) (a:f_) (d:a.length<=1000000) :
 Tr (je l rc out) ik (PN 0 0 0 (tJ (a.length+1) a 0 1 0 [])) .normal ⟨[(0,.func (.yield l) [] []),(1,.cst (.str (bs a)))],tH true 5 [] 0 0 0⟩:=by
 have e:ik=k:=by kernel_rfl
 rw[e,bRB];refine Tr.scope ?_;rw[bRA];refine Tr.seq (pc (ax := .normal) (σt:=⟨qp l (bs a) [],lQ [] 0 0 0 1 0 0⟩) c (fun K=>by kernel_rfl) ?_);show Tr (je l rc out) k01 _ .normal _;rw[bR9];refine Tr.seq ?_;rw[bQ5];refine Tr.label ?_;show Tr (je l rc out) aAA _ .normal _;rw[bR8];refine Tr.block ?_;rw[bR7];obtain ⟨k,hk⟩:=walk c b a 0 0 0 d (tJ (a.length+1) a 0 1 0 []) (a.length+1) 0 1 0 [] (by simp) (by omega) (by omega) (by omega) (by simp) rfl;refine Tr.mono (Tr.loop hk) fun ax f j hq => ?_
 obtain ⟨rfl,hq⟩:=hq;exact ⟨rfl,hq⟩
end
def Fh:J6->PV
 | .ok c => .tuple [.sl false 5 (c.map bI),.int .i64 0,.int .i64 0,.int .i64 0]
 | .err a b e => .tuple [.sl false 5 [],.int .i64 a,.int .i64 b,.int .i64 e]
def uV (l:f_):J6:=if 65536<l.length then .err 1 1 15 else tJ (l.length+1) l 0 1 0 []
variable {e:ASt} {M:Mem} {B:aS} {w:World}
theorem aw {c:Code} {d:ASt} {ax:AX} (h:∀ K,bC OE c K e=K ax d) {out:Nat->Nat} {a:Act} (l:Inv 27 M B out e a.tmps w) :
 c.wpIn Fence.wide n Tryz.prog (fun b f j=>b=ax.toExit/\f.defers=a.defers/\∃ g i,dS 27 out 0 M B e a.tmps w g i d f.tmps j) a w:=by
 have m:=Jw (X:=OE) fD.V fD.W (Ox Dj fD GK) (Y1 Dj fD GK rfl) h;refine wpIn_wide.2 (wp_mono (xm (E:=s_E) (m0:=0) (out:=out) Dj c l m) fun b f j o => ?_);obtain ⟨p,q,g,i,rfl,⟨rfl,rfl⟩,r,t⟩:=o;exact ⟨rfl,r,g,i,t⟩
variable {b:Array Value}
theorem a7P (g:rQ M B w []) (q:∀ f,fp B e b w f=aT w [] B f) {t:Mem} {u:aS} {s:gV} {h:aH} {x:Act} {m:World} {o:Bool} {L:ai} {a f c:Int}
 (y:dS 27 d 0 M B e b w t u ⟨s,h⟩ x.tmps m) (J:cu 2 s=some (.ptr 0 0)) (K:cu 3 s=some (.ptr 1 0)) (N:cu 4 s=some (.ptr 2 0)) (O:cu 5 s=some (.ptr 3 0)) (p:h.take 4=tH o n L a f c) {r:PV} (A:xx (SS.iq 59).ro (.tuple [.sl false n L,aN a,aN f,aN c])=r) :
 ∃ v,(results Tryz.f59 x.tmps).run Tryz.prog m = .ok v m/\∃ t u,Post [] B d M w r [] v t u m:=by
 have C:h[0]? = some (some [.sl o n L]):=by have:=congrArg (fun l=>l[0]?) p; grind
 have D:h[1]? = some (some [aN a]):=by have:=congrArg (fun l=>l[1]?) p; grind
 have E:h[2]? = some (some [aN f]):=by have:=congrArg (fun l=>l[2]?) p; grind
 have F:h[3]? = some (some [aN c]):=by have:=congrArg (fun l=>l[3]?) p; grind
 have i:Tryz.f59.results.toList = [.cell 2 73,.cell 3 3,.cell 4 3,.cell 5 31]:=by kernel_rfl
 have j:O3 Tryz.prog Tryz.f59.results.toList ([]:aH).length (.tuple [.sl false n L,aN a,aN f,aN c]) [] ⟨s,h⟩:=by
  refine ⟨dG _,rfl,rfl,rfl,?_⟩;rw[i];have G:ti Tryz.prog 73=some ⟨1,24,false,[.sl true 0 []]⟩:=by kernel_rfl
  have Q:ti Tryz.prog 3=some ⟨1,8,false,[aN 0]⟩:=by kernel_rfl
  have H:ti Tryz.prog 31=some ⟨1,8,false,[aN 0]⟩:=by kernel_rfl
  simp_all
 obtain ⟨v,h6,I⟩:=bX8 g q y j (SS.iq 59).ro;rw[A] at I;grind
abbrev R12 (out:Nat->Nat) (M:Mem) (B:aS) (w:World) (r:PV):Ending->World->Prop:=fun e w'=>∃ v M' B',e = .returned v/\Post [] B out M w r [] v M' B' w'
def sI (l:Nat) (s:ByteArray):gV := [(0,.func (.yield l) [] []),(1,.cst (.str s))]
theorem bPV {rc:Loop} (u:1<=d n) (h:PP rc) (a:f_) (v:a.length<=1000000) 
 (x:Inv 86 M B d ⟨sI n (bs a),tH true 5 [] 0 0 0⟩ (b ++ Array.replicate (86-b.size) undef) w) (y:w.heap[n]? = some (.loop (Ak rc .normal))) (z:U1 (je n rc d).sO 27 7 rc.tmps M B) {R:Ending->World->Prop}
 (A:∀ c j i o C f,PN 0 0 0 (tJ (a.length+1) a 0 1 0 []) .ret c j->rq n 86 d 7 M B ⟨sI n (bs a),tH true 5 [] 0 0 0⟩ (b ++ Array.replicate (86-b.size) undef) w i o c C f->f.heap[n]? = some (.loop (Ak rc j))->R (.returned (.tuple #[])) f) :
 CallsIn Fence.wide m Tryz.prog 230 b w R:=by
 have p:Tryz.prog.funcs[230]? = some Tryz.f230:=by kernel_rfl
 have q:Tryz.f230.body=some ik:=by kernel_rfl
 have D:Tryz.f230.ntmps=86:=by kernel_rfl
 have g:Tryz.f230.results = #[]:=by kernel_rfl
 refine callsIn_of_wp p q trivial ?_;rw[D];refine vM (iter u h a v m M B { tmps:=b ++ Array.replicate (86-b.size) undef,defers := [] } w x y z) fun e H f E => ?_
 obtain ⟨I,c,j,i,o,rfl,hq,F,G,r⟩:=E;obtain ⟨rfl,t⟩:=hq;exact ⟨F,_,results_none g _ _ _,A c j i o _ f ⟨rfl,t⟩ G r⟩
theorem b3R (full:f_):Ev Tryz.prog 59 [.str (bs full)] [] (Fh (uV full)) []:=by
 refine ⟨by kernel_rfl,fun out M B w vals hmem hheap hcnt hnew hv => ?_⟩;have bP0:Tryz.prog.funcs[59]? = some Tryz.f59:=by kernel_rfl
 have bOX:Tryz.f59.body=some xC:=by kernel_rfl
 have hn:Tryz.f59.ntmps=27:=by kernel_rfl
 have hI0:=aXN (n:=27) (args := [.str (bs full)]) (show 1<=27 by decide) hmem hheap hcnt hnew hv;have hfp:=fun b=>aXF (B:=B) (args := [.str (bs full)]) (h := []) (vals ++ Array.replicate (27-vals.size) undef) w b
 refine callsIn_wide.1 (callsIn_of_wp_marks (n:=0) (R:=R12 out M B w (Fh (uV full))) bP0 bOX trivial ?_);rw[hn];have e:xC=s:=by kernel_rfl
 rw[e,bZ4];refine Ov (vM (aw (fun K=>bYQ K (bs full)) (a := { tmps:=vals ++ Array.replicate (27-vals.size) undef,defers := [] }) hI0) ?_);rintro e1 a1 w1 ⟨rfl,hd1,M1,B1,hG1⟩;show s1.wpIn Fence.wide 0 Tryz.prog _ a1 w1;rw[bZ2];by_cases hbig:65536<full.length
 .have hT:uV full = .err 1 1 15:=ah hbig;refine Ov (vM (aw (ax := .ret) (fun K=>by rw[aWI,aP (by rw[nR]; omega),aI]) hG1.inv) ?_);rintro e2 a2 w2 ⟨rfl,hd2,M2,B2,hG2⟩;show LeavesInM Fence.wide 0 Tryz.prog Tryz.f59 a2.tmps _ a2.defers .returning w2;rw[hd2,hd1];obtain ⟨v,h6,M',B',h7⟩:=a7P hheap hfp (hG1.trans hG2) rfl rfl rfl rfl (show _=tH true 0 [] 1 1 15 from rfl) (r:=Fh (uV full)) (by rw[hT]; rfl);exact ⟨v,h6,v,M',B',rfl,h7⟩
 .have hT:uV full=tJ (full.length+1) full 0 1 0 []:=aV hbig;rw[hT];refine Ov (vM (aw (ax := .normal) (fun K=>by rw[aWI,bG (by rw[nR]; omega),aF]) hG1.inv) ?_);rintro e2 a2 w2 ⟨rfl,hd2,M2,B2,hG2⟩;show yj.wpIn Fence.wide 0 Tryz.prog _ a2 w2;have hg3:=H9 (m0:=0) (l := [0,2,3,4,5]) (m:=4) hG2.inv (by decide) rfl;have bOU:=(hG1.trans hG2).trans hg3;rw[bYY];refine Ov ?_;rw[bYU];refine Ov (vM (aw (fun K=>bYR K (bs full)) hg3.inv) ?_);rintro e4 a4 w4 ⟨rfl,hd4,M4,B4,hG4⟩;show aE3.wpIn Fence.wide 0 Tryz.prog _ a4 w4;have hGa:=bOU.trans hG4;rw[bYT];refine wpIn_block ?_;rw[bYS];have HY:=hG4.inv;obtain ⟨c1Y,c1X,h12,hr1,hr2⟩:=Am.1 (HY.slots 12 (.func (.func 230) [] [.cst (.str (bs full))]) rfl).2.1;rw[fA] at hr1;obtain ⟨bx,us,hus,hbx,aQ0⟩:=dO.1 hr2;rw[fA] at aQ0;subst aQ0;have hev:a4.tmps.getD 12 undef = .func (.func 230) #[] #[bx]:=by rw[h12]; congr 1<;>(grind)
  refine wpIn_rangeFunc fun fn hfn => ?_
  obtain ⟨rc,aA1⟩:∃ rc:Loop,rc = { state := .ready,pending:=none,fn,tmps:=a4.tmps,params := #[13,14],assign:=Fg,body:=Bq,defers:=w4.heap.size }:=⟨_,rfl⟩;have hrc:PP rc:=by subst aA1; exact ⟨rfl,rfl,rfl,HY.size⟩
  have bPA:Ak rc .normal=rc:=by subst aA1; rfl
  obtain ⟨hIe,hfe⟩:=aIU HY rc;refine ⟨w4.heap.size+1,[{ target := .collected w4.heap.size,args := #[] }],zy w4 rc,{ target := .fn (.func 230) #[bx],args := #[.func (.yield (w4.heap.size+1)) #[] #[]] },zy w4 rc,230,
   #[.func (.yield (w4.heap.size+1)) #[] #[],bx],zy w4 rc,?_,?_,?_,?_,fun h=>absurd h (by decide),?_⟩
  .subst aA1; exact run_enterLoop_outer _ _ _ _ _
  .simp[resolve,go_sem,hev]
  .intro f' hf'; trivial
  .simp[invoke,go_sem]
  .have ho1:1<=Dx out w4.heap.size (w4.heap.size+1):=by simp[Dx]
   have hoD:1<=Dx out w4.heap.size w4.heap.size:=by simp[Dx]
   have hIi:=aQH (n':=86) (sr:=sI (w4.heap.size+1) (bs full)) (tr := #[.func (.yield (w4.heap.size+1)) #[] #[],bx] ++ Array.replicate (86-(#[.func (.yield (w4.heap.size+1)) #[] #[],bx]:Array Value).size) undef) hIe (by simp) (by simp[ji,sI]) (fun kp hk=>by
    simp only[sI,jr,yU,yX] at hk;rcases hk with rfl|rfl
    .exact ⟨show 0<86 by decide,by rw[a_2]; exact Am.2 ⟨#[],#[],rfl,fA.2 rfl,fA.2 rfl⟩,rfl⟩
    .exact ⟨show 1<86 by decide,by rw[a_3]; exact hbx,rfl⟩)
   refine bPV (rc:=rc) (by omega) hrc full (by omega) hIi (by rw[bPA]; exact b3I rc) ?_ fun σ' j M' B' t' w' hq hG hr' => ?_
   .intro kp hk;have ht:rc.tmps=a4.tmps:=by simp_all
    rw[ht];simp only[je,jr,yU,yX] at hk;rcases hk with rfl|rfl|rfl|rfl
    .exact ⟨by decide,(HY.slots 2 (.ptr 0 0) rfl).2.1,rfl,rfl⟩
    .exact ⟨by decide,(HY.slots 3 (.ptr 1 0) rfl).2.1,rfl,rfl⟩
    .exact ⟨by decide,(HY.slots 4 (.ptr 2 0) rfl).2.1,rfl,rfl⟩
    .exact ⟨by decide,(HY.slots 5 (.ptr 3 0) rfl).2.1,rfl,rfl⟩
   .have a9Y:BK 4 (σ'.h.take 4)=true:=by obtain ⟨_,hq⟩:=hq;split at hq<;>(rw[hq.2]; rfl)
    have hback:=aZ3 (m0:=4) hIe ho1 (σr:=⟨sI (w4.heap.size+1) (bs full),tH true 5 [] 0 0 0⟩) rfl (fun kp hk=>by simp only[sI,jr,yU,yX] at hk;rcases hk with rfl|rfl<;>rfl) rfl (hG.weak (by decide)) a9Y;have hend:=run_endLoop (P:=Tryz.prog) hr' (by grind [Ak]);have hput:=aCI (m0:=4) hback.inv ho1 hr' { Ak rc j with state := .exhausted };have hall:=hback.trans hput;have hDs:w'.heap[w4.heap.size]? = some (.deferred (some [])):=by have:=(hback.blk w4.heap.size (by rw[Yr]; omega) (by omega) (Uc hIe hoD)).1;rw[this]; exact b3H rc
    have hD:(w'.putObj (w4.heap.size+1) (.loop { Ak rc j with state := .exhausted })).heap[w4.heap.size]? = some (.deferred (some [])):=(World.putObj_heap_other (by omega)).trans hDs;refine ⟨_,_,hend,?_⟩;obtain ⟨_,hq⟩:=hq;cases hsc:tJ (full.length+1) full 0 1 0 [] with
    | ok ts =>
     rw[hsc] at hq;obtain ⟨rfl,hq⟩:=hq;show aE4.wpIn Fence.wide 0 Tryz.prog _ _ _;rw[hq] at hall;have hg5:=H9 (m0:=0) (l := [2,3,4,5]) (m:=4) hall.inv (by decide) rfl;rw[bYX];refine Ov (vM (aw (a := { tmps:=a4.tmps,defers := { target := .collected w4.heap.size,args := #[] }::a4.defers }) (fun K=>bYV K (ts.map bI)) hg5.inv) ?_);rintro e6 a6 w6 ⟨rfl,hd6,M6,B6,hG6⟩;show aE5.wpIn Fence.wide 0 Tryz.prog _ a6 w6;rw[bYW];refine wpIn_ret ?_;show LeavesInM Fence.wide 0 Tryz.prog Tryz.f59 a6.tmps _ a6.defers .returning w6;rw[hd6,hd4,hd2,hd1];have a9X:=hg5.trans hG6;have hD6:w6.heap[w4.heap.size]? = some (.deferred (some [])):=by have hlt:w4.heap.size<(w'.putObj (w4.heap.size+1) (.loop { Ak rc .normal with state := .exhausted })).heap.size:=(zf.1 hD).1;rw[(a9X.fr.blk w4.heap.size hlt (Uc hall.inv hoD)).1]; exact hD
     refine ⟨by simp,.inl ⟨w4.heap.size,_,rfl,run_takeDeferred hD6,?_⟩⟩;have hsh:=aVP (m0:=0) a9X.inv hoD hD6 (.deferred none);have htot:=((hall.weak (show 0<=4 by decide)).trans a9X.gl);have hfin:=hGa.trans (aSJ HY htot hsh);obtain ⟨v,h6,M',B',h7⟩:=a7P hheap hfp hfin rfl rfl rfl rfl (show _=tH false 5 (ts.map bI) 0 0 0 from rfl) (r:=Fh (.ok ts)) rfl;exact ⟨v,h6,v,M',B',rfl,h7⟩
    | err a b e =>rw[hsc] at hq;obtain ⟨rfl,hq⟩:=hq;refine wpIn_ret ?_;show LeavesInM Fence.wide 0 Tryz.prog Tryz.f59 a4.tmps _ ({ target := .collected w4.heap.size,args := #[] }::a4.defers) .returning _;rw[hd4,hd2,hd1];refine ⟨by simp,.inl ⟨w4.heap.size,_,rfl,run_takeDeferred hD,?_⟩⟩;rw[hq] at hall;have hsh:=aVP (m0:=0) hall.inv hoD hD (.deferred none);have hfin:=hGa.trans (aSJ HY (hall.weak (show 0<=4 by decide)) hsh);obtain ⟨v,h6,M',B',h7⟩:=a7P hheap hfp hfin rfl rfl rfl rfl (show _=tH true 0 [] a b e from rfl) (r:=Fh (.err a b e)) rfl;exact ⟨v,h6,v,M',B',rfl,h7⟩
end Go.Proofs.YtagkcbgkhgccmaaGreatDoor
namespace Go.Proofs
open Go.Shelf
shelf_lay Lays.n105 Nm 105 at Tryz as Tryz.lays105
shelf_lay Lays.n144 Nm 144 at Tryz as Tryz.lays144
end Go.Proofs
namespace Go.Proofs.YtagkcbgkhgccmaaGreatDoor
open Go.RowKit Go.Shelf
variable {r:PV}
theorem Yz {P:Program} {g:FuncId} {args:ai} {v:Value} (y:m_ P g=true) (z:∀ M B,eU M B r v) (n:r.own=false)
 (h:∀ (M:Mem) (w:World) (a:Array Value),Ae M w->au M [] args a.toList->Calls P g a w fun e p=>e = .returned v/\Below w.heap.size w p):Ev P g args [] r []:=by
 refine ⟨y,fun A M B w a c d q j hv => ?_⟩;have C:B = []:=qg (by have:=d.1; simp_all);subst C;refine (h M w a c hv).mono ?_;rintro e p ⟨rfl,f⟩;have t:∀ w b,aT w [] [] b=0:=fun w b=>by simp[aT]
 refine ⟨v,M,[],rfl,fun b o u e => ?_,eH.refl _ _,⟨f.os,f.tape,f.output,f.size,fun b m _=>⟨f.block b m,fun _=>rfl⟩⟩,⟨rfl,fun i F D=>by simp at D⟩,z M [],gU n,fun b l => ?_,fun b => ?_,fun b l => ?_⟩
 .obtain ⟨x,E⟩:=c b o u e;have:=zl _ _ x;exact ⟨(Ou (f.block b this)).trans x,E⟩
 grind [ed]
 grind [ed]
 .have:=j b (lD f.size l); rw[t] at this; rw[t,ed n]; omega
def nG:ai->Option (List ByteArray)
 | []=>some []
 | .str s::l=>(nG l).map (s :: ·)
 | _=>none
theorem aXX:∀ {a:ai} {b:List ByteArray},nG a=some b->a=b.map .str
 | [],b,h=>by grind [nG]
 | p::a,b,h=>by
  unfold nG at h;split at h
  .rename_i e; cases e
  .rename_i s l e;injection e with d f; subst d; subst f
   cases c:nG a with
   | none=>simp[c] at h
   | some g=>simp[c] at h; subst h; rw[aXX c]; rfl
  .cases h
def Hg (b:List ByteArray) (a:ByteArray):f_:=Lib.join (b.map (·.data.toList)) a.data.toList
variable {M:Mem} {B:aS} {y:PV} {b:Array Value}
theorem KJ (hv:au M B [r,y] b.toList):∃ u v,b = #[u,v]/\eU M B r u/\eU M B y v:=by obtain ⟨c,a,d,e,hv⟩:=dO.1 hv;obtain ⟨f,a,rfl,g,hv⟩:=dO.1 hv;rw[fA] at hv; grind
theorem b3Y (o:Bool) (d:List ByteArray) (c:ByteArray) (y:(Hg d c).length<=140737488355328) (z:d.length<=140737488355328):Ev Tryz.prog 60 [.sl o 1 (d.map .str),.str c] [] (.str ⟨(Hg d c).toArray⟩) []:=by
 refine Yz (v := .string ⟨(Hg d c).toArray⟩) (by kernel_rfl) (fun _ _=>jS.2 rfl) rfl fun M w q g hv => ?_
 obtain ⟨u,v,rfl,B,hv⟩:=KJ hv;rw[jS.1 hv];obtain ⟨A,h,rfl,i,_,_,C⟩:=jo.1 B;rw[bM] at i ⊢;by_cases t:d = []
 .subst t;refine (bQ2 A h c w).mono ?_;rintro e F ⟨rfl,rfl⟩;exact ⟨rfl,Below.refl _ _⟩
 .obtain ⟨b,l,rfl,m⟩:=C (by grind);have a:∀ (j:Nat) x,d[j]? = some x->w.cell? ⟨b,l+j,none⟩=some (.string x):=fun j x D=>by have E:=FN m (show (d.map PV.str)[j]? = some (.str x) by rw[lN,D]; rfl);obtain ⟨u,f,n⟩:=(DZ rfl).1 E;rw[Nat.mul_one] at f;rw[jS.1 n] at f;exact (g _ _ _ f).1
  have p:b<w.heap.size:=by
   match d,t with
   | x::r,_=>exact zl _ _ (a 0 x rfl)
  exact bQ3 b l h d c w a p z i y
variable {d:Nat->Nat} {w:World} {A:Value}
theorem bX9 {h:aH} (c:Ae M w) (a:rQ M B w h) (e:∀ b,aT w h B b+d b<=1) (g:∀ b,w.heap.size<=b->aT w h B b+d b=0)
 (i:eU M B r A) (f:r.own=false):Post h B d M w r h A M B w :=
 ⟨c,eH.refl _ _,Fr.refl _ _ _,a,i,gU f,fun b _=>by rw[ed f]; omega,fun b=>by rw[ed f]; exact e b,fun b j=>by rw[ed f]; simp_all⟩
theorem aUR {o:Option (ai)} (a:rQ M B w [o]):∃ c,B = [c]:=by
 have:=a.1;match B,this with
 | [c],_=>simp
theorem aYU (hv:au M B [r] b.toList):∃ u,b = #[u]/\eU M B r u:=by obtain ⟨a,c,d,e,hv⟩:=dO.1 hv;rw[fA] at hv; grind
theorem b3W (l:f_):Ev Tryz.prog 204 [.ptr 0 0] [some [.dZ 174 0,.dn l]] (.tuple []) [some [.dZ 174 0,.dn l]]:=by
 refine ⟨by kernel_rfl,fun r M B w vals o a f q hv => ?_⟩;obtain ⟨c,rfl⟩:=aUR a;obtain ⟨u,rfl,G⟩:=aYU hv;obtain ⟨H,⟨g,_⟩,rfl⟩:=xH.1 G;simp at g; subst g;obtain ⟨H,g,I,z,o1,⟨J,A⟩,Y,K,Z⟩:=a.2 0 _ rfl;simp at g; subst g;obtain ⟨L,C,D,_,_⟩:=K 0 _ rfl;obtain ⟨c2,x,E⟩:=IG.1 D;simp at x; subst x;obtain ⟨n,E⟩:=E.2 (by decide);have N:I.size=2:=by rw[J,n]
 have y:z=174+1:=by rw[A,n]
 subst y;obtain ⟨z,O,o1⟩:=Ff o1 (by decide);have y:z=174:=by omega
 have m:w.cell? ⟨c.1,0,none⟩=some L:=by simp[World.cell?,o1,C]
 rcases E with rfl|rfl
 .refine (b1F c.1 w m (by grind [World.shape?]) (by simp[World.frozen?,o1])).mono ?_;rintro e Q ⟨rfl,rfl⟩;have S:Inv 0 M [c] r ⟨nJ 0 [],[some [.dZ 174 0,.dn l]]⟩ (#[] ++ Array.replicate (0-0) undef) w:=aXN (vals := #[]) (args := []) (by simp) o a f q (fA.2 rfl);have d:=fun (t:Array Value) (w:World) b=>aXF (B := [c]) (args := []) (h := [some [.dZ 174 0,.dn l]]) t w b
  obtain ⟨T,U,V,_,_⟩:=S.setCell (i:=0) (j:=0) (p := .dZ 174 0) (v := .pointer (some ⟨c.1,0,none⟩)) rfl rfl (by rw[n]; decide) (by simp) (IG.2 ⟨c,rfl,(fun h=>absurd h (by decide)),fun _=>⟨n,.inr rfl⟩⟩) (gU rfl) rfl (fun b=>by rw[d,ed rfl]; exact f b) (fun b _=>ed rfl _ _);have k1:Inv 0 M [c] r ⟨nJ 0 [],[some [.dZ 174 0,.dn l]]⟩ (#[] ++ Array.replicate (0-0) undef) (w.setCell ⟨c.1,0,none⟩ (.pointer (some ⟨c.1,0,none⟩))):=T;have k2:∀ b,fp [c] ⟨nJ 0 [],[some [.dZ 174 0,.dn l]]⟩ (#[] ++ Array.replicate (0-0) undef) (w.setCell ⟨c.1,0,none⟩ (.pointer (some ⟨c.1,0,none⟩))) b<=fp [c] ⟨nJ 0 [],[some [.dZ 174 0,.dn l]]⟩ (#[] ++ Array.replicate (0-0) undef) w b+bY (.dZ 174 0) (.pointer (some ⟨c.1,0,none⟩)) b:=U;refine ⟨_,M,[c],rfl,⟨k1.mem,eH.refl _ _,V.mono fun b F X=>by rw[d]; exact X,k1.heap,uU.2 ⟨_,rfl,fA.2 rfl⟩,gU rfl,fun b F => ?_,fun b => ?_,fun b F => ?_⟩⟩
  .have h:=k2 b;rw[d,d,ed rfl] at h;rw[ed rfl]; exact h
  .have h:=k1.cnt b;rw[d] at h;rw[ed rfl]; exact h
  .have h:=k1.new b F;rw[d] at h;rw[ed rfl]; exact h
 .refine (b1H c.1 w m).mono ?_;rintro e Q ⟨rfl,rfl⟩;exact ⟨_,M,[c],rfl,bX9 o a f q (uU.2 ⟨_,rfl,fA.2 rfl⟩) rfl⟩
variable {C:TypeId}
theorem b'8 {c:Nat×Nat×TypeId} {w2:World} {l:f_} {vs:Array Value} (F:Ae M w) (t:rQ M [c] w [some [.dZ 174 0,.dn l]]) (q:∀ b,aT w [some [.dZ 174 0,.dn l]] [c] b+d b<=1) (G:∀ b,w.heap.size<=b->aT w [some [.dZ 174 0,.dn l]] [c] b+d b=0)
 (g:w.heap[c.1]? = some (.cells vs C (0,0))) (hv:vs[1]? = some A) (T:∀ x,x<w.heap.size->bY (.dn l) A x=0->w2.heap[x]? = w.heap[x]?) (h2:∀ b o u,w.cell? ⟨b,o,none⟩=some u->w2.cell? ⟨b,o,none⟩=some u)
 (K:w2.os=w.os) (z:w2.tape=w.tape) (H:w2.output=w.output) (m:w.heap.size<=w2.heap.size) :
 Post [some [.dZ 174 0,.dn l]] [c] d M w (.str ⟨l.toArray⟩) [some [.dZ 174 0,.sl false 1 (o7 l)]] (.string ⟨l.toArray⟩) M [c] w2:=by
 obtain ⟨c',I,X,Y,o1,Z,o3,U,o5⟩:=t.2 0 _ rfl;simp at I; subst I;rw[E8 g] at o1;injection o1 with o1; injection o1 with e1 e2; subst e1; subst e2
 have L:iO w c.1=vs.toList:=by simp[iO,E8 g]
 have N:vs.toList[1]? = some A:=by grind
 have a:∀ b,(if c.1=b then 1 else 0)+bY (.dn l) A b<=aT w [some [.dZ 174 0,.dn l]] [c] b:=fun b=>by have V:=lY (w:=w) (h := [some [.dZ 174 0,.dn l]]) (B := [c]) (i:=0) b rfl rfl;have g2:=yF (cs := [.dZ 174 0,.dn l]) (vs:=vs.toList) (j:=1) b rfl N;rw[L] at V; omega
 have O:bY (.dn l) A c.1=0:=by have:=a c.1; have:=q c.1;rw[ah rfl] at *; omega
 have Q:c.1<w.heap.size:=(zf.1 g).1;have D:w2.heap[c.1]? = some (.cells vs C (0,0)):=(T c.1 Q O).trans g;have f:∀ b,aT w2 [some [.dZ 174 0,.sl false 1 (o7 l)]] [c] b<=if c.1=b then 1 else 0:=fun b=>by
  simp only[aT];have:∀ S,fG [.dZ 174 0,.sl false 1 (o7 l)] S b=0:=fun S=>by
   match S with
   | []=>rfl
   | [x]=>rfl
   | x::y::r=>rfl
  rw[this]; omega
 refine ⟨fun b o u e => ?_,eH.refl _ _,⟨K,z,H,m,fun b J h0=>⟨T b J (by have:=a b; omega),fun _=>rfl⟩⟩,⟨rfl,fun i cs E => ?_⟩,jS.2 rfl,gU rfl,fun b J => ?_,fun b => ?_,fun b J => ?_⟩
 .obtain ⟨V,g2⟩:=F b o u e;simp_all
 .match i,E with
  | 0,E =>
   simp at E; subst E;refine ⟨c,rfl,vs,C+1,E8 D,Z,by omega,fun j p n => ?_,o5⟩;match j,n with
   | 0,n =>simp at n; subst n;obtain ⟨u,a1,a2,a3,a4⟩:=U 0 _ rfl;exact ⟨u,a1,a2,gU rfl,a4⟩
   | 1,n =>simp at n; subst n;obtain ⟨u,a1,a2,a3,a4⟩:=U 1 _ rfl;exact ⟨u,a1,X8.2 a2,gU rfl,a4⟩
   | j+2,n=>simp at n
  | i+1,E=>simp at E
 .rw[ed rfl]; have:=f b; have:=a b; omega
 .rw[ed rfl]; have:=f b; have:=a b; have:=q b; omega
 .rw[ed rfl]; have:=f b; have:=a b; have:=G b (lD m J); omega
section
variable {P:Program} {ρ:Ren}
set_option maxHeartbeats 2000000 in
set_option maxRecDepth 100000 in
theorem aEJ (L:Lays.n169 P ρ) (X:Builder.Extra P ρ) (T:TypeId) (b n cap:Nat) (A q:Option Addr) (p:Value) (r:ByteArray) (w w2:World) (hbk:w.heap[b]? = some (.cells #[p,.slice A n cap] T (0,0)))
 (hSD:(Builtin.unsafeSliceData_ #[(ρ.t 37)] (ρ.t 127) #[.slice A n cap]).run P w.drew = .ok (.pointer q) w.drew)
 (hUS:(Builtin.unsafeString_ #[(ρ.t 127),(ρ.t 3)] (ρ.t 9) #[.pointer q,.int .i64 n]).run P w.drew = .ok (.string r) w2) :
 Calls P (ρ.f 169) #[.pointer (some ⟨b,0,none⟩)] w fun e w'=>e = .returned (.string r)/\w'=w2:=by
 have c1:w.drew.cell? ⟨b,1,none⟩=some (.slice A n cap):=by have:w.drew.heap[b]? = some (.cells #[p,.slice A n cap] T (0,0)):=hbk;rw[Lib.cell_of_heap this]; rfl
 have mixed:=L.mixed;have t72:=L.t72; have a72:=L.a72; have z72:=L.z72; have v72:=L.v72; have u72:=gJ L.t72;have t70:=L.t70; have a70:=L.a70; have z70:=L.z70; have v70:=L.v70; have u70:=gJ L.t70;have t37:=L.t37; have a37:=L.a37; have z37:=L.z37; have v37:=L.v37; have u37:=gJ L.t37;have t127:=L.t127; have a127:=L.a127; have z127:=L.z127; have v127:=L.v127; have u127:=gJ L.t127;have t3:=L.t3; have a3:=L.a3; have z3:=L.z3; have v3:=L.v3; have u3:=gJ L.t3;have t9:=L.t9; have a9:=L.a9; have z9:=L.z9; have v9:=L.v9; have u9:=gJ L.t9;have t5:=X.t5; have a5:=X.a5; have z5:=X.z5; have v5:=X.v5; have u5:=gJ X.t5;go_enter L.f169,Body.n169_ntmps ρ
 go_wp2
 go_region_o
 all_goals (go_wp2; go_ret; exact ⟨rfl,rfl⟩)
set_option maxHeartbeats 2000000 in
set_option maxRecDepth 100000 in
theorem b'9 (L:Lays.n169 P ρ) (X:Builder.Extra P ρ) (T:TypeId) (b g:Nat) (cur:Array Value) (p:Value) (w:World) (hbk:w.heap[b]? = some (.cells #[p,.slice (some ⟨g,0,none⟩) 0 0] T (0,0))) (hg:w.heap[g]? = some (.cells cur (ρ.t 5) (0,0))) :
 Calls P (ρ.f 169) #[.pointer (some ⟨b,0,none⟩)] w fun e w'=>e = .returned (.string ⟨#[]⟩)/\∃ u:World,u.heap=w.heap/\u.os=w.os/\u.tape=w.tape/\u.output=w.output/\w'=u.alloc (.view ⟨g,0,none⟩ (ρ.t 5)):=by
 have hUS:=Any.unsafeString_none L X;have hlt:b<w.heap.size:=(zf.1 hbk).1;have c1:w.drew.cell? ⟨b,1,none⟩=some (.slice (some ⟨g,0,none⟩) 0 0):=by have:w.drew.heap[b]? = some (.cells #[p,.slice (some ⟨g,0,none⟩) 0 0] T (0,0)):=hbk;rw[Lib.cell_of_heap this]; rfl
 have hSD:(Builtin.unsafeSliceData_ #[(ρ.t 37)] (ρ.t 127) #[.slice (some ⟨g,0,none⟩) 0 0]).run P w.drew = .ok (.pointer (some ⟨w.drew.heap.size,0,none⟩)) (w.drew.alloc (.view ⟨g,0,none⟩ (ρ.t 5))) :=Lib.run_unsafeSliceData_zero w.drew _ _ (ρ.t 5) L.t127 ⟨g,0,none⟩ 0 ((ρ.t 5),cur.size) (by have hg':w.drew.heap[g]? = some (.cells cur (ρ.t 5) (0,0)):=hg; simp[World.shape?,hg']);have c2:(w.drew.alloc (.view ⟨g,0,none⟩ (ρ.t 5))).cell? ⟨b,1,none⟩=some (.slice (some ⟨g,0,none⟩) 0 0):=by have:(w.drew.alloc (.view ⟨g,0,none⟩ (ρ.t 5))).heap[b]? = _:=(Lib.alloc_old w.drew _ b hlt).trans hbk;rw[Lib.cell_of_heap this]; rfl
 have c3:(w.alloc (.view ⟨g,0,none⟩ (ρ.t 5))).drew.cell? ⟨b,1,none⟩=some (.slice (some ⟨g,0,none⟩) 0 0):=c2;have c0:w.cell? ⟨b,1,none⟩=some (.slice (some ⟨g,0,none⟩) 0 0):=c1;have mixed:=L.mixed;have t72:=L.t72; have a72:=L.a72; have z72:=L.z72; have v72:=L.v72; have u72:=gJ L.t72;have t70:=L.t70; have a70:=L.a70; have z70:=L.z70; have v70:=L.v70; have u70:=gJ L.t70;have t37:=L.t37; have a37:=L.a37; have z37:=L.z37; have v37:=L.v37; have u37:=gJ L.t37;have t127:=L.t127; have a127:=L.a127; have z127:=L.z127; have v127:=L.v127; have u127:=gJ L.t127;have t3:=L.t3; have a3:=L.a3; have z3:=L.z3; have v3:=L.v3; have u3:=gJ L.t3;have t9:=L.t9; have a9:=L.a9; have z9:=L.z9; have v9:=L.v9; have u9:=gJ L.t9;have t5:=X.t5; have a5:=X.a5; have z5:=X.z5; have v5:=X.v5; have u5:=gJ X.t5;go_enter L.f169,Body.n169_ntmps ρ
 go_wp2
 go_region_o
 all_goals (go_wp2; go_ret; exact ⟨rfl,w.drew,rfl,rfl,rfl,rfl,rfl⟩)
end
variable {n m:Nat}
theorem aK3 {a:Nat} (c:n≠m):(w.drew.freeze ⟨m,0,none⟩ a).heap[n]? = w.heap[n]? := by
 unfold World.freeze;split
 .rfl
 .show (w.heap.modify m _)[n]? = _;rw[Array.getElem?_modify,aV (Ne.symm c)]
theorem b4W (h:w.heap[n]? = some (.cells b C (0,0))) (a:m≠0):(w.drew.freeze ⟨n,0,none⟩ m).heap[n]? = some (.cells b C (0,0+m)):=by unfold World.freeze;rw[aV a];show (w.heap.modify n _)[n]? = _;rw[Array.getElem?_modify,ah rfl,h];rfl
theorem b3T (l:f_):Ev Tryz.prog 130 [.ptr 0 0] [some [.dZ 174 0,.dn l]] (.str ⟨l.toArray⟩) [some [.dZ 174 0,.sl false 1 (o7 l)]]:=by
 refine ⟨by kernel_rfl,fun b1 M B w a' y i F G hv => ?_⟩;obtain ⟨c,rfl⟩:=aUR i;obtain ⟨u,rfl,hu⟩:=aYU hv;obtain ⟨c',⟨n,_⟩,rfl⟩:=xH.1 hu;simp at n; subst n;obtain ⟨c',n,vs,K,o1,⟨o2,L⟩,o3,o4,o5⟩:=i.2 0 _ rfl;simp at n; subst n;obtain ⟨D,b2,N,_,_⟩:=o4 0 _ rfl;obtain ⟨c2,H,hp⟩:=IG.1 N;simp at H; subst H;obtain ⟨I,_⟩:=hp.2 (by decide);obtain ⟨v1,O,Q,S,_⟩:=o4 1 _ rfl;have b3:vs.size=2:=by rw[o2,I]
 have C:K=174+1:=by rw[L,I]
 subst C;obtain ⟨K,b4,o1⟩:=Ff o1 (by decide);have C:K=174:=by omega
 subst C;have T:vs = #[D,v1]:=by grind
 have m:w.heap[c.1]? = some (.cells #[D,v1] 174 (0,0)):=by rw[<- T]; exact o1
 obtain ⟨A,q,rfl,b5,hA⟩:=Oe.1 Q;obtain ⟨t1,t2⟩:=S.t l A _ q rfl rfl;have p:∀ b o u,w.cell? ⟨b,o,none⟩=some u->w.drew.cell? ⟨b,o,none⟩=some u:=fun _ _ _ h=>h
 have d:=fun (w2:World) h1 h2 a1 a2 a3 a4=>b'8 (w2:=w2) y i F G o1 O h1 h2 a1 a2 a3 a4
 cases A with
 | none =>have r:=t1 rfl;subst r;have E:l = []:=qg (by omega);subst E;refine (aEJ Tryz.lays169 MK 174 c.1 0 0 none none D ⟨#[]⟩ w w.drew m rfl (Any.unsafeString_none Tryz.lays169 MK _ _)).mono ?_;rintro e U ⟨rfl,rfl⟩;exact ⟨_,M,[c],rfl,d w.drew (fun _ _ _=>rfl) p rfl rfl rfl (dG _)⟩
 | some a =>
  obtain ⟨V,J,g2,g3,g4,g5,g6⟩:=t2 a rfl;obtain ⟨g,b6,sp⟩:=a;simp only at J g4 g5 g6;subst g5; subst g6;by_cases E:l = []
  .subst E;by_cases r:q=0
   .subst r;refine (b'9 Tryz.lays169 MK 174 c.1 g V D w m J).mono ?_;rintro e U ⟨rfl,x,x1,x2,x3,x4,rfl⟩;have z:∀ b,b<w.heap.size->(x.alloc (.view ⟨g,0,none⟩ (Tryz.lays169_ren.t 5))).heap[b]? = w.heap[b]? := fun b X=>by rw[<- x1]; grind [Below.heap_alloc]
    refine ⟨_,M,[c],rfl,d _ (fun b X _=>z b X) (fun b o u h => ?_) x2 x3 x4 (by rw[World.size_alloc,x1]; omega)⟩;exact (Ou (z b (zl _ _ h))).trans h
   .refine (aEJ Tryz.lays169 MK 174 c.1 0 q (some ⟨g,0,none⟩) (some ⟨g,0,none⟩) D ⟨#[]⟩ w w.drew m (Lib.run_unsafeSliceData_row _ _ _ _ _ _ r) (Any.unsafeString_none Tryz.lays169 MK _ _)).mono ?_;rintro e U ⟨rfl,rfl⟩;exact ⟨_,M,[c],rfl,d w.drew (fun _ _ _=>rfl) p rfl rfl rfl (dG _)⟩
  .have f:l.length≠0:=fun h=>E (qg h)
   obtain ⟨b',b0,e1,v⟩:=hA E;cases e1;refine (aEJ Tryz.lays169 MK 174 c.1 l.length q (some ⟨g,0,none⟩) (some ⟨g,0,none⟩) D ⟨l.toArray⟩ w (w.drew.freeze ⟨g,0,none⟩ l.length) m (Lib.run_unsafeSliceData_row _ _ _ _ _ _ (by omega)) ?_).mono ?_
   .refine Lib.run_unsafeString_row w.drew _ _ _ (Tryz.lays169_ren.t 5) (Lays.n169.t127 Tryz.lays169) (Builder.Extra.cellsByte MK) g V.size (by have Y:w.drew.heap[g]? = some (.cells V ML (0,0)):=J; simp[World.shape?,Y]; rfl) l E (by omega) (by grind [maxLen]) ?_;intro j x hx;have h:=(y g (0+j) _ (v j x hx)).1;rw[rP] at h;grind [Addr.add]
   .rintro e U ⟨rfl,rfl⟩;refine ⟨_,M,[c],rfl,d _ (fun b X h0 => ?_) (fun b o u h => ?_) ?_ ?_ ?_ ?_⟩;grind [bY,PV.own,aK3]
    .by_cases Z:b=g
     .subst Z;unfold World.cell? at h ⊢;simp only[b4W J f];grind
     grind [World.cell?_of_block,aK3]
    .unfold World.freeze; rw[aV f]; rfl
    .unfold World.freeze; rw[aV f]; rfl
    .unfold World.freeze; rw[aV f]; rfl
    .unfold World.freeze; rw[aV f];simp
def Tt:Int:=4611686018427387904
def CS:oW:=fun g args h=>match g,args,h with
 | 59,[.str s],h=>some (Fh (uV s.data.toList),h)
 | 156,[.int .i64 n],h=>(match decide (0<=n)&&decide (n<Tt) with | true=>some (.str ⟨(Lib.decDigits n.toNat).toArray⟩,h) | false=>none)
 | 219,[.str s,.int .u8 c],h=>some (.int .i64 (Lib.indexByte s.data.toList c.toNat.toUInt8),h)
 | 129,[.str s,.int .i64 n],h=>(match decide (0<=n)&&(Nat.ble n.toNat 9223372036854775807&&Nat.ble (s.size*n.toNat) 140737488355328) with
  | true=>some (.str ⟨(Lib.repeatL s.data.toList n.toNat).toArray⟩,h)
  | false=>none)
 | 10,[.str s,.str x],h=>(match Nat.ble s.size 1073741824 with
  | true=>some (.bool (Lib.contains s.data.toList x.data.toList),h)
  | false=>none)
 | 60,[.sl _ 1 d,.str a],h=>(match nG d with
  | some b=>(match Nat.ble (Hg b a).length 140737488355328&&Nat.ble b.length 140737488355328 with
   | true=>some (.str ⟨(Hg b a).toArray⟩,h)
   | false=>none)
  | none=>none)
 | 130,[.ptr 0 0],[some [.dZ 174 0,.dn l]]=>some (.str ⟨l.toArray⟩,[some [.dZ 174 0,.sl false 1 (o7 l)]])
 | 204,[.ptr 0 0],[some [.dZ 174 0,.dn l]]=>some (.tuple [],[some [.dZ 174 0,.dn l]])
 | _,_,_=>none
theorem bXA (a:Ae M w):Iz Tryz.prog Tryz.laysM171_ren w:=fun i b=>by
 refine (a _ i _ (M.g _ _ _ ?_)).1;show CW M.m (Tryz.laysM171_ren.g 17) i=_;have e:(aEM M.m).lookup (Tryz.laysM171_ren.g 17)=some (Lib.pow10Tab.map (Value.int .u64)):=by kernel_rfl
 unfold CW;rw[e,Ot,lN];grind [Lib.pow10Tab]
theorem b3X (n:Int) (b:0<=n) (c:n<Tt) (h:aH):Ev Tryz.prog 156 [.int .i64 n] h (.str ⟨(Lib.decDigits n.toNat).toArray⟩) h:=by
 unfold Tt at c;have ev:∀ {M:Mem} {B:aS} {a:Array Value},au M B [.int .i64 n] a.toList->a = #[.int .i64 n]:=fun hv=>by obtain ⟨e,f,g,i,hv⟩:=dO.1 hv;rw[fA] at hv; grind [fH]
 by_cases j:n<100
 .refine a7U (v := .string ⟨(Lib.decDigits n.toNat).toArray⟩) (by kernel_rfl) (fun _ _=>jS.2 rfl) rfl (fun M B w a hv => ?_) h;rw[ev hv];have:=bPZ n.toNat (by omega) w;rwa [J8 b] at this
 .refine (Yz (v := .string ⟨(Lib.decDigits n.toNat).toArray⟩) (by kernel_rfl) (fun _ _=>jS.2 rfl) rfl fun M w a d hv => ?_).frame' rfl rfl h;rw[ev hv];have:=bPY Tryz.laysM171 n.toNat (by omega) (by omega) w (bXA d);rwa [J8 b] at this
theorem b_' (hv:au M B [r,y] b.toList):∃ u v,b = #[u,v]/\eU M B r u/\eU M B y v:=KJ hv
theorem b08:Builder.Extra Tryz.prog Tryz.lays105_ren where
 sizeBuilder:=by kernel_rfl
 liesBuilder:=by kernel_rfl
 t5:=Tryz.underlying5
 a5:=Tryz.isAgg5
 z5:=Tryz.sizeOf5
 v5:=Tryz.zeroValue5
 infoByte:=by kernel_rfl
 cellsByte:=by kernel_rfl
 sizeByte:=by kernel_rfl
 neB5:=by decide
theorem bXY (s:ByteArray) (c:Nat) (w:World) (b:c<=9223372036854775807) (a:s.size*c<=140737488355328) :
 Calls Tryz.prog 129 #[.string s,.int .i64 c] w fun e d=>e = .returned (.string ⟨(Lib.repeatL s.data.toList c).toArray⟩)/\Below w.heap.size w d :=
 Any.strings_Repeat Tryz.lays105 b08 s c w b a
theorem b49 (s:ByteArray) (n:Int) (c:0<=n) (d:n.toNat<=9223372036854775807) (e:s.size*n.toNat<=140737488355328):Ev Tryz.prog 129 [.str s,.int .i64 n] [] (.str ⟨(Lib.repeatL s.data.toList n.toNat).toArray⟩) []:=by
 refine Yz (v := .string ⟨(Lib.repeatL s.data.toList n.toNat).toArray⟩) (by kernel_rfl) (fun _ _=>jS.2 rfl) rfl fun M w a b hv => ?_
 obtain ⟨u,v,rfl,f,hv⟩:=KJ hv;rw[jS.1 f,fH.1 hv];have:=bXY s n.toNat w d e;rwa [J8 c] at this
theorem bTC (a:Ae M w):w.cell? ⟨Tryz.lays144_ren.g 1,0,none⟩=some (.int .i64 M.m):=by refine (a _ 0 _ (M.g _ _ _ ?_)).1;show CW M.m (Tryz.lays144_ren.g 1) 0=_;rfl
theorem b3V (s x:ByteArray) (c:s.size<4294967281) (h:aH):Ev Tryz.prog 10 [.str s,.str x] h (.bool (Lib.contains s.data.toList x.data.toList)) h:=by refine (Yz (v := .bool (Lib.contains s.data.toList x.data.toList)) (by kernel_rfl) (fun _ _=>kw.2 rfl) rfl fun M w b a hv => ?_).frame' rfl rfl h;obtain ⟨u,v,rfl,d,hv⟩:=KJ hv;rw[jS.1 d,jS.1 hv];refine (Any.strings_Contains Tryz.lays144 s x M.m w c (bTC a)).mono ?_;grind [Below.refl]
theorem b4T (r:J6):(Fh r).flat=true:=by
 cases r with
 | ok c=>rfl
 | err a b e=>rfl
theorem aZC:pU Tryz.prog CS:=by
 intro g args h r h' hv;unfold CS at hv;split at hv
 .rename_i h s;cases hv;have:=b3R s.data.toList;have e:bs s.data.toList=s:=by rfl
  rw[e] at this;exact this.frame' (b4T _) rfl _
 grind [b3X]
 .rename_i h s c;cases hv;refine a7U (v := .int .i64 (Lib.indexByte s.data.toList c.toNat.toUInt8)) (by kernel_rfl) (fun _ _=>fH.2 rfl) rfl (fun M B w d hv => ?_) _;obtain ⟨u,v,rfl,f,hv⟩:=b_' hv;rw[jS.1 f,fH.1 hv];exact Any.stringslite_IndexByte Tryz.lays217 s c w
 .rename_i h s n;split at hv
  .rename_i a;cases hv;simp only[bH,pJ] at a;exact (b49 s n a.1 (TG a.2.1) (TG a.2.2)).frame' rfl rfl _
  .cases hv
 .rename_i h s x;split at hv
  .rename_i a;cases hv;exact b3V s x (by have:=TG a; omega) _
  .cases hv
 .rename_i h o l b;split at hv
  .rename_i i j;split at hv
   .rename_i a;cases hv;simp only[bH] at a;rw[aXX j];exact (b3Y o i b (TG a.1) (TG a.2)).frame' rfl (by rfl) _
   .cases hv
  .cases hv
 grind [b3T]
 grind [b3W]
 .cases hv
end Go.Proofs.YtagkcbgkhgccmaaGreatDoor
namespace Go.Proofs.YtagkcbgkhgccmaaGreatDoor
end Go.Proofs.YtagkcbgkhgccmaaGreatDoor
namespace Go.Proofs.YtagkcbgkhgccmaaGreatDoor.W
open Go.RowKit
set_option maxRecDepth 1000000
section
abbrev h_ (n:Nat):PV:=.func (.func n) [] []
abbrev fU (n:Nat) (l:ai):PV:=.func (.func n) [] l
noncomputable abbrev c5V (l:f_):PV:=.str ⟨l.toArray⟩
abbrev d_ (h:aH):Option (PV × aH):=some (.tuple [],h)
abbrev l7:Option (PV × aH):=some (.bool false,[])
abbrev vG:Option (PV × aH):=some (.bool true,[])
abbrev af (n:Int):PV:=.int .i64 n
abbrev a_ (l:ai):PV:=.sl false 1 l
abbrev ag:PV:=.ptr 0 0
abbrev fQ:=ByteArray
abbrev S0:List Sh := [.S,.L false 5,.L false 9,.L false 3,.L false 3,.L false 2,.L false 3]
abbrev A0 (u:Sh.V S0):PV := .agg [.str u.1,.sl false 5 u.2.1,.sl false 9 u.2.2.1,.sl false 3 u.2.2.2.1,.sl false 3 u.2.2.2.2.1,.sl false 2 u.2.2.2.2.2.1,.sl false 3 u.2.2.2.2.2.2.1]
abbrev S1:List Sh := [.I .i64,.I .i64,.I .i64,.L false 4]
abbrev A1 (u:Sh.V S1):PV := .agg [.int .i64 u.1,.int .i64 u.2.1,.int .i64 u.2.2.1,.sl false 4 u.2.2.2.1]
abbrev O1 (u:Sh.V S1):Option (ai):=some [.int .i64 u.1,.int .i64 u.2.1,.int .i64 u.2.2.1,.sl false 4 u.2.2.2.1]
abbrev S4:List Sh := [.S,.B,.B,.B,.I .i64]
abbrev A4 (u:Sh.V S4):PV := .agg [.str u.1,.bool u.2.1,.bool u.2.2.1,.bool u.2.2.2.1,.int .i64 u.2.2.2.2.1]
abbrev O4 (u:Sh.V S4):Option (ai):=some [.str u.1,.bool u.2.1,.bool u.2.2.1,.bool u.2.2.2.1,.int .i64 u.2.2.2.2.1]
abbrev S5:List Sh := [.S,.L false 1,.L false 1,.L false 1,.I .i64,.I .i64,.L false 1,.L false 4,.L false 8]
abbrev A5 (u:Sh.V S5):PV := .agg [.str u.1,.sl false 1 u.2.1,.sl false 1 u.2.2.1,.sl false 1 u.2.2.2.1,.int .i64 u.2.2.2.2.1,.int .i64 u.2.2.2.2.2.1,.sl false 1 u.2.2.2.2.2.2.1,.sl false 4 u.2.2.2.2.2.2.2.1,.sl false 8 u.2.2.2.2.2.2.2.2.1]
abbrev S6:List Sh := [.L false 1,.I .i64,.I .i64,.L false 1,.L false 4,.L false 8]
abbrev A6 (u:Sh.V S6):PV := .agg [.sl false 1 u.1,.int .i64 u.2.1,.int .i64 u.2.2.1,.sl false 1 u.2.2.2.1,.sl false 4 u.2.2.2.2.1,.sl false 8 u.2.2.2.2.2.1]
abbrev O6 (u:Sh.V S6):Option (ai):=some [.sl false 1 u.1,.int .i64 u.2.1,.int .i64 u.2.2.1,.sl false 1 u.2.2.2.1,.sl false 4 u.2.2.2.2.1,.sl false 8 u.2.2.2.2.2.1]
abbrev S7:List Sh := [.S,.I .i64,.I .i64,.I .i64]
abbrev A7 (u:Sh.V S7):PV := .agg [.str u.1,.int .i64 u.2.1,.int .i64 u.2.2.1,.int .i64 u.2.2.2.1]
abbrev O7 (u:Sh.V S7):Option (ai):=some [.str u.1,.int .i64 u.2.1,.int .i64 u.2.2.1,.int .i64 u.2.2.2.1]
abbrev S8:List Sh := [.S,.S,.L false 1]
abbrev A8 (u:Sh.V S8):PV := .agg [.str u.1,.str u.2.1,.sl false 1 u.2.2.1]
abbrev O8 (u:Sh.V S8):Option (ai):=some [.str u.1,.str u.2.1,.sl false 1 u.2.2.1]
abbrev S9:List Sh := [.I .i64,.I .i64,.I .i64,.I .i64,.I .i64,.I .i64,.L false 4,.L false 5]
abbrev A9 (u:Sh.V S9):PV := .agg [.int .i64 u.1,.int .i64 u.2.1,.int .i64 u.2.2.1,.int .i64 u.2.2.2.1,.int .i64 u.2.2.2.2.1,.int .i64 u.2.2.2.2.2.1,.sl false 4 u.2.2.2.2.2.2.1,.sl false 5 u.2.2.2.2.2.2.2.1]
abbrev O9 (u:Sh.V S9):Option (ai):=some [.int .i64 u.1,.int .i64 u.2.1,.int .i64 u.2.2.1,.int .i64 u.2.2.2.1,.int .i64 u.2.2.2.2.1,.int .i64 u.2.2.2.2.2.1,.sl false 4 u.2.2.2.2.2.2.1,.sl false 5 u.2.2.2.2.2.2.2.1]
abbrev kP:List Sh := [.S,.L false 2]
abbrev CU (u:Sh.V kP):PV := .agg [.str u.1,.sl false 2 u.2.1]
abbrev yg (u:Sh.V kP):Option (ai):=some [.str u.1,.sl false 2 u.2.1]
abbrev qm:List Sh := [.I .i64,.I .i64,.I .i64,.I .i64,.L false 4]
abbrev LW (u:Sh.V qm):PV := .agg [.int .i64 u.1,.int .i64 u.2.1,.int .i64 u.2.2.1,.int .i64 u.2.2.2.1,.sl false 4 u.2.2.2.2.1]
abbrev O11 (u:Sh.V qm):Option (ai):=some [.int .i64 u.1,.int .i64 u.2.1,.int .i64 u.2.2.1,.int .i64 u.2.2.2.1,.sl false 4 u.2.2.2.2.1]
abbrev zt:List Sh := [.S,.S]
abbrev LX (u:Sh.V zt):PV := .agg [.str u.1,.str u.2.1]
abbrev jV:List Sh := [.S,.L false 2,.I .i64]
abbrev xW (u:Sh.V jV):PV := .agg [.str u.1,.sl false 2 u.2.1,.int .i64 u.2.2.1]
abbrev wQ (u:Sh.V jV):Option (ai):=some [.str u.1,.sl false 2 u.2.1,.int .i64 u.2.2.1]
abbrev BG:List Sh := [.S,.I .i64]
abbrev A14 (u:Sh.V BG):PV := .agg [.str u.1,.int .i64 u.2.1]
abbrev iL:List Sh := [.L true 5]
abbrev aG (u:Sh.V iL):Option (ai):=some [.sl true 5 u.1]
abbrev aC:List Sh := [.L false 5,.I .i64,.I .i64,.I .i64]
abbrev aA (u:Sh.V aC):Option (ai):=some [.sl false 5 u.1,.int .i64 u.2.1,.int .i64 u.2.2.1,.int .i64 u.2.2.2.1]
abbrev Cj:List Sh := [.pt 1 0,.I .i64,.L false 1]
abbrev U0 (u:Sh.V Cj):Option (ai):=some [.ptr 1 0,.int .i64 u.1,.sl false 1 u.2.1]
abbrev zu:List Sh := [.pt 1 0,.S,.L true 5,.L true 9,.L true 3,.L true 3,.L true 2,.L true 3,.L false 1,.I .i64]
abbrev GY (u:Sh.V zu):Option (ai):=some [.ptr 1 0,.str u.1,.sl true 5 u.2.1,.sl true 9 u.2.2.1,.sl true 3 u.2.2.2.1,.sl true 3 u.2.2.2.2.1,.sl true 2 u.2.2.2.2.2.1,.sl true 3 u.2.2.2.2.2.2.1,.sl false 1 u.2.2.2.2.2.2.2.1,.int .i64 u.2.2.2.2.2.2.2.2.1]
abbrev PR:List Sh := [.I .i64]
abbrev nP (u:Sh.V PR):Option (ai):=some [.int .i64 u.1]
abbrev lq:List Sh := [.S,.L true 2]
abbrev lT (u:Sh.V lq):Option (ai):=some [.str u.1,.sl true 2 u.2.1]
abbrev jO:List Sh := [.S,.L true 5,.L true 9,.L true 3,.L true 3,.L true 2,.L true 3]
abbrev bZ (u:Sh.V jO):Option (ai):=some [.str u.1,.sl true 5 u.2.1,.sl true 9 u.2.2.1,.sl true 3 u.2.2.2.1,.sl true 3 u.2.2.2.2.1,.sl true 2 u.2.2.2.2.2.1,.sl true 3 u.2.2.2.2.2.2.1]
abbrev dY:List Sh := [.S,.S,.L true 1]
abbrev dB (u:Sh.V dY):Option (ai):=some [.str u.1,.str u.2.1,.sl true 1 u.2.2.1]
abbrev S26:List Sh := [.I .u8,.I .u8,.I .u8,.I .u8,.L false 2,.L false 3,.L false 1]
abbrev eQ:List Sh := [.pt 1 0,.I .i64,.L true 1]
abbrev bF (u:Sh.V eQ):Option (ai):=some [.ptr 1 0,.int .i64 u.1,.sl true 1 u.2.1]
abbrev mg:List Sh := [.I .i64,.S,.I .i64,.I .i64,.I .i64]
abbrev qj (u:Sh.V mg):PV := .agg [.int .i64 u.1,.str u.2.1,.int .i64 u.2.2.1,.int .i64 u.2.2.2.1,.int .i64 u.2.2.2.2.1]
abbrev O30 (u:Sh.V mg):Option (ai):=some [.int .i64 u.1,.str u.2.1,.int .i64 u.2.2.1,.int .i64 u.2.2.2.1,.int .i64 u.2.2.2.2.1]
abbrev dF:List Sh := [.pt 2 0,.I .i64,.L true 1]
abbrev aX (u:Sh.V dF):Option (ai):=some [.ptr 2 0,.int .i64 u.1,.sl true 1 u.2.1]
abbrev Y5:List Sh := [.fn 40]
abbrev S33:List Sh := [.M]
abbrev O33 (u:Sh.V S33):Option (ai):=some [.mp u.1]
abbrev S34:List Sh := [.L false 3,.L false 3]
abbrev A34 (u:Sh.V S34):PV := .agg [.sl false 3 u.1,.sl false 3 u.2.1]
abbrev S35:List Sh := [.B,.B,.B]
abbrev A35 (u:Sh.V S35):PV := .agg [.bool u.1,.bool u.2.1,.bool u.2.2.1]
abbrev jP:List Sh := [.pt 0 0]
abbrev vT:List Sh := [.bd 174 0,.Y]
abbrev qI (u:Sh.V vT):Option (ai):=some [.dZ 174 0,.dn u.1]
abbrev oP:List Sh := [.B]
abbrev jM (u:Sh.V oP):Option (ai):=some [.bool u.1]
abbrev PS:List Sh := [.bd 174 1,.Y]
abbrev Cf (u:Sh.V PS):Option (ai):=some [.dZ 174 1,.dn u.1]
abbrev U3:List Sh := [.bd 174 0,.L false 1]
abbrev J4:List Sh := [.pt 2 0,.S,.L true 5,.L true 9,.L true 3,.L true 3,.L true 2,.L true 3,.L false 1,.I .i64]
abbrev wS:List Sh := [.L true 1]
abbrev jg (u:Sh.V wS):Option (ai):=some [.sl true 1 u.1]
abbrev jQ:List Sh := [.pt 1 0]
abbrev ay:List Sh := [.pt 1 0,.S,.L true 5,.L true 9,.L true 3,.L true 3,.L true 2,.L true 3,.L true 1,.I .i64]
abbrev aK (u:Sh.V ay):Option (ai):=some [.ptr 1 0,.str u.1,.sl true 5 u.2.1,.sl true 9 u.2.2.1,.sl true 3 u.2.2.2.1,.sl true 3 u.2.2.2.2.1,.sl true 2 u.2.2.2.2.2.1,.sl true 3 u.2.2.2.2.2.2.1,.sl true 1 u.2.2.2.2.2.2.2.1,.int .i64 u.2.2.2.2.2.2.2.2.1]
abbrev dP:List Sh := [.S,.L true 1,.L true 1,.L true 1,.I .i64,.I .i64,.L true 1,.L true 4,.L true 8]
abbrev dW (u:Sh.V dP):Option (ai):=some [.str u.1,.sl true 1 u.2.1,.sl true 1 u.2.2.1,.sl true 1 u.2.2.2.1,.int .i64 u.2.2.2.2.1,.int .i64 u.2.2.2.2.2.1,.sl true 1 u.2.2.2.2.2.2.1,.sl true 4 u.2.2.2.2.2.2.2.1,.sl true 8 u.2.2.2.2.2.2.2.2.1]
abbrev kC:List Sh := [.I .i64,.I .i64,.I .i64,.I .i64,.I .i64,.I .i64,.L false 4,.L true 5]
abbrev jv (u:Sh.V kC):Option (ai):=some [.int .i64 u.1,.int .i64 u.2.1,.int .i64 u.2.2.1,.int .i64 u.2.2.2.1,.int .i64 u.2.2.2.2.1,.int .i64 u.2.2.2.2.2.1,.sl false 4 u.2.2.2.2.2.2.1,.sl true 5 u.2.2.2.2.2.2.2.1]
abbrev BH:List Sh := [.pt 4 0,.I .i64,.L true 1]
abbrev lU (u:Sh.V BH):Option (ai):=some [.ptr 4 0,.int .i64 u.1,.sl true 1 u.2.1]
abbrev gK:List Sh := [.pt 2 0]
abbrev iM:List Sh := [.pt 3 0]
abbrev S52:List Sh := [.I .i64,.I .i64,.I .i64,.L true 4]
abbrev GZ (u:Sh.V S52):Option (ai):=some [.int .i64 u.1,.int .i64 u.2.1,.int .i64 u.2.2.1,.sl true 4 u.2.2.2.1]
abbrev jh:List Sh := [.pt 2 0,.S,.L true 5,.L true 9,.L true 3,.L true 3,.L true 2,.L true 3,.L true 1,.I .i64]
abbrev dQ (u:Sh.V jh):Option (ai):=some [.ptr 2 0,.str u.1,.sl true 5 u.2.1,.sl true 9 u.2.2.1,.sl true 3 u.2.2.2.1,.sl true 3 u.2.2.2.2.1,.sl true 2 u.2.2.2.2.2.1,.sl true 3 u.2.2.2.2.2.2.1,.sl true 1 u.2.2.2.2.2.2.2.1,.int .i64 u.2.2.2.2.2.2.2.2.1]
abbrev ru:List Sh := [.pt 1 0,.S,.L true 5,.L true 9,.L false 3,.L true 3,.L true 2,.L true 3,.L true 1,.I .i64]
abbrev vO (u:Sh.V ru):Option (ai):=some [.ptr 1 0,.str u.1,.sl true 5 u.2.1,.sl true 9 u.2.2.1,.sl false 3 u.2.2.2.1,.sl true 3 u.2.2.2.2.1,.sl true 2 u.2.2.2.2.2.1,.sl true 3 u.2.2.2.2.2.2.1,.sl true 1 u.2.2.2.2.2.2.2.1,.int .i64 u.2.2.2.2.2.2.2.2.1]
abbrev ry:List Sh := [.pt 1 0,.S,.L true 5,.L true 9,.L true 3,.L false 3,.L true 2,.L true 3,.L true 1,.I .i64]
abbrev vP (u:Sh.V ry):Option (ai):=some [.ptr 1 0,.str u.1,.sl true 5 u.2.1,.sl true 9 u.2.2.1,.sl true 3 u.2.2.2.1,.sl false 3 u.2.2.2.2.1,.sl true 2 u.2.2.2.2.2.1,.sl true 3 u.2.2.2.2.2.2.1,.sl true 1 u.2.2.2.2.2.2.2.1,.int .i64 u.2.2.2.2.2.2.2.2.1]
abbrev PT:List Sh := [.pt 2 0,.I .i64,.L false 1]
abbrev Y6:List Sh := [.I .i64,.I .i64,.B]
abbrev ql (u:Sh.V Y6):PV := .agg [.int .i64 u.1,.int .i64 u.2.1,.bool u.2.2.1]
abbrev jb:List Sh := [.pt 0 0,.S,.L true 5,.L true 9,.L true 3,.L true 3,.L true 2,.L true 3,.L true 1,.I .i64]
abbrev jy (u:Sh.V jb):Option (ai):=some [.ptr 0 0,.str u.1,.sl true 5 u.2.1,.sl true 9 u.2.2.1,.sl true 3 u.2.2.2.1,.sl true 3 u.2.2.2.2.1,.sl true 2 u.2.2.2.2.2.1,.sl true 3 u.2.2.2.2.2.2.1,.sl true 1 u.2.2.2.2.2.2.2.1,.int .i64 u.2.2.2.2.2.2.2.2.1]
abbrev Cm:List Sh := [.pt 0 0,.S,.L true 5,.L true 9,.L false 3,.L true 3,.L true 2,.L true 3,.L true 1,.I .i64]
abbrev Eb (u:Sh.V Cm):Option (ai):=some [.ptr 0 0,.str u.1,.sl true 5 u.2.1,.sl true 9 u.2.2.1,.sl false 3 u.2.2.2.1,.sl true 3 u.2.2.2.2.1,.sl true 2 u.2.2.2.2.2.1,.sl true 3 u.2.2.2.2.2.2.1,.sl true 1 u.2.2.2.2.2.2.2.1,.int .i64 u.2.2.2.2.2.2.2.2.1]
abbrev D5:List Sh := [.pt 0 0,.S,.L true 5,.L true 9,.L true 3,.L false 3,.L true 2,.L true 3,.L true 1,.I .i64]
abbrev Ec (u:Sh.V D5):Option (ai):=some [.ptr 0 0,.str u.1,.sl true 5 u.2.1,.sl true 9 u.2.2.1,.sl true 3 u.2.2.2.1,.sl false 3 u.2.2.2.2.1,.sl true 2 u.2.2.2.2.2.1,.sl true 3 u.2.2.2.2.2.2.1,.sl true 1 u.2.2.2.2.2.2.2.1,.int .i64 u.2.2.2.2.2.2.2.2.1]
abbrev S64:List Sh := [.S,.L true 2,.I .i64]
abbrev Y2 (u:Sh.V S64):Option (ai):=some [.str u.1,.sl true 2 u.2.1,.int .i64 u.2.2.1]
abbrev iH:List Sh := [.pt 3 0,.I .i64,.L true 1]
abbrev gY (u:Sh.V iH):Option (ai):=some [.ptr 3 0,.int .i64 u.1,.sl true 1 u.2.1]
abbrev jc:List Sh := [.pt 0 0,.I .i64,.L true 1]
abbrev kX (u:Sh.V jc):Option (ai):=some [.ptr 0 0,.int .i64 u.1,.sl true 1 u.2.1]
abbrev jW:List Sh := [.pt 3 0,.S,.L true 5,.L true 9,.L true 3,.L true 3,.L true 2,.L true 3,.L true 1,.I .i64]
abbrev iZ (u:Sh.V jW):Option (ai):=some [.ptr 3 0,.str u.1,.sl true 5 u.2.1,.sl true 9 u.2.2.1,.sl true 3 u.2.2.2.1,.sl true 3 u.2.2.2.2.1,.sl true 2 u.2.2.2.2.2.1,.sl true 3 u.2.2.2.2.2.2.1,.sl true 1 u.2.2.2.2.2.2.2.1,.int .i64 u.2.2.2.2.2.2.2.2.1]
abbrev S68:List Sh := [.I .i64,.I .i64,.I .i64,.I .i64,.I .i64,.I .i64,.L true 4,.L true 5]
abbrev O68 (u:Sh.V S68):Option (ai):=some [.int .i64 u.1,.int .i64 u.2.1,.int .i64 u.2.2.1,.int .i64 u.2.2.2.1,.int .i64 u.2.2.2.2.1,.int .i64 u.2.2.2.2.2.1,.sl true 4 u.2.2.2.2.2.2.1,.sl true 5 u.2.2.2.2.2.2.2.1]
abbrev J5:List Sh := [.pt 3 0,.S,.L true 5,.L true 9,.L false 3,.L true 3,.L true 2,.L true 3,.L true 1,.I .i64]
abbrev Iy (u:Sh.V J5):Option (ai):=some [.ptr 3 0,.str u.1,.sl true 5 u.2.1,.sl true 9 u.2.2.1,.sl false 3 u.2.2.2.1,.sl true 3 u.2.2.2.2.1,.sl true 2 u.2.2.2.2.2.1,.sl true 3 u.2.2.2.2.2.2.1,.sl true 1 u.2.2.2.2.2.2.2.1,.int .i64 u.2.2.2.2.2.2.2.2.1]
abbrev Gf:List Sh := [.pt 3 0,.S,.L true 5,.L true 9,.L true 3,.L false 3,.L true 2,.L true 3,.L true 1,.I .i64]
abbrev Ci (u:Sh.V Gf):Option (ai):=some [.ptr 3 0,.str u.1,.sl true 5 u.2.1,.sl true 9 u.2.2.1,.sl true 3 u.2.2.2.1,.sl false 3 u.2.2.2.2.1,.sl true 2 u.2.2.2.2.2.1,.sl true 3 u.2.2.2.2.2.2.1,.sl true 1 u.2.2.2.2.2.2.2.1,.int .i64 u.2.2.2.2.2.2.2.2.1]
abbrev Y7:List Sh := [.pt 3 0,.S,.L true 5,.L true 9,.L true 3,.L true 3,.L true 2,.L true 3,.L false 1,.I .i64]
def lkT {a:Type} (g:Nat) (d:a):List (List Nat×a)->a
 | []=>d
 | x::l=>bif x.1.any (Nat.beq g) then x.2 else lkT g d l
def vvT (g:TypeId):Option RS:=lkT g none [([2,3,31],some (.ti .i64)),([4],some (.tb)),([5,6,300,301],some (.ti .u8)),([9,10,11],some (.ts)),([12,229,269],some (.ti .u64)),([21,303,304],some (.ti .i32)),([24,73,88],some (.tl false 5)),([25],some (.tl false 9)),([26,28],some (.tl false 3)),([27,111,119,249],some (.tl false 2)),([36,46],some (.tl false 4)),([38],some (.g S1)),([41,45,172,198,214,243],some (.tl false 1)),([44],some (.g S4)),([47],some (.tl false 8)),([51],some (.g S5)),([65],some (.g mg)),([90],some (.g S9)),([94],some (.g qm)),([101],some (.g S7)),([105],some (.g S8)),([113],some (.g kP)),([116],some (.g zt)),([121],some (.g jV)),([124],some (.g BG)),([176],some (.z (.ni))),([266],some (.ti .u32)),([273],some (.g Y6))]
def w0:jd:=([],.tb,[])
def w1:jd:=([],.ti .i64,[])
def w2:jd:=([],.ts,[])
def w3:jd:=([],.tl false 1,[])
def w4:jd:=([],.t [(false,[.S]),(false,[.I .i64])],[])
def w5:jd:=([],.t [(true,S1),(false,[.I .i64]),(false,[.I .i64]),(false,[.I .i64])],[])
def w6:jd:=([],.tl true 1,[])
def w7:jd:=([],.t [(true,S0),(false,[.I .i64]),(false,[.I .i64]),(false,[.I .i64])],[])
def w8:jd:=([.c iL],.t [],[.c iL])
def w9:jd:=([.c Cj,.c aC],.g S1,[.c Cj,.c aC])
def w10:jd:=([.c eQ,.c aC],.g S1,[.c eQ,.c aC])
def w11:jd:=([.c aC],.t [],[.c aC])
def w12:jd:=([.c zu,.c aC],.g S1,[.c zu,.c aC])
def w13:jd:=([.c ay,.c aC],.g S1,[.c ay,.c aC])
def w14:jd:=([],.g S1,[])
def w15:jd:=([],.tl false 5,[])
def w16:jd:=([.c aC],.g mg,[.c aC])
def w17:jd:=([.c dF,.c jO,.c aC],.t [],[.c dF,.c jO,.c aC])
def w18:jd:=([.z Y5],.tb,[.z Y5])
def w20:jd:=([.c S7],.tb,[.c S7])
def w21:jd:=([.c aC],.tb,[.c aC])
def w22:jd:=([.c J4,.z jP,.c aC],.g S1,[.c J4,.z jP,.c aC])
def w23:jd:=([.c jh,.z jP,.c aC],.g S1,[.c jh,.z jP,.c aC])
def w24:jd:=([.z jQ,.c J4,.c aC],.g S1,[.z jQ,.c J4,.c aC])
def w25:jd:=([.z jQ,.c jh,.c aC],.g S1,[.z jQ,.c jh,.c aC])
def w26:jd:=([.z jQ,.c iL],.t [],[.z jQ,.c iL])
def w27:jd:=([.c ay,.c aC],.t [],[.c ay,.c aC])
def w28:jd:=([.z gK,.z iM,.c BH,.c jO,.c aC],.t [],[.z gK,.z iM,.c BH,.c jO,.c aC])
def w29:jd:=([.z jQ,.c jh,.c aC],.tb,[.z jQ,.c jh,.c aC])
def w30:jd:=([.c dF,.c dP,.c aC],.t [],[.c dF,.c dP,.c aC])
def w31:jd:=([.c eQ,.c aC],.ti .i64,[.c eQ,.c aC])
def w32:jd:=([.z jQ,.c PT,.c aC],.g S1,[.z jQ,.c PT,.c aC])
def w33:jd:=([.z jQ,.c dF,.c aC],.g S1,[.z jQ,.c dF,.c aC])
def w34:jd:=([.c ay,.c aC],.ti .i64,[.c ay,.c aC])
def wwT (g:FuncId):List jd:=lkT g [] [([3,4,5,10,13,29,30,31,32,40,41,42,43,45,46,47,48,49,50,52,53,54,55,56,57,58,102,109,110,139,140,153,179,192,197,199,201,207,215,217,218],[w0]),([6,11],[w7]),([7,9,25,35],[w4]),([8],[w5]),([12],[([],.t [(false,[.S]),(false,[.I .i64]),(false,[.I .i64]),(false,[.I .i64])],[])]),([14,60,77,79,81,83,129,156,162,165,172,174,177,247,274],[w2]),([15],[([],.z (.pt 0 0),[.c aC])]),([16,21,28],[w11]),([17],[([.c aC],.ts,[.c aC])]),([18],[([.c eQ,.c aC],.tb,[.c eQ,.c aC])]),([19,63],[w16]),([20,65,67,69,72,74],[w17]),([22,39,84,85,86,87,88,89,90,91,92,93,94,95,96,97,98,99,100,101,103,104,105,106,107,108,111,112,113,114,115,116,132,134,135,149,150,151,152,180,181,182,183,184,185,186,187,188,189,190,193,194,195,196,198,229,242,245,248,250,273],[w1]),([23],[([.c aC],.t [(false,[.I .i64]),(false,[.I .i64]),(false,[.I .i64])],[.c aC])]),([24,34,117,118,119,120,121],[w8]),([26,159,200,237,246],[w6]),([27,131,211],[w9,w10]),([33],[([],.t [(false,[.I .i64]),(false,[.I .i64])],[])]),([37],[([.c ay,.c aC],.tb,[.c ay,.c aC]),([.c zu,.c aC],.tb,[.c zu,.c aC])]),([38,143,145,147,148],[w27]),([44],[w18]),([51],[w18,w0]),([59],[([],.t [(false,[.L false 5]),(false,[.I .i64]),(false,[.I .i64]),(false,[.I .i64])],[])]),([61,76,78,80,82,157,158,161,171],[w3]),([62,144],[w21]),([64,66,68,70,71,73],[w28]),([75],[([],.tl true 3,[])]),([122],[([.c iL,.z jP,.c kP],.t [],[.c iL,.z jP,.c kP]),([.c iL,.z jP,.c jV],.t [],[.c iL,.z jP,.c jV]),([.c iL,.z jP,.c wS,.c S9],.t [],[.c iL,.z jP,.c wS,.c S9]),([.c iL,.z jP],.t [],[.c iL,.z jP])]),([123],[([.z gK,.c kP,.c iL],.t [],[.z gK,.c kP,.c iL])]),([124],[([.z gK,.c jV,.c iL],.t [],[.z gK,.c jV,.c iL])]),([125],[([.c oP,.c PS],.t [],[.c oP,.c PS])]),([126],[([.c vT],.z (.ni),[.c vT])]),([127],[w15]),([128],[([.c vT],.t [(false,[.I .i64]),(false,[.ni])],[.c vT])]),([130],[([.c vT],.ts,[.c U3])]),([133],[([.c PR],.ti .i64,[.c PR])]),([136,203],[w26]),([137,138],[w14]),([142],[w29]),([146],[([.c ru,.c aC],.g S8,[.c ru,.c aC]),([.c ay,.c aC],.g S8,[.c ay,.c aC]),([.c ry,.c aC],.g S8,[.c ry,.c aC])]),([160],[([.c eQ,.c aC],.ts,[.c eQ,.c aC])]),([163],[([.c eQ,.c aC],.tl false 1,[.c eQ,.c aC])]),([164],[([.c aC],.ti .i64,[.c aC])]),([166],[([.c iH,.c dP,.z jP,.c aC],.t [],[.c iH,.c dP,.z jP,.c aC]),([.c iH,.c dY,.z jP,.c aC],.t [],[.c iH,.c dY,.z jP,.c aC])]),([167],[([.c dP,.z gK,.c iH,.c aC],.t [],[.c dP,.z gK,.c iH,.c aC])]),([168],[([.c iH,.c dP,.c oP,.c aC],.t [],[.c iH,.c dP,.c oP,.c aC])]),([169,170],[w30]),([173],[([.c dY,.z gK,.c iH,.c aC],.t [],[.c dY,.z gK,.c iH,.c aC])]),([175],[([.c aC,.c dP,.z iM,.c jb],.t [],[.c aC,.c dP,.z iM,.c jb]),([.c aC,.c dY,.z iM,.c Cm],.t [],[.c aC,.c dY,.z iM,.c Cm]),([.c aC,.c dY,.z iM,.c jb],.t [],[.c aC,.c dY,.z iM,.c jb]),([.c aC,.c dY,.z iM,.c D5],.t [],[.c aC,.c dY,.z iM,.c D5]),([.c aC,.z iM,.c lq,.c jb],.t [],[.c aC,.z iM,.c lq,.c jb]),([.c aC,.z iM,.c lq,.c jc],.t [],[.c aC,.z iM,.c lq,.c jc]),([.c aC,.z iM,.c kC,.c jb],.t [],[.c aC,.z iM,.c kC,.c jb]),([.c aC,.c dP,.z iM,.c jc],.t [],[.c aC,.c dP,.z iM,.c jc]),([.c aC,.z iM,.c kC,.c jc],.t [],[.c aC,.z iM,.c kC,.c jc]),([.c aC,.c dY,.z iM,.c jc],.t [],[.c aC,.c dY,.z iM,.c jc])]),([176],[([.z gK,.c lq,.c iH,.c aC],.t [],[.z gK,.c lq,.c iH,.c aC])]),([178],[w31]),([191],[w20,w0]),([202],[([.z iM,.c wS,.c S9,.c iL],.t [],[.z iM,.c wS,.c S9,.c iL])]),([204],[([.c vT],.t [],[.c vT])]),([205],[([.a],.o (.H 0 0 5),[.a]),w15]),([206],[([],.tl true 5,[])]),([212],[([.c Cj,.c aC],.t [(false,[.I .i64]),(false,[.B]),(false,[.B])],[.c Cj,.c aC]),([.c eQ,.c aC],.t [(false,[.I .i64]),(false,[.B]),(false,[.B])],[.c eQ,.c aC])]),([213],[([.a],.t [],[.a])]),([214],[([],.t [(false,[.I .i64]),(false,[.B])],[])]),([216],[([.c wS],.tb,[.c wS])]),([223],[([.c ay,.c aC],.ts,[.c ay,.c aC]),([.c ru,.c aC],.ts,[.c ru,.c aC]),([.c ry,.c aC],.ts,[.c ry,.c aC])]),([224],[([.c dP,.z gK,.c jW,.c aC],.t [],[.c dP,.z gK,.c jW,.c aC])]),([225],[w34]),([226],[([.c ay,.c aC],.g S9,[.c ay,.c aC])]),([227],[([.c dY,.z gK,.c J5,.c aC],.t [],[.c dY,.z gK,.c J5,.c aC]),([.c dY,.z gK,.c jW,.c aC],.t [],[.c dY,.z gK,.c jW,.c aC]),([.c dY,.z gK,.c Gf,.c aC],.t [],[.c dY,.z gK,.c Gf,.c aC])]),([228],[([.z gK,.c lq,.c jW,.c aC],.t [],[.z gK,.c lq,.c jW,.c aC])]),([238],[([.z jQ,.c dF,.c aC],.tl false 1,[.z jQ,.c dF,.c aC])]),([239],[([.z jQ,.c dF,.c aC],.tb,[.z jQ,.c dF,.c aC])]),([240],[([.c Cj,.c aC],.ti .i64,[.c Cj,.c aC]),w31]),([241],[([.z gK,.c kC,.c iH,.c aC],.t [],[.z gK,.c kC,.c iH,.c aC])]),([243],[w20]),([244],[([.c S7],.ti .i64,[.c S7]),w1]),([254],[([.c PT,.z jP,.c aC],.g S1,[.c PT,.z jP,.c aC]),([.c dF,.z jP,.c aC],.g S1,[.c dF,.z jP,.c aC])]),([255,256,257],[w32,w33]),([258],[([.z jQ,.c J4,.c aC],.ti .i64,[.z jQ,.c J4,.c aC]),w1,([.z jQ,.c jh,.c aC],.ti .i64,[.z jQ,.c jh,.c aC])]),([261],[w34,([.c zu,.c aC],.ti .i64,[.c zu,.c aC])]),([262,278,286,293],[w12,w13]),([263],[([.z gK,.c kC,.c jW,.c aC],.t [],[.z gK,.c kC,.c jW,.c aC])]),([275],[([.z jQ,.c PT,.c aC],.t [],[.z jQ,.c PT,.c aC]),([.z jQ,.c dF,.c aC],.t [],[.z jQ,.c dF,.c aC])]),([276],[w22,w12,w23,w13]),([277,292,298],[w24,w25]),([285],[([.z jQ,.c J4,.c aC],.tb,[.z jQ,.c J4,.c aC]),w29]),([296],[w12,([.c Y7,.z jP,.c oP,.c aC],.g S1,[.c Y7,.z jP,.c oP,.c aC]),w22,w13,([.c jW,.z jP,.c oP,.c aC],.g S1,[.c jW,.z jP,.c oP,.c aC]),w23]),([297],[([.z gK,.c oP,.c Y7,.c aC],.g S1,[.z gK,.c oP,.c Y7,.c aC]),([.z gK,.c oP,.c jW,.c aC],.g S1,[.z gK,.c oP,.c jW,.c aC])])]
def d0:xY:=⟨[],[],[],[],[],[],[],[],[],[],[],[],false⟩
def pZ1 (a0:List Nat):xY:=⟨a0,[],[],[],[],[],[],[],[],[],[],[],false⟩
def pZ2 (a0 a1:List Nat):xY:=⟨a0,a1,[],[],[],[],[],[],[],[],[],[],false⟩
def Wu (a0 a1 a2:List Nat) (a3:List (Nat×List Nat)):xY:=⟨a0,a1,a2,a3,[],[],[],[],[],[],[],[],false⟩
def Nq (a0 a1 a2:List Nat) (a3:List (Nat×List Nat)) (a4:List (Nat×List Nat)):xY:=⟨a0,a1,a2,a3,a4,[],[],[],[],[],[],[],false⟩
def yG (a0 a1 a2:List Nat) (a3:List (Nat×List Nat)) (a4:List (Nat×List Nat)) (a5:List (Nat×List Nat)):xY:=⟨a0,a1,a2,a3,a4,a5,[],[],[],[],[],[],false⟩
def jE (a0 a1 a2:List Nat) (a3:List (Nat×List Nat)) (a4:List (Nat×List Nat)) (a5:List (Nat×List Nat)) (a6:List (Nat×List Nat)):xY:=⟨a0,a1,a2,a3,a4,a5,a6,[],[],[],[],[],false⟩
def oJ (a0 a1 a2:List Nat) (a3:List (Nat×List Nat)) (a4:List (Nat×List Nat)) (a5:List (Nat×List Nat)) (a6:List (Nat×List Nat)) (a7:List Nat):xY:=⟨a0,a1,a2,a3,a4,a5,a6,a7,[],[],[],[],false⟩
def oh (a0 a1 a2:List Nat) (a3:List (Nat×List Nat)) (a4:List (Nat×List Nat)) (a5:List (Nat×List Nat)) (a6:List (Nat×List Nat)) (a7:List Nat) (a8:List (List Nat×Bool)):xY:=⟨a0,a1,a2,a3,a4,a5,a6,a7,a8,[],[],[],false⟩
def bWA (a0 a1 a2:List Nat) (a3:List (Nat×List Nat)) (a4:List (Nat×List Nat)) (a5:List (Nat×List Nat)) (a6:List (Nat×List Nat)) (a7:List Nat) (a8:List (List Nat×Bool)) (a9:List (Nat×List Nat)):xY:=⟨a0,a1,a2,a3,a4,a5,a6,a7,a8,a9,[],[],false⟩
def Ju (a0 a1 a2:List Nat) (a3:List (Nat×List Nat)) (a4:List (Nat×List Nat)) (a5:List (Nat×List Nat)) (a6:List (Nat×List Nat)) (a7:List Nat) (a8:List (List Nat×Bool)) (a9:List (Nat×List Nat)) (Dn:List Nat):xY:=⟨a0,a1,a2,a3,a4,a5,a6,a7,a8,a9,Dn,[],false⟩
def iU (a0 a1 a2:List Nat) (a3:List (Nat×List Nat)) (a4:List (Nat×List Nat)) (a5:List (Nat×List Nat)) (a6:List (Nat×List Nat)) (a7:List Nat) (a8:List (List Nat×Bool)) (a9:List (Nat×List Nat)) (Dn Sl:List Nat):xY:=⟨a0,a1,a2,a3,a4,a5,a6,a7,a8,a9,Dn,Sl,false⟩
def dm:List Nat := [0,0,0,4]
def iV:List Nat := [0,1]
def jm:List Nat := [0,0,1]
def kU:List Nat := [0,5,9,3,3,2,3]
def mO:List Nat := [0,1,1,1,0,0,1,4,8]
def pz:List Nat := [0,1,2]
def qA:List Nat := [1,2,15,16,17]
def rZ:List Nat := [1,5,8,9,10]
def uQ:List Nat := [0,0,5,9,3,3,2,3,1,0]
def uS:List Nat := [0,2]
def vz:List Nat := [0,2,0]
def yH:List Nat := [2,3]
def yI:List Nat := [0,0,0,0,0,0,4,5]
def Bi:List Nat := [0,1,12,13]
def Bj:List Nat := [1,8,9]
def Bl:List Nat := [0,1,7,8]
def Dy:List Nat := [5,0,0,0]
def FX:List Nat := [0,1,2,3]
def FY:List Nat := [0,0,0,0,4]
def FZ:List Nat := [0,1,5]
def Jz:List Nat := [0,2,3]
def KC:List Nat := [0,1,2,7,8,9,15,16,17]
def Nv:List Nat := [0,1,4]
def Nw:List Nat := [0,1,5,7,8,9,10]
def X0:List Nat := [1,0,0,1,4,8]
def X3:List Nat := [0,1,4,5]
def X4:List Nat := [1,5,6,56]
def a4B:List Nat := [2,3,27,28,29]
def a4C:List Nat := [0,1,5,12,13]
def KD:List Nat := [1,3,25,26,27]
def a4E:List Nat := [1,3,116,117,118]
def T_:List Nat := [0,1,5,6,8,9]
def We:List Nat := [2,3,4,5,30,31,32]
def a4H:List Nat := [0,2,3,8,9,10]
def a4I:List Nat := [0,1,5,7,8]
def a4J:List Nat := [1,3,23,24,25]
def N_:List Nat := [1,3,6,95,96,97]
def aCL:List Nat := [2,3,5,27,28,29,44,45]
def aCM:List Nat := [2,3,72,73,74]
def aCN:List Nat := [2,3,10,86,87,91,92,93]
def aCO:List Nat := [2,3,123,124,125]
def aCP:List Nat := [2,148,149,150]
def aCQ:List Nat := [6,7,8,9,10,23,24,25]
def aCR:List Nat := [0,4,14,15,16]
def aCS:List Nat := [1,4,49,50,51]
def aCT:List Nat := [0,1,5,39,40,41]
def aCU:List Nat := [1,8,63,64,65]
def aCV:List Nat := [1,3,5,25,26,27,42,43,44]
def aCW:List Nat := [1,3,72,73,74]
def aCX:List Nat := [1,3,88,89,90]
def aCY:List Nat := [1,3,116,117,118,128,129,130]
def aCZ:List Nat := [3,153,154,155]
def aC':List Nat := [3,18,153,154,155,165,166,167]
def aD0:List Nat := [2,3,4,5,60,61,62]
def aD1:List Nat := [2,3,5,97,98,99]
def aD2:List Nat := [1,2,3,87,88,89]
def aD3:List Nat := [0,2,10,11,12]
def aD4:List Nat := [1,2,13,14,15,56]
def aD5:List Nat := [1,5,56,234,235]
def aD6:List Nat := [1,2,3,18,19,20]
def aD7:List Nat := [1,2,10,11,12]
def aD8:List Nat := [0,2,12,13,14]
def aD9:List Nat := [1,4,26,27,28,32,33,34]
def aDA:List Nat := [1,8,59,60,61]
def aDB:List Nat := [1,8,11,101,102,103]
def aDC:List Nat := [1,8,11,117,118,119]
def aDD:List Nat := [1,8,11,17,117,118,119,166,167,168]
def aDE:List Nat := [3,14,15,16,37,38,39]
def aDF:List Nat := [1,3,15,16,17]
def aDG:List Nat := [1,3,15,16,17,38,39,40]
def aDH:List Nat := [3,10,57,58,59]
def aDI:List Nat := [3,10,57,58,59,80,81,82]
def aDJ:List Nat := [1,3,6,56,57,58]
def aDK:List Nat := [1,3,6,95,96,97,136,137,138]
def aDL:List Nat := [3,5,59,60,61]
def aCH (g:FuncId):xY:=lkT g d0 [([3],(Nq [0] [] [] [] [(4,[0])])),([4],(jE [1,2,3,4,5,6,7,10,11,12] [] [] [] [] [] [(1,kU),(7,dm)])),([5],(jE [0,3,4,5,6,7,8,9,10,11,12,13,14] [] [] [] [(7,[7,8,9,10,11,12,13,14]),(9,[7,11,12,13,14])] [] [(3,kU),(7,kU)])),([6],(iU [0,2,3,4,5,6] [] [] [] [(7,[2,6]),(8,[2,6]),(10,[2,6]),(13,[2])] [(6,[2,6])] [(2,kU),(6,jm)] [] [(kU,true),([],true),([],true),([],true)] [] [8,48] [8])),([7],(oJ [0,1,4,5,6,7] [] [] [(0,kU)] [(5,[1]),(10,[6]),(12,[6])] [] [(1,kU),(5,[5])] [1])),([8],(iU [0,1,4,5,6,7,8] [] [] [(0,[1])] [(8,[4])] [] [(4,dm)] [] [(dm,true),([],true),([],true),([],true)] [] [10] [10])),([9],(oJ [0,1,3,7,8] [] [] [(0,[1]),(1,dm)] [(4,[0,3]),(7,[0,3])] [] [(3,dm),(8,[5])] [3])),([10,64,66,71,73,90,93,95,97,100,103,106,107,108,111,114,115,125,184,193,215,218,239],(pZ1 iV)),([11],(iU [0,2,6,7,8,9] [] [] [] [(7,[2,6]),(8,[2,6]),(10,[2,6]),(13,[2,6])] [(6,[2,6])] [(2,kU),(6,uQ)] [] [(kU,true),([],true),([],true),([],true)] [] [11,59] [11])),([12],(jE [0,2,3,4,5,6] [] [] [] [(5,[6]),(8,[2])] [] [(6,kU)])),([13],(oJ [0,1,2,3,5,6,7] [] [] [(0,kU),(1,kU)] [] [] [(2,kU),(3,kU)] yH)),([14],(oJ [0,1,3,7] [] [] [(0,kU),(3,[5])] [] [] [(1,kU)] [1])),([15],(Wu [0,3,4,5,6] [] [] [(3,[5])])),([16],(jE iV [] [] [] [] [] [(0,Dy)])),([17],(jE [0] [] [] [] [(5,[0])] [] [(0,Dy)])),([18],(jE [0,5] [] [] [] [] [] [(0,jm)])),([19],(jE uS [] [] [] [(6,uS)] [] [(0,Dy)])),([20],(iU [0,1,2,3,4,5,6,7] [] [6000008] [] [] [] [(0,jm),(1,kU)] [] [] [] [56] [8,11,14,18,21,25,28,32,35,39,42,1000001,1000004])),([21],(iU Nv [] [] [] [(2,iV)] [] [(0,Dy)] [] [] [] [] [24,26,1000001])),([22],(iU [0,1,3,4,5,6,7] [] [] [(0,kU)] [] [] [(1,kU),(3,[3]),(4,[1]),(5,[1]),(6,[1]),(7,[1])] [1] [] [(7,[9000003,9000004,9000005,9000006,9000007])] [] [9,12])),([23],(jE [0] [] [] [] [(6,[0])] [] [(0,Dy)])),([24],(Ju [0,1,2,3,5,6,7,9,10,11,13,15,17,27,28,29,44,45,72,73,74,86,87,91,92,93,123,124,125,148,149,150] [] [] [(1,kU),(11,[3]),(27,[5]),(72,[9]),(86,[3,3]),(91,[3]),(123,[2]),(148,[3])] [(6,a4B),(10,aCL),(13,aCL),(14,[2,3,5,27,28,29]),(17,a4B),(18,a4B),(19,yH),(21,aCM),(23,aCM),(24,yH),(26,[2,3,86,87]),(29,aCN),(35,aCN),(36,[2,3,86,87]),(37,yH),(39,aCO),(44,aCO),(45,yH),(47,aCP),(54,aCP)] [(5,a4B),(9,aCL),(20,aCM),(25,[2,3,86,87]),(28,aCN),(38,aCO),(46,aCP)] [(0,[5]),(3,kU),(9,mO),(13,jm),(15,uS),(17,vz)] [3] [] [] [48,53,55,90,100,104])),([25],(jE [0,5,6,7,8,9,10,12,23,24,25,67] [] [6] [(0,[5]),(23,[5])] [(5,[0]),(11,aCQ),(15,[6,7,8,9,10,12,23,24,25]),(19,[6,7,8,10,12,23,24,25]),(28,aCQ),(29,[6,10])] [(10,aCQ)] [(6,iV)])),([26],(oh [0] [] [] [(0,[1])] [(4,[0])] [] [] [] [([1],true)])),([27],(iU [0,2,3,4] [] [] [] [(5,Jz)] [] [(0,jm),(2,dm),(3,dm),(4,dm)] [] [(dm,true)] [] [24] [21,22,1000003,1000004])),([28],(jE [0] [] [] [] [] [] [(0,Dy)])),([29,179,201,217],(Wu iV [] [] [(0,[1])])),([30,32,85,87,89,156,180,182,185,186,188,190,197,199,275],(pZ1 [0])),([31],(yG [0,3,4,5,7,8] [] [] [] [(4,[0,7,8]),(9,[0,7,8]),(10,[0])] [(3,[0,7,8])])),([33],(oJ [0,1,2,4,6,7] [] [] [(0,dm)] [(4,[1,2]),(8,[2]),(11,[4])] [] [(2,dm)] [2])),([34],⟨[0,1,2,3,4,5,6,8,9,10],[],[],[(1,[1]),(2,dm)],[(6,[4,5,6,8]),(11,[4,5,6,8,9,10])],[],[(0,[5]),(5,[1]),(6,dm)],[5,6],[],[],[25,70],[38,45,64,66,68],true⟩),([35],(yG [0,4,6,7,8,11,14,15,16] [20] [] [(0,[5]),(4,[1]),(8,[5]),(14,[5])] [(6,aCR),(8,aCR),(9,[0,4]),(13,[7])] [(5,aCR)])),([37],(jE [0,5] [] [] [] [] [] [(0,uQ)])),([38],(iU pz [54,82] [] [] [] [] [(0,uQ)] [] [] [] [56,84] [49,50,55,77,78,83,1000002])),([39],(oJ [0,1,3,4,6,7,8,9,49,50,51] [62] [] [(0,kU),(4,[1]),(49,[9])] [(4,[1]),(7,[1]),(9,[1]),(12,aCS),(16,[1,4,6,49,50,51]),(20,aCS),(21,[1]),(24,[1])] [(11,aCS)] [(1,kU),(6,mO)] [1])),([40],(oJ FX [] [] [(0,yI),(1,yI)] [] [] [(2,yI),(3,yI)] yH)),([41],(oJ FX [] [] [(0,dm),(1,dm)] [] [] [(2,dm),(3,dm)] yH)),([42],(jE KC [] [] [(0,[5]),(1,[5]),(15,[5])] [(4,pz),(6,qA),(10,qA),(11,[])] [(5,qA)] [(8,FY),(9,FY)])),([43],(oJ FX [] [] [(0,FY),(1,FY)] [] [] [(2,FY),(3,FY)] yH)),([44],(iU [0,1,2,3,4,6,7] [] [] [(0,mO),(1,mO)] [] [] [(3,mO),(4,mO),(6,X0),(7,X0)] [3,4] [] [] [] [9,11])),([45,46],(iU a4C [] [] [(0,[1]),(1,[1])] [(4,iV),(6,Bi),(9,Bi),(10,[])] [(5,Bi)] [] [] [] [] [] [19,23])),([47],(iU a4C [] [] [(0,[4]),(1,[4])] [(4,iV),(6,Bi),(9,Bi),(10,[])] [(5,Bi)] [] [] [] [] [] [19,23])),([48],(jE KC [] [] [(0,[8]),(1,[8]),(15,[8])] [(4,pz),(6,qA),(10,qA),(11,[])] [(5,qA)] [(8,yI),(9,yI)])),([49],(oJ FX [] [] [(0,jm),(1,jm)] [] [] [(2,jm),(3,jm)] yH)),([50],(iU a4C [] [] [(0,[5]),(1,[5])] [(4,iV),(6,Bi),(9,Bi),(10,[])] [(5,Bi)] [] [] [] [] [] [19,23])),([51],(jE KC [] [] [(0,[9]),(1,[9]),(15,[9])] [(4,pz),(6,qA),(10,qA),(11,[])] [(5,qA)] [(8,mO),(9,mO)])),([52],(jE KC [] [] [(0,[3]),(1,[3]),(15,[3])] [(4,pz),(6,qA),(10,qA),(11,[])] [(5,qA)] [(8,jm),(9,jm)])),([53],(jE KC [] [] [(0,[2]),(1,[2]),(15,[2])] [(4,pz),(6,qA),(10,qA),(11,[])] [(5,qA)] [(8,uS),(9,uS)])),([54],(oJ FX [] [] [(0,uS),(1,uS)] [] [] [(2,uS),(3,uS)] yH)),([55,58],(iU a4C [] [] [(0,[2]),(1,[2])] [(4,iV),(6,Bi),(9,Bi),(10,[])] [(5,Bi)] [] [] [] [] [] [19,23])),([56],(jE KC [] [] [(0,[3]),(1,[3]),(15,[3])] [(4,pz),(6,qA),(10,qA),(11,[])] [(5,qA)] [(8,vz),(9,vz)])),([57],(oJ FX [] [] [(0,vz),(1,vz)] [] [] [(2,vz),(3,vz)] yH)),([59],(oh [0,2,3,4,5] [22] [] [] [(4,[0]),(10,[2,3,4,5])] [] [(2,[5])] [] [([5],false),([],true),([],true),([],true)])),([60],(jE [0,1,5,7,8,10,12,39,40,41,63,64,65] [] [] [(0,[1]),(39,[1]),(63,[1])] [(7,iV),(11,FZ),(12,FZ),(14,aCT),(17,[0,1,5,7,39,40,41]),(18,aCT),(19,FZ),(24,aCU),(27,aCU),(28,[8])] [(13,aCT),(23,aCU)] [(8,iV)])),([61],(iU [0,1,3,5,6,7,9,10,11,12,14,15,16,18,19,20,25,26,27,42,43,44,72,73,74,88,89,90,116,117,118,128,129,130,153,154,155,165,166,167] [31,50,61,67,78,100,122,135,148,159,172,189] [] [(0,kU),(3,[1]),(25,[5]),(42,[1]),(72,[9]),(88,[3]),(116,[2]),(128,[2]),(153,[3]),(165,[2])] [(5,KD),(9,aCV),(12,aCV),(13,[1,3,5,25,26,27]),(15,KD),(16,KD),(17,[1,3]),(19,aCW),(21,aCW),(22,[1,3]),(24,aCX),(28,[1,3,11,12,88,89,90]),(29,aCX),(30,[1,3]),(32,a4E),(36,aCY),(38,aCY),(39,a4E),(40,a4E),(41,[1,3]),(43,aCZ),(47,aC'),(49,aC'),(50,[3,18,153,154,155]),(51,aCZ),(52,[3])] [(4,KD),(8,aCV),(18,aCW),(23,aCX),(31,a4E),(35,aCY),(42,aCZ),(46,aC')] [(1,kU),(9,mO),(11,jm),(14,uS),(18,vz)] [1] [([1],false)] [] [] [84,87,140,177])),([62],(jE FZ [] [] [] [(5,[5])] [] [(0,Dy)])),([63],(jE Jz [] [] [] [(5,yH)] [] [(0,Dy)])),([65],(iU X3 [49] [] [(5,[1])] [(6,Nv)] [] [(0,jm),(1,kU)] [] [] [] [] [19,22,25])),([67],(iU [0,1,2,4,5] [81] [] [] [(8,[1,2,4,5]),(14,[1,2,4])] [(6,[1,2,4,5])] [(0,jm),(1,kU),(4,mO)] [] [] [] [12] [4,6,10,1000001,1000003])),([68,70],(Ju iV [] [] [] [] [] [] [] [] [] [7])),([69],(iU [0,1,2,3,6] [43] [] [] [] [] [(0,jm),(1,kU),(2,[3]),(6,jm)] [] [] [] [19] [6,7,11,16,1000001,1000003])),([72],(iU [0,1,2,4] [33] [] [] [] [] [(0,jm),(1,kU),(4,uS)] [] [] [] [11] [4,5,9,1000001,1000003])),([74],(jE [0,1,4,5,6] [45,67] [] [] [(6,Nv),(5,Nv),(10,Nv)] [(4,X3)] [(0,jm),(1,kU),(4,vz)])),([75],(oh [0] [] [] [(0,[3])] [(4,[0])] [] [] [] [([3],true)])),([76],(oh Nw [14] [] [(0,[3]),(5,[1]),(8,[3])] [(5,rZ),(7,rZ),(8,[5])] [(4,rZ)] [(7,jm)] [] [([1],false)])),([77,172],(oJ iV [] [] [(0,jm)] [] [] [(1,jm)] [1])),([78],(oh Nw [14] [] [(0,[9]),(5,[1]),(8,[9])] [(5,rZ),(7,rZ),(8,[5])] [(4,rZ)] [(7,mO)] [] [([1],false)])),([79,165],(oJ iV [] [] [(0,mO)] [] [] [(1,mO)] [1])),([80],(oh Nw [14] [] [(0,[2]),(5,[1]),(8,[2])] [(5,rZ),(7,rZ),(8,[5])] [(4,rZ)] [(7,uS)] [] [([1],false)])),([81,174],(oJ iV [] [] [(0,uS)] [] [] [(1,uS)] [1])),([82],(oh Nw [14] [] [(0,[3]),(5,[1]),(8,[3])] [(5,rZ),(7,rZ),(8,[5])] [(4,rZ)] [(7,vz)] [] [([1],false)])),([83,177],(oJ iV [] [] [(0,vz)] [] [] [(1,vz)] [1])),([84],(Ju [0,4,5,6,7,8] [] [] [(0,[1]),(6,[1])] [(4,[6,7,8]),(8,[6,7,8]),(9,[])] [(3,[6,7,8])] [] [] [] [] [2000013])),([86],(Nq iV [] [] [] [(4,[])])),([88],(yG [0,3,5,10,11,12] [] [9] [(0,[5]),(10,[5])] [(4,[0]),(7,[3,10,11,12]),(16,[3,5,10,11,12]),(17,[3,10,11,12]),(18,[])] [(6,[3,10,11,12])])),([91],(yG T_ [] [] [(0,[9])] [(4,Bj),(8,Bj),(9,[])] [(3,Bj)])),([92,99,105,113],(oJ FX [] [] [] [] [] [] [3])),([94],(Nq [0,3] [] [] [(0,[1])] [(5,[0,3])])),([96],(bWA [0,1,3] [] [] [(0,mO)] [] [] [(1,mO),(3,X0)] [1] [] [(3,[9000003])])),([98,112],(yG T_ [] [] [(0,[3])] [(4,Bj),(8,Bj),(9,[])] [(3,Bj)])),([101],(iU [0,1,3] [] [] [(3,[1])] [] [] [] [] [] [] [] [4,5,8,10,11,14])),([102],(Wu [0] [] [] [(0,[1])])),([104],(yG T_ [] [] [(0,[2])] [(4,Bj),(8,Bj),(9,[])] [(3,Bj)])),([109],(Wu iV [] [] [(0,[2])])),([110,162,192,207,247],(oJ iV [] [] [] [] [] [] [1])),([116],(oJ [0,1,4,10,11,12] [] [] [(0,vz),(10,[2])] [(4,[1]),(6,[1,10,11,12]),(9,[1,4,10,11,12]),(11,[1,10,11,12]),(12,[1])] [(5,[1,10,11,12])] [(1,vz)] [1])),([117,118],(jE [0,1,5,6,7,8] [16] [] [(1,[1]),(6,[1])] [(3,[0,6,7,8]),(5,[0,6,7,8])] [(2,[0,6,7,8])] [(0,[5])])),([119],(jE iV [15] [] [] [(4,iV)] [] [(0,[5])])),([120],(iU [0,1,2,3,4,5,6,7,9,11,30,31,32,60,61,62,97,98,99] [] [] [(1,mO),(30,[1]),(60,[4]),(97,[8])] [(9,We),(13,[2,3,4,5,6,30,31,32]),(15,We),(16,We),(17,[2,3,4,5]),(19,aD0),(28,aD0),(29,[2,3,4,5]),(31,aD1),(36,[2,3,5,11,97,98,99]),(38,[2,3,5,11,97,98,99]),(40,aD1),(41,[2])] [(8,We),(18,aD0),(30,aD1)] [(0,[5]),(3,mO),(4,X0),(5,[1]),(11,yI)] [3] [] [] [123] [105,109,111,115,117,121])),([121],(oJ FX [] [] [(1,[1])] [] [] [(0,[5]),(3,[1])] [3])),([122],(jE [0,1,2,3,8,9,10] [] [] [] [(3,[0,2,3,9,10]),(6,a4H),(7,[0,2,3,9,10])] [(2,[0,2,3,9,10])] [(0,[5])])),([123],(iU pz [] [] [] [] [] [] [] [] [] [18] [10,16])),([124],(iU pz [] [] [] [] [] [] [] [] [] [11,23] [10,21])),([126],(jE iV [11] [] [] [] [] [(0,iV)])),([127],(Ju [0] [] [4] [(0,[5])] [] [] [] [] [([5],false)] [(0,[1000002])] [5])),([128],(jE iV [12] [] [] [] [] [(0,iV)])),([129],(jE [0,1,5,6,7,8,9,10,11,42] [] [] [] [(7,iV),(9,iV),(12,[0,6]),(15,[0,7]),(31,[0,7]),(36,[0,7,8]),(40,[7,8,9]),(42,[9])] [(39,[7,8,9])] [(9,iV)])),([130,204],(jE [0] [] [] [] [] [] [(0,iV)])),([131],(iU [0,1,4,5,6,7,8,9] [] [38] [(9,[4])] [(4,Nv),(8,[0,1,4,5,6,7]),(12,[0,1,4,5,6,9])] [(5,X3)] [(0,jm),(4,dm),(5,dm)] [] [(dm,true)] [(12,[1000009])] [37,41] [33,1000003])),([132,242,248,258],(yG a4I [] [] [(0,[1])] [(4,Bl),(7,Bl),(8,[])] [(3,Bl)])),([133],(oJ [0,1,2,3,4,9,10,12,13,87,88,89] [] [] [(0,dm),(87,[4])] [(4,[1,2,3,4]),(14,[1,2,3,4]),(16,aD2),(20,aD2),(21,[])] [(15,aD2)] [(4,dm),(12,dm)] [4])),([134],(iU [0,1,3,5,6,7,9,10,11,26] [19] [] [(0,dm),(9,[4])] [(5,[1,3,9,10,11]),(9,[1,3,6,9,10,11]),(10,[1,3,9,10,11]),(11,[1,3]),(36,[])] [(4,[1,3,9,10,11])] [(1,dm),(3,[1]),(5,dm)] [1] [] [] [] [54,59,62])),([135],(iU iV [] [] [(0,dm)] [(6,[1])] [] [(1,dm)] [1] [] [] [24] [4,8])),([136],(iU [0,1,2,3,4] [] [] [] [] [] [] [] [] [] [15] [8,10,13])),([137,138],(oh [0] [] [] [] [] [] [(0,dm)] [] [(dm,true)])),([139],(yG KC [] [] [(0,[5]),(1,[5]),(15,[5])] [(4,pz),(6,qA),(10,qA),(11,[])] [(5,qA)])),([140],(oJ FX [] [] [] [] [] [] yH)),([142],(Nq pz [] [] [] [(4,pz)])),([143],(jE [0,2,4,5,10,11,12] [16,65] [] [(2,[1]),(10,[5])] [(4,aD3),(6,aD3),(7,uS),(13,[0,5])] [(3,aD3)] [(0,uQ)])),([144],(jE FZ [] [] [] [] [] [(0,Dy)])),([145],(iU [0,1,2,4,5,6,7,8,13,14,15,56,234,235] [19,82,119,196,205,219,240,252] [] [(2,[1]),(13,[9])] [(5,aD4),(7,aD4),(8,[1,2,56]),(12,[1,5,56]),(18,X4),(23,[1,5,56]),(26,X4),(28,X4),(32,X4),(44,[1,5,56]),(47,aD5),(49,aD5),(50,[1,5,56])] [(4,aD4),(16,X4),(46,aD5)] [(0,uQ),(4,mO),(5,mO),(56,uQ)] [] [] [] [86,161,222] [7,83,85,156,157,220,221,1000002,1000003])),([146],(oh [0,1,2,3,5,6,18,19,20] [24] [] [(3,[1]),(18,[3])] [(5,aD6),(7,aD6),(8,[1,2,3]),(14,[1,2,6])] [(4,aD6)] [(0,uQ),(2,jm),(5,jm),(6,jm)] [] [(jm,true)])),([147],(jE [0,1,2,4,5,10,11,12] [16,47] [] [(2,[1]),(10,[2])] [(5,aD7),(7,aD7),(8,[1,2])] [(4,aD7)] [(0,uQ),(4,uS),(5,uS)])),([148],(jE [0,2,4,5,6,7,12,13,14] [18,59,82] [] [(2,[1]),(12,[3])] [(4,aD8),(6,aD8),(7,uS),(12,[0,5]),(11,[0,5]),(16,[0,5])] [(3,aD8),(10,[0,5,6])] [(0,uQ),(4,vz),(5,vz)])),([149],(Nq iV [] [] [(0,[1])] [(4,iV),(6,[])])),([150],(iU [0,1,4,5,6,7,8,9,10,11,12,13,15,17,18,19,20,21,26,27,28,32,33,34,59,60,61,101,102,103,117,118,119,166,167,168] [] [] [(0,mO),(4,[1]),(26,[1]),(32,[1]),(59,[1]),(101,[4]),(117,[8]),(166,[5])] [(4,[1,26,27,28]),(7,aD9),(11,aD9),(12,[1,26,27,28]),(13,[1]),(16,[1,8]),(18,aDA),(21,aDA),(22,[1,8]),(25,[1,8,11]),(27,[1,8,11]),(30,[1,8,11]),(33,[1,8,11]),(35,aDB),(38,aDB),(39,[1,8,11]),(41,aDC),(44,[1,8,11,17,117,118,119]),(47,[1,8,11,17,117,118,119]),(49,aDD),(52,[1,8,11,17,19,20,117,118,119,166,167,168]),(54,[1,8,11,17,20,117,118,119,166,167,168]),(57,aDD),(58,aDC),(59,[])] [(3,[1,26,27,28]),(6,aD9),(17,aDA),(34,aDB),(40,aDC),(48,aDD)] [(1,mO),(8,X0),(17,yI),(20,FY)] [1] [] [] [] [195])),([151],(iU [0,1,3,5,6,8,14,15,16,37,38,39] [27] [] [(0,kU),(3,[1]),(14,[3]),(37,[1])] [(5,[3,14,15,16]),(9,[3,5,14,15,16]),(12,aDE),(15,aDE),(16,[3,14,15,16]),(17,[])] [(4,[3,14,15,16]),(11,aDE)] [(1,kU),(5,jm)] [1] [] [] [] [10,13])),([152],(oJ [0,1,3,5,6,8,10,11,13,15,16,17,38,39,40,57,58,59,80,81,82] [28,70] [] [(0,kU),(3,[1]),(15,[2]),(38,[2]),(57,[3]),(80,[2])] [(5,aDF),(9,[1,3,5,15,16,17]),(12,[1,3,5,15,16,17]),(14,aDG),(17,aDG),(18,aDF),(19,[1]),(22,[3,57,58,59]),(26,aDH),(29,aDH),(31,aDI),(34,[3,10,13,57,58,59,80,81,82]),(36,aDI),(37,aDH),(39,[3,57,58,59]),(40,[])] [(4,aDF),(13,aDG),(21,[3,57,58,59]),(30,aDI)] [(1,kU),(5,uS),(10,vz)] [1])),([153],(jE KC [] [] [(0,[4]),(1,[4]),(15,[4])] [(4,pz),(6,qA),(10,qA),(11,[])] [(5,qA)] [(8,dm),(9,dm)])),([157],(iU [0,1,3,4,5,6,8,10,11,12,23,24,25,56,57,58,95,96,97,136,137,138] [30,39,47,50,62,67,76,83,101,127,143,156,163,167] [] [(0,mO),(3,[1]),(6,[1]),(23,[1]),(56,[4]),(95,[8]),(136,[5])] [(5,a4J),(9,[1,3,4,23,24,25]),(11,a4J),(12,a4J),(13,[1,3]),(16,aDJ),(21,aDJ),(22,[1,3,6]),(24,N_),(28,[1,3,6,10,95,96,97]),(30,aDK),(33,aDK),(34,N_),(35,N_),(36,[3])] [(4,a4J),(15,aDJ),(23,N_),(29,aDK)] [(1,mO),(10,yI),(12,FY)] [1] [([1],false)] [] [] [14,17,103,107,109,113,115,119,148,153])),([158],(oh [0,3,4,5,6,7,8] [15,18] [] [(0,[1]),(3,[1]),(6,[1])] [(5,[3,6,7,8]),(8,[3,5,6,7,8]),(9,[3,6,7,8]),(10,[3])] [(4,[3,6,7,8])] [] [] [([1],false)])),([159],(oh [0] [] [] [] [(4,[0])] [] [] [] [([1],true)])),([160],(jE FZ [] [] [(1,[1])] [(5,[0])] [] [(0,jm)])),([161],(oh Nw [14] [] [(0,[5]),(5,[1]),(8,[5])] [(5,rZ),(7,rZ),(8,[5])] [(4,rZ)] [] [] [([1],false)])),([163],(oh pz [] [] [(1,[1])] [] [] [(0,jm)] [] [([1],false)])),([164],(jE [0,1,2,7,8,9,10] [] [] [] [(7,[0,1,2,7]),(11,[0,1,2,7,9]),(15,[0,10])] [] [(0,Dy)])),([166],(jE iV [] [] [] [(4,[0])] [] [(0,jm)])),([167,224],(iU iV [3] [] [] [] [] [] [] [] [] [7] [4,6,1000000,1000001])),([168],(iU [0,1,2,6] [11,65] [] [] [(5,[0,1,2,6]),(7,[0,1,6]),(9,[0])] [] [(0,jm),(1,mO)] [] [] [] [17] [16,1000001])),([169],(jE X3 [67] [] [] [(4,iV)] [] [(0,jm),(1,mO)])),([170],(iU [0,1,2,4] [66] [] [] [(7,[1,2,4]),(9,[1,2,4])] [] [(0,jm),(1,mO),(4,yI)] [] [] [] [12,18,24] [7,11,13,17,19,23,1000001,1000003])),([171],(oh [0,3,4,5,6] [9] [] [(3,[1])] [(5,[3,5,6]),(7,[3,5,6]),(8,[3])] [(4,[3,5,6])] [] [] [([1],false)])),([173,227],(iU iV [3] [] [] [] [] [] [] [] [] [8] [4,7,1000001,1000002])),([175],(jE iV [] [] [] [(2,iV),(4,iV)] [(3,iV)] [(0,Dy)])),([176],(pZ2 pz [16])),([178],(jE [0] [] [] [] [] [] [(0,jm)])),([181],(yG [0,3,4,5,6,7] [] [] [(0,[1]),(5,[1])] [(4,[0,5,6,7]),(7,[0,3,4,5,6,7]),(9,[0,5,6,7]),(10,[])] [(3,[0,5,6,7])])),([183],(iU iV [] [] [] [] [] [] [] [] [] [] [4,6])),([187],(yG [0,1,5,6,7,8,9] [] [] [(0,[1]),(7,[1])] [(4,[0,1,7,8,9]),(7,[0,1,5,6,7,8,9]),(9,[0,1,7,8,9]),(10,[])] [(3,[0,1,7,8,9])])),([189],(yG [0,3,4,8,9,10] [] [] [(0,[4]),(8,[4])] [(4,[0]),(6,[0,8,9,10]),(17,[0,8,9,10]),(18,[])] [(5,[0,8,9,10])])),([191],(Wu iV [] [] [(0,[4])])),([194],(yG T_ [] [] [(0,[8])] [(4,Bj),(8,Bj),(9,[])] [(3,Bj)])),([195],(iU pz [] [] [] [] [] [] [] [] [] [] [5,7,10])),([196],(iU [0,1,2,3,5,6,7,8,9,59,60,61] [] [] [(0,mO),(1,yI),(59,[5])] [(5,[3,5]),(8,[3,5]),(10,aDL),(13,[3,5,7,8,59,60,61]),(15,[3,5,8,59,60,61]),(18,aDL),(19,[])] [(9,aDL)] [(2,mO),(3,yI),(8,FY)] yH [] [] [] [81,86])),([198],(yG a4I [] [] [(0,[2])] [(4,Bl),(7,Bl),(8,[])] [(3,Bl)])),([200],(oh [0] [] [] [(0,[4])] [] [] [] [] [([1],true)])),([202],(iU FX [] [] [] [] [] [] [] [] [] [16,28] [12,14,27])),([203],(iU pz [] [] [] [] [] [] [] [] [] [10] [5,8])),([205],(iU [0,1,5,6,7] [] [] [(0,[5])] [(5,FZ),(8,[0,1,5,6]),(7,[0,1,5,6]),(12,[0,5])] [(6,[0,1,5,6])] [] [] [([5],false)] [] [24,33] [10])),([206],(oh [0] [] [] [(0,[5])] [(4,[0])] [] [] [] [([5],true)])),([211],(Ju pz [] [] [] [(14,[1,2])] [] [(0,jm),(2,dm)] [] [(dm,true)] [] [72])),([212],(jE [0,1,7,8,9,10] [] [] [] [(5,[1,7])] [] [(0,jm)])),([213],(Ju Jz [] [] [(0,[4])] [(4,Jz),(3,Jz)] [(2,Jz)] [] [] [] [] [20,24,26,27])),([214],(Nq [0,4] [] [] [] [(21,[])])),([216,243],(oJ pz [] [] [] [] [] [] [2])),([223],(jE FZ [] [] [(1,[1])] [(5,[0])] [] [(0,uQ)])),([225],(jE [0] [] [] [] [] [] [(0,uQ)])),([226],(oh [0,1,2,3,4,5] [] [] [(1,mO)] [(8,[2,4,5]),(10,[2,4,5])] [] [(0,uQ),(3,mO),(4,yI),(5,yI)] [3] [(yI,true)])),([228],(iU pz [9] [] [] [] [] [] [] [] [] [15] [11,14,1000000,1000002])),([229],(oJ [0,1,2,3,7,8] [] [] [(0,dm)] [(5,[8])] [] [(3,dm)] [3])),([237],(iU [0,1,2,4,7,8,9,32] [95,105] [] [(0,[1]),(1,dm),(9,[1])] [(4,[0,4]),(6,[0,4]),(8,[0,4]),(20,[0,4]),(30,[0,4,7])] [] [(4,dm),(8,dm)] [4] [([1],true)] [] [] [21,25,120,122,125,131,133,138,140,144,150,152])),([238],(oh Nw [14] [] [(0,[1]),(5,[1]),(8,[1])] [(5,rZ),(7,rZ),(8,[5])] [(4,rZ)] [] [] [([1],false)])),([240],(jE FZ [] [] [(1,[1])] [(5,[0,5])] [] [(0,jm)])),([241,263],(iU pz [19] [] [] [] [] [(2,FY)] [] [] [] [8] [2,3,4,1000000])),([244],(yG a4I [] [] [(0,[4])] [(4,Bl),(7,Bl),(8,[])] [(3,Bl)])),([245],(oJ [0,1,2,3,7,8] [] [] [(0,dm)] [(5,[2,7])] [] [(3,dm)] [3])),([246],(oh Nw [14,21] [] [(0,[4]),(5,[1]),(8,[4])] [(5,rZ),(7,rZ),(8,[5])] [(4,rZ)] [] [] [([1],true)])),([250],(yG a4I [] [] [(0,[5])] [(4,Bl),(7,Bl),(8,[])] [(3,Bl)])),([254],⟨[0,1,2,4],[],[],[],[(5,[1,2,4])],[],[(0,jm),(4,dm)],[],[(dm,true)],[],[],[],true⟩),([255,277,292],(oh iV [] [] [] [] [] [(1,dm)] [] [(dm,true)])),([256],(oh iV [] [] [] [(4,iV)] [] [(1,dm)] [] [(dm,true)])),([257,298],(oh pz [] [] [] [] [] [(1,dm),(2,dm)] [] [(dm,true)])),([261],(jE FZ [] [] [(1,[1])] [(5,iV)] [] [(0,uQ)])),([262],(iU [0,1,2,3,4] [] [] [] [(5,[1,2,3])] [] [(0,uQ),(2,dm),(3,dm),(4,dm)] [] [(dm,true)] [] [26] [23,24,1000004,1000005])),([273],(iU [0,1,12] [] [] [(0,dm)] [(4,[1]),(27,[])] [] [(1,dm)] [1] [] [] [] [3,7])),([274],(Nq [0,3] [] [] [] [(19,[])])),([276],(iU [0,1,2,3,6,7,8] [] [] [(1,[1])] [(4,[1,2,3,6,7]),(6,[1,2,3,6,7,8]),(8,[6,7])] [(3,[1,2,3,6,7])] [(0,uQ),(6,dm),(7,dm)] [] [(dm,true)] [] [30] [27])),([278],(iU [0,2,3,5,8,9,10] [] [] [(8,[1])] [(5,a4H),(8,a4H),(9,Jz),(11,Jz),(13,yH)] [(4,a4H)] [(0,uQ),(2,dm),(3,dm)] [] [(dm,true)] [] [20,24,34,44] [22,35,45,1000003])),([285],(Ju iV [] [] [] [] [] [] [] [] [] [10])),([286],(oh pz [] [] [] [] [] [(0,uQ),(2,dm)] [] [(dm,true)])),([293],(Ju [0,1,2,3,4,5] [] [] [] [(10,[2,5]),(22,[1,2])] [] [(0,uQ),(2,dm),(5,dm)] [] [(dm,true)] [] [96])),([296],(oh X3 [] [] [] [(5,Nv)] [] [(0,uQ),(4,dm),(5,dm)] [] [(dm,true)])),([297],(oh pz [] [] [] [] [] [(2,dm)] [] [(dm,true)]))]
noncomputable def SS:SE:=⟨Tryz.prog,aCH,VVt vvT,WWt wwT,CS⟩
theorem fD:SS.OK:=⟨a'N _,a'S _⟩
abbrev cG (r:RS) (g:FuncId) (a:ai) (K:RS.F r R):R:=jk SS.CC g a fun p=>Ru r p K
abbrev cH (r:RS) (o:List OS) (g:FuncId) (a:ai) (h:aH) (K:RS.F r (dA o)):R:=BL SS.CC g a h fun p h=>hv r o p h K
variable {D:R}
theorem cc {g:FuncId} {a:ai} {h:aH} (b:SS.C0 g a h=none:=by rfl) (e:SS.run SS.CC SS.LL g a h=D:=by kernel_rfl):SS.CC g a h=D:=CCk fD b e
theorem ll {E:AE} {a:Nat} {l:List Nat} {m:Nat} {x:Code} {K:KT} {b:ASt} (d:a<=m:=by decide) (f:F8 l m b=true:=by kernel_rfl) (g:SS.wp E=E:=by kernel_rfl) (e:b_ (I9 l m b) (bC (SS.xe SS.CC SS.LL E a) x (xM (fun c=>SS.LL E a l m x K (c.gc l m)) K) (b.gc l m))=D:=by kernel_rfl):SS.LL E a l m x K b=D:=LLk fD d f g e
abbrev G0:=cG (.t [(false,[.S]),(false,[.I .i64])])
abbrev G1:=cG (.ti .i64)
abbrev G2:=cG (.ts)
abbrev G3:=cG (.tb)
abbrev G4:=cG (.tl false 1)
abbrev G6:=cG (.t [(false,[.I .i64]),(false,[.I .i64])])
abbrev G7:=cG (.tl true 1)
abbrev G9:=cG (.t [(true,S0),(false,[.I .i64]),(false,[.I .i64]),(false,[.I .i64])])
abbrev G10:=cG (.t [(false,[.S]),(false,[.I .i64]),(false,[.I .i64]),(false,[.I .i64])])
abbrev GL:=cG (.tl true 3)
abbrev aY:=cH (.t []) [.c iL]
abbrev Xw:=cG (.t [(false,[.L false 5]),(false,[.I .i64]),(false,[.I .i64]),(false,[.I .i64])])
abbrev H14:=cH (.z (.pt 0 0)) [.c aC]
abbrev bJ:=cH (.t []) [.c aC]
abbrev P9:=cH (.t [(false,[.I .i64]),(false,[.I .i64]),(false,[.I .i64])]) [.c aC]
abbrev H19:=cH (.ti .i64) [.c PR]
abbrev qH:=cG (.g S1)
abbrev TY:=cG (.tl false 5)
abbrev Tf:=cH (.tb) [.c eQ,.c aC]
abbrev fJ:=cH (.g mg) [.c aC]
abbrev Ir:=cH (.t []) [.c dF,.c jO,.c aC]
abbrev kN:=cH (.ts) [.c aC]
abbrev H27:=cH (.tb) [.z Y5]
abbrev H28:=cH (.t []) [.c iL,.z jP,.c kP]
abbrev H29:=cH (.t []) [.c iL,.z jP,.c jV]
abbrev PD:=cH (.t []) [.c oP,.c PS]
abbrev H31:=cH (.ts) [.c U3]
abbrev H32:=cH (.t [(false,[.I .i64]),(false,[.ni])]) [.c vT]
abbrev H33:=cH (.z (.ni)) [.c vT]
abbrev bP:=cH (.tb) [.c aC]
abbrev G37:=cG (.t [(false,[.I .i64]),(false,[.B])])
abbrev zo:=cH (.tb) [.c wS]
abbrev gB:=cH (.t []) [.z jQ,.c iL]
abbrev CX:=cH (.tb) [.c ay,.c aC]
abbrev PE:=cH (.t []) [.c ay,.c aC]
abbrev Lm:=cH (.t []) [.z gK,.z iM,.c BH,.c jO,.c aC]
abbrev H44:=cH (.tb) [.c S7]
abbrev H45:=cH (.t []) [.c iL,.z jP,.c wS,.c S9]
abbrev H46:=cH (.t []) [.c iL,.z jP]
abbrev H47:=cH (.t []) [.z gK,.c kP,.c iL]
abbrev H48:=cH (.t []) [.z gK,.c jV,.c iL]
abbrev G49:=cG (.tl true 5)
abbrev H50:=cH (.o (.H 0 0 5)) [.a]
abbrev H51:=cH (.t []) [.c vT]
abbrev H53:=cH (.t []) [.a]
abbrev Lp:=cH (.tb) [.z jQ,.c jh,.c aC]
abbrev lQ:=cH (.g S8) [.c ru,.c aC]
abbrev GN:=cH (.g S8) [.c ay,.c aC]
abbrev H60:=cH (.g S8) [.c ry,.c aC]
abbrev H63:=cH (.ti .i64) [.c S7]
abbrev H64:=cH (.t []) [.z iM,.c wS,.c S9,.c iL]
abbrev ES:=cH (.ti .i64) [.c aC]
abbrev ET:=cH (.ts) [.c ay,.c aC]
abbrev H70:=cH (.t []) [.c aC,.c dP,.z iM,.c jb]
abbrev H71:=cH (.g S9) [.c ay,.c aC]
abbrev Cb:=cH (.ti .i64) [.c ay,.c aC]
abbrev H73:=cH (.ts) [.c ru,.c aC]
abbrev H74:=cH (.t []) [.c aC,.c dY,.z iM,.c Cm]
abbrev H75:=cH (.t []) [.c aC,.c dY,.z iM,.c jb]
abbrev H76:=cH (.ts) [.c ry,.c aC]
abbrev H77:=cH (.t []) [.c aC,.c dY,.z iM,.c D5]
abbrev H78:=cH (.t []) [.c aC,.z iM,.c lq,.c jb]
abbrev H80:=cH (.t []) [.c iH,.c dP,.c oP,.c aC]
abbrev Tn:=cH (.t []) [.c dF,.c dP,.c aC]
abbrev EW:=cH (.ts) [.c eQ,.c aC]
abbrev H83:=cH (.t []) [.c iH,.c dP,.z jP,.c aC]
abbrev H84:=cH (.t []) [.c iH,.c dY,.z jP,.c aC]
abbrev Cc:=cH (.ti .i64) [.c eQ,.c aC]
abbrev H86:=cH (.t []) [.c aC,.z iM,.c lq,.c jc]
abbrev H87:=cH (.tl false 1) [.c eQ,.c aC]
abbrev H90:=cH (.t []) [.c dP,.z gK,.c jW,.c aC]
abbrev H91:=cH (.t []) [.c aC,.z iM,.c kC,.c jb]
abbrev pO:=cH (.g S1) [.c ay,.c aC]
abbrev H93:=cH (.t []) [.c dY,.z gK,.c J5,.c aC]
abbrev H94:=cH (.t []) [.c dY,.z gK,.c jW,.c aC]
abbrev H95:=cH (.t []) [.c dY,.z gK,.c Gf,.c aC]
abbrev H96:=cH (.t []) [.z gK,.c lq,.c jW,.c aC]
abbrev H97:=cH (.t []) [.c aC,.c dP,.z iM,.c jc]
abbrev H98:=cH (.t []) [.c aC,.z iM,.c kC,.c jc]
abbrev yZ:=cH (.g S1) [.c eQ,.c aC]
abbrev aG8:=cH (.t []) [.c aC,.c dY,.z iM,.c jc]
abbrev a6B:=cH (.t []) [.z gK,.c lq,.c iH,.c aC]
abbrev aGA:=cH (.tl false 1) [.z jQ,.c dF,.c aC]
abbrev Xy:=cH (.g S1) [.c jh,.z jP,.c aC]
abbrev a6C:=cH (.t []) [.z gK,.c kC,.c jW,.c aC]
abbrev a6D:=cH (.t []) [.c dP,.z gK,.c iH,.c aC]
abbrev a6E:=cH (.t []) [.z gK,.c kC,.c iH,.c aC]
abbrev a6F:=cH (.t []) [.c dY,.z gK,.c iH,.c aC]
abbrev Td:=cH (.tb) [.z jQ,.c dF,.c aC]
abbrev Ld:=cH (.ti .i64) [.z jQ,.c jh,.c aC]
abbrev GM:=cH (.g S1) [.z jQ,.c jh,.c aC]
abbrev aGG:=cH (.t [(false,[.I .i64]),(false,[.B]),(false,[.B])]) [.c eQ,.c aC]
abbrev P6:=cH (.g S1) [.c dF,.z jP,.c aC]
abbrev P7:=cH (.g S1) [.z jQ,.c dF,.c aC]
abbrev P8:=cH (.t []) [.z jQ,.c dF,.c aC]
abbrev aGH:=cH (.g S1) [.c jW,.z jP,.c oP,.c aC]
abbrev a6K:=cH (.g S1) [.z gK,.c oP,.c jW,.c aC]
end
end Go.Proofs.YtagkcbgkhgccmaaGreatDoor.W
end

/- A part of the proof. -/
import Derived.Test.YtcdceiloganlnaaGreatDoorPf3
import Derived.Shelf.Lay
import Derived.Shelf.Strings.Builder1
import Derived.Shelf.Strings.OnBuilder
import Derived.Shelf.Strconv.Itoa3
import Derived.Test.YtcdceiloganlnaaGreatDoorChecked
import Derived.Shelf.LaysM
import Derived.Shelf.Strings.Split
import Derived.Shelf.Strings.Search1
import Derived.Shelf.Strings.Shaped
import Derived.Shelf.Strings.Repeat
set_option linter.unusedVariables false
set_option linter.unusedSimpArgs false
set_option linter.unnecessarySimpa false
set_option linter.unusedSectionVars false
noncomputable section
open Go.IntKind (i64)
namespace Go.Proofs
open Go.Shelf
shelf_lay Lays.n171 Nm 171 at Tryz as Tryz.lays171
shelf_lay Lays.n156 Nm 156 at Tryz as Tryz.lays156
shelf_lay Lays.n169 Nm 169 at Tryz as Tryz.lays169
end Go.Proofs
namespace Go.Proofs.YtcdceiloganlnaaGreatDoor
open Go.RowKit Go.Shelf
theorem XN:Builder.Extra Tryz.prog Tryz.lays156_ren where
 sizeBuilder:=by kernel_rfl
 liesBuilder:=by kernel_rfl
 t5:=Tryz.underlying5
 a5:=Tryz.isAgg5
 z5:=Tryz.sizeOf5
 v5:=Tryz.zeroValue5
 infoByte:=by kernel_rfl
 cellsByte:=by kernel_rfl
 sizeByte:=by kernel_rfl
 neB5:=by decide
theorem JV:Builder.Extra Tryz.prog Tryz.lays169_ren where
 sizeBuilder:=by kernel_rfl
 liesBuilder:=by kernel_rfl
 t5:=Tryz.underlying5
 a5:=Tryz.isAgg5
 z5:=Tryz.sizeOf5
 v5:=Tryz.zeroValue5
 infoByte:=by kernel_rfl
 cellsByte:=by kernel_rfl
 sizeByte:=by kernel_rfl
 neB5:=by decide
theorem lays240:Lays.n240 Tryz.prog Tryz.lays156_ren := { Tryz.lays156 with }
theorem bDR (i:Nat) (hi:i<100) (w:World):Calls Tryz.prog 35 #[.int .i64 i] w fun e w'=>e = .returned (.string ⟨(Lib.decDigits i).toArray⟩)/\w'=w:=Any.strconv_Itoa_small Tryz.lays171 i hi w
theorem bDX (bk o c:Nat) (xs:List ByteArray) (sep:ByteArray) (w:World) (hcells:∀ (j:Nat) x,xs[j]? = some x->w.cell? ⟨bk,o+j,none⟩=some (.string x)) (hbk:bk<w.heap.size) (hN:xs.length<=140737488355328) (hcap:xs.length<=c)
 (hlen:(Lib.join (xs.map (·.data.toList)) sep.data.toList).length<=140737488355328) :
 Calls Tryz.prog 15 #[.slice (some ⟨bk,o,none⟩) xs.length c,.string sep] w fun e w'=>e = .returned (.string ⟨(Lib.join (xs.map (·.data.toList)) sep.data.toList).toArray⟩)/\Below w.heap.size w w' :=
 Any.strings_Join Tryz.lays156 XN bk o c xs sep w hcells hbk hN hcap hlen
theorem bDW (a:Option Addr) (c:Nat) (sep:ByteArray) (w:World):Calls Tryz.prog 15 #[.slice a 0 c,.string sep] w fun e w'=>e = .returned (.string ⟨#[]⟩)/\w'=w :=Any.strings_Join_none Tryz.lays156 XN a c sep w
theorem aX0 (b:Nat) (w:World) (h0:w.cell? ⟨b,0,none⟩=some (.pointer (some ⟨b,0,none⟩))):Calls Tryz.prog 162 #[.pointer (some ⟨b,0,none⟩)] w fun e w'=>e = .returned (.tuple #[])/\w'=w :=Any.Builder_copyCheck_used lays240 XN.toX72 b w h0
section
variable {P:Program} {ρ:Ren}
set_option maxHeartbeats 1000000 in
set_option maxRecDepth 100000 in
theorem aW' (L:Lays.n240 P ρ) (X:Builder.X72 P ρ) (T:TypeId) (b:Nat) (w:World) (h0:w.cell? ⟨b,0,none⟩=some (.pointer none)) (hsh:w.shape? b=some (T,2)) (hfz:w.frozen? ⟨b,0,none⟩=false)
 (hlies:liesAt P P.depth T (2 / P.cellsOf T) 0 (ρ.t 72) 1=true) :
 Calls P (ρ.f 240) #[.pointer (some ⟨b,0,none⟩)] w fun e w'=>e = .returned (.tuple #[])/\w'=w.setCell ⟨b,0,none⟩ (.pointer (some ⟨b,0,none⟩)):=by
 obtain ⟨j,hj,hjs⟩:=JD.1 X.sizeBuilder;have mixed:=L.mixed;have t72:=L.t72; have a72:=L.a72; have z72:=L.z72; have v72:=L.v72; have u72:=eX L.t72;have t70:=L.t70; have a70:=L.a70; have z70:=L.z70; have v70:=L.v70; have u70:=eX L.t70;have t9:=L.t9; have a9:=L.a9; have z9:=L.z9; have v9:=L.v9; have u9:=eX L.t9;have t4:=L.t4; have a4:=L.a4; have z4:=L.z4; have v4:=L.v4; have u4:=eX L.t4;have t164:=L.t164; have a164:=L.a164; have z164:=L.z164; have v164:=L.v164; have u164:=eX L.t164;go_enter L.f240,Body.n240_ntmps ρ
 go_wp2
 rw[Lib.run_to_unsafe w ⟨b,0,none⟩ L.t70 L.t164 hj (by rw[hjs]; decide) hsh (Nat.zero_lt_succ 1)];simp only[Result.andThen];rw[a1U];go_wp2
 rw[run_callFunc_extern L.f276 (by kernel_rfl) (by kernel_rfl) (by kernel_rfl) (e:=Extern.AbiNoEscape.same) (by kernel_rfl)];rw[Lib.run_noEscape];simp only[Result.andThen];rw[a1U];go_wp2
 rw[Lib.run_from_unsafe w ⟨b,0,none⟩ L.t164 L.t70 hj hsh hlies];simp only[Result.andThen];rw[a1U];go_wp2
 go_end0
 exact ⟨rfl,rfl⟩
end
theorem aWZ (b:Nat) (w:World) (h0:w.cell? ⟨b,0,none⟩=some (.pointer none)) (hsh:w.shape? b=some (119,2)) (hfz:w.frozen? ⟨b,0,none⟩=false) :
 Calls Tryz.prog 162 #[.pointer (some ⟨b,0,none⟩)] w fun e w'=>e = .returned (.tuple #[])/\w'=w.setCell ⟨b,0,none⟩ (.pointer (some ⟨b,0,none⟩)) :=
 aW' lays240 XN.toX72 119 b w h0 hsh hfz (by kernel_rfl)
end Go.Proofs.YtcdceiloganlnaaGreatDoor
namespace Go.Proofs
open Go.Shelf Go.RowKit Go.Sort Go.Lib
shelf_lay LaysM.n171 Nm 171 at Tryz as Tryz.laysM171
namespace YtcdceiloganlnaaGreatDoor
section
variable {P:Program} {ρ:Ren}
theorem below_grown (w:World) (k:Nat) (os:Array Obj):Below w.heap.size w (grow (w.drewN k) os) :=⟨rfl,rfl,rfl,by simp,fun i hi=>by show (w.heap ++ os)[i]? = _; rw[a1K hi]⟩
def Gl (P:Program) (ρ:Ren) (w:World):Prop:=∀ i,i<20->w.cell? ⟨ρ.g 17,i,none⟩=some (.int .u64 ((10 ^ i:Nat):Int))
theorem Gl.alloc {w:World} (h:Gl P ρ w) (o:Obj):Gl P ρ (w.alloc o):=fun i hi=>by have hb:=uw _ _ (h i hi);rw[aCF _ _ _ (Nat.ne_of_lt hb)]; exact h i hi
set_option maxHeartbeats 2000000 in
set_option maxRecDepth 100000 in
theorem aY2 (L:LaysM.n284 P ρ) (u:Nat) (h1:1<=u) (h2:u<18446744073709551616) (w:World) (htab:Gl P ρ w) :
 Calls P (ρ.f 284) #[.int .u64 u] w fun e w'=>e = .returned (.int .i64 (Lib.nDigits u))/\w'=w:=by
 have mixed:=L.mixed;have t53:=L.t53; have a53:=L.a53; have z53:=L.z53; have v53:=L.v53;have t3:=L.t3; have a3:=L.a3; have z3:=L.z3; have v3:=L.v3;have t212:=L.t212; have a212:=L.a212; have z212:=L.z212; have v212:=L.v212;have t0:=L.t0; have a0:=L.a0; have z0:=L.z0; have v0:=L.v0;have t4:=L.t4; have a4:=L.a4; have z4:=L.z4; have v4:=L.v4;have e129:∀ args w,(callFunc (ρ.f 129) args).run P w = .ok (.enter (ρ.f 129) args) w:=enters_of L.f129 (by kernel_rfl) rfl;have e317:∀ args w,(callFunc (ρ.f 317) args).run P w = .ok (.enter (ρ.f 317) args) w:=enters_of L.f317 (by kernel_rfl) rfl;have e318:∀ args w,(callFunc (ρ.f 318) args).run P w = .ok (.enter (ρ.f 318) args) w:=enters_of L.f318 (by kernel_rfl) rfl;obtain ⟨hnd,h19⟩:=Lib.numDigits_eq u h1 h2;have hL:Lib.bitLen u<=64:=Lib.bitLen_le u 64 (cu _) h2;have hcell:=htab (Lib.l10 (Lib.bitLen u)) (by omega);have hto:((u:Int)).toNat=u:=by omega
 generalize hq:Lib.l10 (Lib.bitLen u)=q at hnd h19 hcell;generalize hT:10 ^ q=T at hnd hcell;have h20:q<20:=by omega
 have Hnd:=Lib.hid hnd;clear hnd htab;go_enter L.f284,Body.n284_ntmps ρ
 go_wp2_with (first
  | (go_at_fn (ρ.f 129); refine (Any.bits_Len64 { L with } _ _ (by omega) (by omega)).mono ?_; rintro e w' ⟨rfl,rfl⟩)
  | (go_at_fn (ρ.f 317); refine (Any.internal_strconv_log10Pow2 { L with } _ (by first | exact hL | (rw[hto]; exact hL)) _).mono ?_; rintro e w' ⟨rfl,rfl⟩)
  | (go_at_fn (ρ.f 318); refine (Any.internal_strconv_bool2_int { L with } _ _).mono ?_; rintro e w' ⟨rfl,rfl⟩))
 all_goals go_ret
 all_goals (
  refine ⟨?_,rfl⟩;have hnd:=Hnd.out;congr 2
  split at hnd<;>simp_all<;>omega)
set_option maxHeartbeats 6400000 in
set_option maxRecDepth 100000 in
theorem aZI (L:LaysM.n246 P ρ) (u:Nat) (hu1:100<=u) (hu:u<9223372036854775808) (w:World) (htab:Gl P ρ w) :
 Calls P (ρ.f 246) #[.int .i64 u,.int .i64 10] w fun e w'=>e = .returned (.string ⟨(Lib.decDigits u).toArray⟩)/\Below w.heap.size w w':=by
 have mixed:=L.mixed;have t2:=L.t2; have a2:=L.a2; have z2:=L.z2; have v2:=L.v2;have t3:=L.t3; have a3:=L.a3; have z3:=L.z3; have v3:=L.v3;have t9:=L.t9; have a9:=L.a9; have z9:=L.z9; have v9:=L.v9;have t4:=L.t4; have a4:=L.a4; have z4:=L.z4; have v4:=L.v4;have t171:=L.t171; have a171:=L.a171; have z171:=L.z171; have v171:=L.v171;have t0:=L.t0; have a0:=L.a0; have z0:=L.z0; have v0:=L.v0;have t53:=L.t53; have a53:=L.a53; have z53:=L.z53; have v53:=L.v53;have t37:=L.t37; have a37:=L.a37; have z37:=L.z37; have v37:=L.v37;have t5:=L.t5; have a5:=L.a5; have z5:=L.z5; have v5:=L.v5;have t173:=L.t173; have a173:=L.a173; have z173:=L.z173; have v173:=L.v173;have e283:∀ args w,(callFunc (ρ.f 283) args).run P w = .ok (.enter (ρ.f 283) args) w:=enters_of L.f283 (by kernel_rfl) rfl;have e284:∀ args w,(callFunc (ρ.f 284) args).run P w = .ok (.enter (ρ.f 284) args) w:=enters_of L.f284 (by kernel_rfl) rfl;have e285:∀ args w,(callFunc (ρ.f 285) args).run P w = .ok (.enter (ρ.f 285) args) w:=enters_of L.f285 (by kernel_rfl) rfl;have hu64:u<18446744073709551616:=by omega
 have hnd20:Lib.nDigits u<=20:=by have:=Lib.numDigits_eq u (by omega) hu64; split at this<;>omega
 have hb3:Lib.nDigits u<=23:=by omega
 have hal:P.arrayLen (ρ.t 171)=24:=by simp[Program.arrayLen,L.t171]
 have hsl1:∀ W,(Instr.sliceAt (ρ.t 171) (.pointer (some ⟨w.heap.size,0,none⟩)) (some (.int .i64 1)) (some (.int .i64 (1+(Lib.nDigits u:Int)))) none).run P W = .ok (.slice (some ⟨w.heap.size,1,none⟩) (Lib.nDigits u) 23) W:=fun W=>by
  rw[run_sliceAt_array_lh W (ρ.t 171) ⟨w.heap.size,0,none⟩ (by simp[Program.arrayLen,Program.elem,L.t171]) .i64 .i64 1 (1+(Lib.nDigits u:Int)) (by omega) (by omega) (by rw[hal]; omega)];go_simp
  omega
 have hH0:=Lib.holds_zero w (ρ.t 171) (Lib.nDigits u) (by omega);have hfmt:=Any.internal_strconv_formatBase10 { L with } w.heap.size 1 23 u (Array.replicate (Lib.nDigits u) 0) (w.alloc (.cells Lib.zeros24 (ρ.t 171))) hH0 (by rw[aC3]; exact Lib.lt_pow_nDigits u) hu64 (by rw[aC3]; omega);rw[aC3] at hfmt;have HH0:=Lib.hid hH0;clear hH0 hal;go_enter L.f246,Body.n246_ntmps ρ
 go_wp2_with (first
  | (go_at_fn (ρ.f 284); refine (aY2 { L with } u (by omega) hu64 _ (htab.alloc _)).mono ?_; rintro e w' ⟨rfl,rfl⟩))
 go_at_fn (ρ.f 285)
 refine hfmt.mono ?_;rintro e w' ⟨rfl,k,v',dk,rfl,hF⟩;have hcv:(convert (ρ.t 37) (ρ.t 9) (.slice (some ⟨w.heap.size,1,none⟩) (Lib.nDigits u) 23)).run P ((putRow (fun (b:UInt8)=>Value.int .u8 (b.toNat:Int)) (w.alloc (.cells Lib.zeros24 (ρ.t 171))) w.heap.size 1 dk).drewN k) = .ok (.string ⟨(Lib.decDigits u).toArray⟩) ((putRow (fun (b:UInt8)=>Value.int .u8 (b.toNat:Int)) (w.alloc (.cells Lib.zeros24 (ρ.t 171))) w.heap.size 1 dk).drewN k):=by have h:=run_convert_bytes_back (P:=P) ((putRow (fun (b:UInt8)=>Value.int .u8 (b.toNat:Int)) (w.alloc (.cells Lib.zeros24 (ρ.t 171))) w.heap.size 1 dk).drewN k) (ρ.t 37) (ρ.t 9) (ρ.t 5) ⟨w.heap.size,1,none⟩ 23 (Lib.decDigits u) L.t37 L.t5 L.t9 (fun j hj=>by rw[Lib.row_is_numeral hF j hj,Lib.add_plain,World.cell?_drewN];exact cell?_putRow (fun (b:UInt8)=>Value.int .u8 (b.toNat:Int)) _ w.heap.size 1 _ dk HH0.out (by rw[hF.size,aC3]) j (by rw[hF.size]; rw[Lib.decDigits_length] at hj; exact hj));rw[Lib.decDigits_length] at h;exact h
 go_wp2
 go_ret
 obtain ⟨os,eo⟩:=Lib.fin_pos w (.cells Lib.zeros24 (ρ.t 171)) dk k;refine ⟨rfl,?_⟩;rw[eo];exact below_grown w k os
set_option maxRecDepth 100000 in
theorem bDO (L:LaysM.n243 P ρ) (u:Nat) (hu1:100<=u) (hu:u<9223372036854775808) (w:World) (htab:Gl P ρ w) :
 Calls P (ρ.f 243) #[.int .i64 u] w fun e w'=>e = .returned (.string ⟨(Lib.decDigits u).toArray⟩)/\Below w.heap.size w w':=by
 have mixed:=L.mixed;have t3:=L.t3; have a3:=L.a3; have z3:=L.z3; have v3:=L.v3;have t9:=L.t9; have a9:=L.a9; have z9:=L.z9; have v9:=L.v9;have t2:=L.t2; have a2:=L.a2; have z2:=L.z2; have v2:=L.v2;have e246:∀ args w,(callFunc (ρ.f 246) args).run P w = .ok (.enter (ρ.f 246) args) w:=enters_of L.f246 (by kernel_rfl) rfl;go_enter L.f243,Body.n243_ntmps ρ
 go_wp2_with (go_at_fn (ρ.f 246); refine (aZI { L with } u hu1 hu _ htab).mono ?_; rintro e w' ⟨rfl,hb⟩)
 go_ret
 exact ⟨rfl,hb⟩
set_option maxRecDepth 100000 in
theorem bDQ (L:LaysM.n171 P ρ) (u:Nat) (hu1:100<=u) (hu:u<9223372036854775808) (w:World) (htab:Gl P ρ w) :
 Calls P (ρ.f 171) #[.int .i64 u] w fun e w'=>e = .returned (.string ⟨(Lib.decDigits u).toArray⟩)/\Below w.heap.size w w':=by
 have mixed:=L.mixed;have t3:=L.t3; have a3:=L.a3; have z3:=L.z3; have v3:=L.v3;have t9:=L.t9; have a9:=L.a9; have z9:=L.z9; have v9:=L.v9;have e243:∀ args w,(callFunc (ρ.f 243) args).run P w = .ok (.enter (ρ.f 243) args) w:=enters_of L.f243 (by kernel_rfl) rfl;go_enter L.f171,Body.n171_ntmps ρ
 go_wp2_with (go_at_fn (ρ.f 243); refine (bDO { L with } u hu1 hu _ htab).mono ?_; rintro e w' ⟨rfl,hb⟩)
 go_ret
 exact ⟨rfl,hb⟩
end
end YtcdceiloganlnaaGreatDoor
end Go.Proofs
namespace Go.Proofs
open Go.Shelf
shelf_lay Lays.n146 Nm 146 at Tryz as Tryz.lays146
end Go.Proofs
namespace Go.Proofs.YtcdceiloganlnaaGreatDoor
open Go.RowKit Go.Shelf
def rD (c:UInt8):bTB->List (bTB)
 | [] => [[]]
 | x::l=>if x=c then []::rD c l else (x::(rD c l).headD [])::(rD c l).tail
theorem bDT (c:UInt8) (l:bTB):Lib.indexByte (c::l) c=0:=by simp[Lib.indexByte]
theorem bDU {b c:UInt8} {l:bTB} (h:b≠c) (hi:Lib.indexByte l c = -1):Lib.indexByte (b::l) c = -1:=by simp[Lib.indexByte,h,hi]
theorem bDS {b c:UInt8} {l:bTB} (h:b≠c) (hi:Lib.indexByte l c ≠ -1):Lib.indexByte (b::l) c=Lib.indexByte l c+1:=by simp[Lib.indexByte,h,hi]
theorem bMP (sep:bTB) (l:bTB):Lib.splitK sep 0 0 l = [l]:=rfl
theorem bMO {c:UInt8} {k:Nat} {l:bTB} (h:Lib.indexByte l c = -1):Lib.splitK [c] 0 (k+1) l = [l]:=by rw[Lib.splitK,Lib.index_one,h]; rfl
theorem aB2 {c:UInt8} {k i:Nat} {l:bTB} (h:Lib.indexByte l c=i):Lib.splitK [c] 0 (k+1) l=l.take i::Lib.splitK [c] 0 k (l.drop (i+1)):=by
 rw[Lib.splitK,Lib.index_one,h];have:¬ ((i:Int) == -1)=true:=fun e=>by have:=rM.1 e; omega
 rw[aQ this];simp
theorem aRQ (c:UInt8):∀ l:bTB,Lib.splitK [c] 0 (l.count c) l=rD c l
 | []=>rfl
 | b::l=>by
  have ih:=aRQ c l;by_cases h:b=c
  .subst h;rw[List.count_cons_self,aB2 (i:=0) (bDT b l),rD,aS rfl,<- ih];rfl
  .rw[List.count_cons_of_ne (by omega),rD,aQ h];cases hk:l.count c with
   | zero =>rw[hk,bMP] at ih;rw[<- ih]; rfl
   | succ k =>
    rw[hk] at ih;by_cases hi:Lib.indexByte l c = -1;grind [bMO,bDU]
    .have h0:=Lib.indexByte_ge l c;obtain ⟨i,he⟩:∃ i:Nat,Lib.indexByte l c=i:=⟨(Lib.indexByte l c).toNat,by omega⟩;rw[aB2 he] at ih;rw[aB2 (i:=i+1) (by rw[bDS h hi,he]; rfl),<- ih];rfl
theorem aRO (c:UInt8) (s:ByteArray):Lib.splitB ⟨#[c]⟩ 0 (s.data.toList.count c) s=(rD c s.data.toList).map fun l=>⟨l.toArray⟩:=by
 have h:=Lib.splitB_data ⟨#[c]⟩ 0 (s.data.toList.count c) s;rw[show (ByteArray.mk #[c]).data.toList = [c] from rfl,aRQ] at h;rw[<- h,List.map_map];have:∀ x:ByteArray,((fun l:bTB=>(⟨l.toArray⟩:ByteArray)) ∘ fun x=>x.data.toList) x=x:=fun x=>by simp
 rw[show ((fun l:bTB=>(⟨l.toArray⟩:ByteArray)) ∘ fun x=>x.data.toList)=id from funext this,List.map_id]
section
variable {P:Program} {ρ:Ren}
set_option maxHeartbeats 1000000 in
theorem bMR (L:Lays.n146 P ρ) (hi9:(P.info? (ρ.t 9)).map (fun i=>(i.zero,i.size,i.bytes))=some (some (.string ByteArray.empty),1,16)) (s:ByteArray) (c:UInt8) (n:Nat) (hc:Lib.countB s ⟨#[c]⟩=n) (w:World) (hs:s.size<4294967281) :
 Calls P (ρ.f 146) #[.string s,.string ⟨#[c]⟩] w fun e w' =>e = .returned (.slice (some ⟨w.heap.size,0,none⟩) (n+1) (n+1))/\w'=w.alloc (.cells ((Lib.splitB ⟨#[c]⟩ 0 (n) s).map Value.string).toArray (ρ.t 9)):=by
 have h1:1<=(ByteArray.mk #[c]).size:=cu 1;have hle:=Lib.countB_le ⟨#[c]⟩ h1 s.size s (cu _);have hlen:=Lib.splitB_all ⟨#[c]⟩ h1 0 _ s rfl;have k:=Any.strings_genSplit_core { L with } hi9 s ⟨#[c]⟩ 0 (-1) (Lib.countB s ⟨#[c]⟩+1) w hs h1 (zg _)
  (fun x d _=>(Any.strings_Index_one { L with } x c _).mono fun e w' ⟨h1,h2⟩=>⟨by rw[h1,<- Lib.index_one],h2⟩)
  ((Any.strings_Count_one { L with } s c w).mono fun e w' ⟨h1,h2⟩=>⟨by rw[h1]; show _=Ending.returned (Value.int .i64 ((Lib.count s.data.toList [c]:Nat):Int)); rw[Lib.count_one]; rfl,h2⟩) (by decide) (by decide) (by rw[aS (by decide)]; omega)
 rw[Nat.add_sub_cancel,hlen] at k;have e2:Lib.cellsOf (Lib.splitB ⟨#[c]⟩ 0 (Lib.countB s ⟨#[c]⟩) s) (Lib.countB s ⟨#[c]⟩+1)=((Lib.splitB ⟨#[c]⟩ 0 (Lib.countB s ⟨#[c]⟩) s).map Value.string).toArray:=by rw[<- hlen]; exact Lib.cellsOf_full _
 rw[e2,hc] at k;have t3:=L.t3; have t9:=L.t9; have t31:=L.t31;have a3:=L.a3; have a9:=L.a9; have a31:=L.a31;have z3:=L.z3; have v3:=L.v3; have z9:=L.z9; have v9:=L.v9; have z31:=L.z31; have v31:=L.v31;have e221:∀ args w,(callFunc (ρ.f 221) args).run P w = .ok (.enter (ρ.f 221) args) w:=enters_of L.f221 (by kernel_rfl) rfl;go_enter L.f146,Body.n146_ntmps ρ
 go_wp2_with (go_at_fn (ρ.f 221); refine k.mono ?_; rintro e w' ⟨rfl,hw⟩; rw[hw])
 go_ret
 exact ⟨rfl,rfl⟩
end
def Iq (l:List (bTB)):bTA:=l.map fun x => .str ⟨x.toArray⟩
theorem aYW (s:ByteArray) (c:UInt8) (hs:s.size<4294967281):Ev Tryz.prog 39 [.str s,.str ⟨#[c]⟩] [] (.sl false 1 (Iq (rD c s.data.toList))) []:=by
 refine Ev.bHF (by kernel_rfl) rfl rfl fun M w vals hmem hv => ?_
 obtain ⟨u1,us,e1,r1,hv⟩:=bg.1 hv;obtain ⟨u2,us,rfl,r2,hv⟩:=bg.1 hv;rw[dJ] at hv; subst hv;have:vals = #[.string s,.string ⟨#[c]⟩]:=by rw[<- qP,e1,iG.1 r1,iG.1 r2]
 subst this;refine (bMR Tryz.lays146 (by kernel_rfl) s c _ (Lib.count_one c _) w hs).mono ?_;rintro e w' ⟨rfl,rfl⟩;refine ⟨_,rfl,?_,(Below.refl _ _).alloc (cu _) _⟩;have hl:(rD c s.data.toList).length=s.data.toList.count c+1:=by have h:=congrArg List.length (aRO c s);rw[aX] at h;rw[<- h];have:=Lib.splitB_all ⟨#[c]⟩ (cu 1) 0 (s.data.toList.count c) s (Lib.count_one c _);exact this
 refine jE.2 ⟨_,_,by rw[show (Iq (rD c s.data.toList)).length=s.data.toList.count c+1 by simp[Iq,hl]],by simp[Iq,hl],fun e he => ?_,fun h=>absurd h (by decide),fun _=>⟨_,_,rfl,?_⟩⟩
 .obtain ⟨x,_,rfl⟩:=qR.1 he; rfl
 .rw[aRO];have key:∀ (l:List (bTB)) (vs:List Value) (o:Nat),(∀ j,j<l.length->vs[o+j]? =(l[j]?).map fun x=>Value.string ⟨x.toArray⟩)->jr (news M w.heap.size (w.alloc (.cells vs.toArray (Tryz.lays146_ren.t 9)))) [] 1 (Iq l) w.heap.size o:=by
   intro l;induction l with
   | nil=>intro vs o _; exact UM
   | cons x l ih =>
    intro vs o h;refine KI.2 ⟨(vV rfl (fun _ h=>by cases h)).2 ⟨.string ⟨x.toArray⟩,?_,iG.2 rfl⟩,ih vs (o+1) fun j hj => ?_⟩
    .have h0:=h 0 (by simp);simp only[GU,List.getElem?_cons_zero,JE] at h0;exact bGW hmem (cu _) (by rw[World.cell?_alloc_new]; grind) rfl
    .have:=h (j+1) (by simp; omega);rw[show o+1+j=o+(j+1) by omega,this]; simp
  simp_all
end Go.Proofs.YtcdceiloganlnaaGreatDoor
namespace Go.Proofs
open Go.Shelf
shelf_lay Lays.n217 Nm 217 at Tryz as Tryz.lays217
end Go.Proofs
namespace Go.Proofs.YtcdceiloganlnaaGreatDoor
open Go.RowKit Go.Shelf
theorem bDA (s:ByteArray) (c:Int) (w:World):Calls Tryz.prog 293 #[.string s,.int .u8 c] w fun e w'=>e = .returned (.int .i64 (Lib.indexByte s.data.toList c.toNat.toUInt8))/\w'=w:=Any.stringslite_IndexByte Tryz.lays217 s c w
def C16:Cal:=fun g args h=>match g,args with
 | 293,[.str s,.int .u8 c]=>some (.int .i64 (Lib.indexByte s.data.toList c.toNat.toUInt8),h)
 | _,_=>none
theorem a3S {P:Program} {g:FuncId} {args:List PV} {r:PV} {v:Value} (hc:callable P g=true) (hr:∀ M B,Rep M B r v) (ho:r.own=false)
 (h:∀ (M:Mem) (B:aN) (w:World) (vals:Array Value),aj M B args vals.toList->Calls P g vals w fun e w'=>e = .returned v/\w'=w) (hh:aG):Ev P g args hh r hh:=by
 refine ⟨hc,fun out M B w vals hmem hheap hcnt hnew hv=>(h M B w vals hv).mono ?_⟩;rintro e w' ⟨rfl,rfl⟩;refine ⟨v,M,B,rfl,hmem,dG.refl _ _,Fr.refl _ _ _,hheap,hr M B,fA ho,fun b _ => ?_,fun b => ?_,fun b hb => ?_⟩;grind [dC]
 grind [dC]
 grind [dC]
theorem ET:o7 Tryz.prog C16:=by
 intro g args h r h' hv;unfold C16 at hv;split at hv
 .rename_i s c;injection hv with hv; injection hv with h1 h2; subst h1; subst h2
  refine a3S (v := .int .i64 (Lib.indexByte s.data.toList c.toNat.toUInt8)) (by kernel_rfl) (fun _ _=>dS.2 rfl) rfl (fun M B w vals hv => ?_) h;obtain ⟨u1,us,e1,r1,hv⟩:=bg.1 hv;obtain ⟨u2,us,rfl,r2,hv⟩:=bg.1 hv;rw[dJ] at hv;subst hv;rw[iG] at r1; rw[dS] at r2;subst r1; subst r2;have:vals = #[.string s,.int .u8 c]:=by rw[<- qP]; exact e1
  rw[this];exact bDA s c w
 .cases hv
end Go.Proofs.YtcdceiloganlnaaGreatDoor
namespace Go.Proofs.YtcdceiloganlnaaGreatDoor
open Go.RowKit
set_option maxRecDepth 1000000
def Lh (p:PV) (K:Int->ByteArray->Int->Int->Int->R):R:=match p with | .agg [.int .i64 x0,.str x1,.int .i64 x2,.int .i64 x3,.int .i64 x4]=>K x0 x1 x2 x3 x4 | _=>none
theorem aBW (p:PV):(∀ K:PV->R,Lh p (fun x0 x1 x2 x3 x4=>K (.agg [.int .i64 x0,.str x1,.int .i64 x2,.int .i64 x3,.int .i64 x4]))=K p)\/(∀ K:PV->R,Lh p (fun x0 x1 x2 x3 x4=>K (.agg [.int .i64 x0,.str x1,.int .i64 x2,.int .i64 x3,.int .i64 x4]))=none):=by
 unfold Lh; split
 .exact .inl fun _=>rfl
 .exact .inr fun _=>rfl
@[simp] theorem bT1 (x0 : Int) (x1 : ByteArray) (x2 : Int) (x3 : Int) (x4 : Int) (K : Int -> ByteArray -> Int -> Int -> Int -> R) : Lh (.agg [.int .i64 x0, .str x1, .int .i64 x2, .int .i64 x3, .int .i64 x4]) K = K x0 x1 x2 x3 x4 := rfl
def VV (t:TypeId) (p:PV) (K:PV->R):R :=
 aA (Nat.beq t 2) (vI .i64 p fun n1=>K (.int .i64 n1))
  (aA (Nat.beq t 3) (vI .i64 p fun n1=>K (.int .i64 n1))
  (aA (Nat.beq t 4) (vB p fun b1=>K (.bool b1))
  (aA (Nat.beq t 5) (vI .u8 p fun n1=>K (.int .u8 n1))
  (aA (Nat.beq t 6) (vI .u8 p fun n1=>K (.int .u8 n1))
  (aA (Nat.beq t 9) (vS p fun s1=>K (.str s1))
  (aA (Nat.beq t 10) (vS p fun s1=>K (.str s1))
  (aA (Nat.beq t 11) (vS p fun s1=>K (.str s1))
  (aA (Nat.beq t 12) (vI .u64 p fun n1=>K (.int .u64 n1))
  (aA (Nat.beq t 21) (vI .i32 p fun n1=>K (.int .i32 n1))
  (aA (Nat.beq t 22) (vL false 5 p fun l1=>K (.sl false 5 l1))
  (aA (Nat.beq t 31) (vI .i64 p fun n1=>K (.int .i64 n1))
  (aA (Nat.beq t 34) (vL false 1 p fun l1=>K (.sl false 1 l1))
  (aA (Nat.beq t 65) (vI .u16 p fun n1=>K (.int .u16 n1))
  (aA (Nat.beq t 83) (vL false 1 p fun l1=>K (.sl false 1 l1))
  (aA (Nat.beq t 95) (vL false 5 p fun l1=>K (.sl false 5 l1))
  (aA (Nat.beq t 117) (vL false 1 p fun l1=>K (.sl false 1 l1))
  (aA (Nat.beq t 126) (vL false 1 p fun l1=>K (.sl false 1 l1))
  (aA (Nat.beq t 130) (vL false 5 p fun l1=>K (.sl false 5 l1))
  (aA (Nat.beq t 175) (vI .u64 p fun n1=>K (.int .u64 n1))
  (aA (Nat.beq t 188) (vI .i8 p fun n1=>K (.int .i8 n1))
  (aA (Nat.beq t 191) (Lh p fun n1 s2 n3 n4 n5=>K (.agg [.int .i64 n1,.str s2,.int .i64 n3,.int .i64 n4,.int .i64 n5]))
  (aA (Nat.beq t 192) (Lh p fun n1 s2 n3 n4 n5=>K (.agg [.int .i64 n1,.str s2,.int .i64 n3,.int .i64 n4,.int .i64 n5]))
  (aA (Nat.beq t 219) (vL false 1 p fun l1=>K (.sl false 1 l1))
  (aA (Nat.beq t 236) (vL false 1 p fun l1=>K (.sl false 1 l1))
  (aA (Nat.beq t 260) (vI .u32 p fun n1=>K (.int .u32 n1))
  (aA (Nat.beq t 263) (vI .u64 p fun n1=>K (.int .u64 n1))
  (aA (Nat.beq t 354) (vI .u8 p fun n1=>K (.int .u8 n1))
  (aA (Nat.beq t 355) (vI .u8 p fun n1=>K (.int .u8 n1))
  (aA (Nat.beq t 357) (vI .i32 p fun n1=>K (.int .i32 n1))
  (aA (Nat.beq t 358) (vI .i32 p fun n1=>K (.int .i32 n1))
  (K p)))))))))))))))))))))))))))))))
theorem aUK:yN VV:=fun t p =>kT (rG .i64 p) (kT (rG .i64 p) (kT (Iw p) (kT (rG .u8 p) (kT (rG .u8 p) (kT (Vl p) (kT (Vl p) (kT (Vl p) (kT (rG .u64 p) (kT (rG .i32 p) (kT (AV false 5 p) (kT (rG .i64 p) (kT (AV false 1 p) (kT (rG .u16 p) (kT (AV false 1 p) (kT (AV false 5 p) (kT (AV false 1 p) (kT (AV false 1 p) (kT (AV false 5 p) (kT (rG .u64 p) (kT (rG .i8 p) (kT (aBW p) (kT (aBW p) (kT (AV false 1 p) (kT (AV false 1 p) (kT (rG .u32 p) (kT (rG .u64 p) (kT (rG .u8 p) (kT (rG .u8 p) (kT (rG .i32 p) (kT (rG .i32 p) (.inl fun _=>rfl)))))))))))))))))))))))))))))))
def Vp (p:PV) (K:List PV->Int->Int->Int->R):R:=match p with | .tuple [.sl false 5 l1,.int .i64 n2,.int .i64 n3,.int .i64 n4]=>K l1 n2 n3 n4 | _=>none
theorem bPB (p:PV) (h:aG):(∀ K:PV->aG->R,Vp p (fun l1 n2 n3 n4=>K (.tuple [.sl false 5 l1,.int .i64 n2,.int .i64 n3,.int .i64 n4]) h)=K p h)\/(∀ K:PV->aG->R,Vp p (fun l1 n2 n3 n4=>K (.tuple [.sl false 5 l1,.int .i64 n2,.int .i64 n3,.int .i64 n4]) h)=none):=by
 unfold Vp; split
 .exact .inl fun _=>rfl
 .exact .inr fun _=>rfl
@[simp] theorem bT3 (l1 : List PV) (n2 : Int) (n3 : Int) (n4 : Int) (K : List PV -> Int -> Int -> Int -> R) : Vp (.tuple [.sl false 5 l1, .int .i64 n2, .int .i64 n3, .int .i64 n4]) K = K l1 n2 n3 n4 := rfl
def EN (p:PV) (K:Int->ByteArray->Int->Int->Int->Int->R):R:=match p with | .tuple [.agg [.int .i64 n1,.str s2,.int .i64 n3,.int .i64 n4,.int .i64 n5],.int .i64 n6]=>K n1 s2 n3 n4 n5 n6 | _=>none
theorem aBY (p:PV) (h:aG):(∀ K:PV->aG->R,EN p (fun n1 s2 n3 n4 n5 n6=>K (.tuple [.agg [.int .i64 n1,.str s2,.int .i64 n3,.int .i64 n4,.int .i64 n5],.int .i64 n6]) h)=K p h)\/(∀ K:PV->aG->R,EN p (fun n1 s2 n3 n4 n5 n6=>K (.tuple [.agg [.int .i64 n1,.str s2,.int .i64 n3,.int .i64 n4,.int .i64 n5],.int .i64 n6]) h)=none):=by
 unfold EN; split
 .exact .inl fun _=>rfl
 .exact .inr fun _=>rfl
@[simp] theorem bT4 (n1 : Int) (s2 : ByteArray) (n3 : Int) (n4 : Int) (n5 : Int) (n6 : Int) (K : Int -> ByteArray -> Int -> Int -> Int -> Int -> R) : EN (.tuple [.agg [.int .i64 n1, .str s2, .int .i64 n3, .int .i64 n4, .int .i64 n5], .int .i64 n6]) K = K n1 s2 n3 n4 n5 n6 := rfl
def Jt (p:PV) (h:aG) (K:Int->ByteArray->Int->Int->Int->Int->Int->Int->R):R:=match p,h with | .agg [.int .i64 n1,.str s2,.int .i64 n3,.int .i64 n4,.int .i64 n5],[some [.int .i64 n6],some [.int .i64 n7],some [.int .i64 n8]]=>K n1 s2 n3 n4 n5 n6 n7 n8 | _,_=>none
theorem bCP (p:PV) (h:aG):(∀ K:PV->aG->R,Jt p h (fun n1 s2 n3 n4 n5 n6 n7 n8=>K (.agg [.int .i64 n1,.str s2,.int .i64 n3,.int .i64 n4,.int .i64 n5]) [some [.int .i64 n6],some [.int .i64 n7],some [.int .i64 n8]])=K p h)\/(∀ K:PV->aG->R,Jt p h (fun n1 s2 n3 n4 n5 n6 n7 n8=>K (.agg [.int .i64 n1,.str s2,.int .i64 n3,.int .i64 n4,.int .i64 n5]) [some [.int .i64 n6],some [.int .i64 n7],some [.int .i64 n8]])=none):=by
 unfold Jt; split
 .exact .inl fun _=>rfl
 .exact .inr fun _=>rfl
@[simp] theorem bQP (n1 : Int) (s2 : ByteArray) (n3 : Int) (n4 : Int) (n5 : Int) (n6 : Int) (n7 : Int) (n8 : Int) (K : Int -> ByteArray -> Int -> Int -> Int -> Int -> Int -> Int -> R) : Jt (.agg [.int .i64 n1, .str s2, .int .i64 n3, .int .i64 n4, .int .i64 n5]) [some [.int .i64 n6], some [.int .i64 n7], some [.int .i64 n8]] K = K n1 s2 n3 n4 n5 n6 n7 n8 := rfl
def Wq (h0:aG) (r:PV) (h:aG) (K:PV->aG->R):R:=match h0 with
 | [some [.int .i64 _],some [.int .i64 _],some [.int .i64 _]]=>Jt r h (fun n1 s2 n3 n4 n5 n6 n7 n8=>K (.agg [.int .i64 n1,.str s2,.int .i64 n3,.int .i64 n4,.int .i64 n5]) [some [.int .i64 n6],some [.int .i64 n7],some [.int .i64 n8]])
 | []=>Lh r fun n1 s2 n3 n4 n5=>K (.agg [.int .i64 n1,.str s2,.int .i64 n3,.int .i64 n4,.int .i64 n5]) h
 | _=>K r h
theorem aUM (h0:aG) (r:PV) (h:aG):(∀ K:PV->aG->R,Wq h0 r h K=K r h)\/(∀ K:PV->aG->R,Wq h0 r h K=none):=by
 unfold Wq; split
 .exact bCP r h
 .exact zQ (aBW r) h
 .exact .inl fun _=>rfl
def a2N (g:FuncId) (h0:aG) (r:PV) (h:aG) (K:PV->aG->R):R :=
 aA (Nat.beq g 303) (vB r fun b1=>K (.bool b1) h)
  (aA (Nat.beq g 304) (EN r fun n1 s2 n3 n4 n5 n6=>K (.tuple [.agg [.int .i64 n1,.str s2,.int .i64 n3,.int .i64 n4,.int .i64 n5],.int .i64 n6]) h)
  (aA (Nat.beq g 305) (vB r fun b1=>K (.bool b1) h)
  (aA (Nat.beq g 306) (EN r fun n1 s2 n3 n4 n5 n6=>K (.tuple [.agg [.int .i64 n1,.str s2,.int .i64 n3,.int .i64 n4,.int .i64 n5],.int .i64 n6]) h)
  (aA (Nat.beq g 333) (vS r fun s1=>K (.str s1) h)
  (aA (Nat.beq g 334) (vB r fun b1=>K (.bool b1) h)
  (K r h))))))
theorem aUP (g:FuncId) (h0:aG) (r:PV) (h:aG):(∀ K:PV->aG->R,a2N g h0 r h K=K r h)\/(∀ K:PV->aG->R,a2N g h0 r h K=none) :=sH (zQ (Iw r) h) (sH (aBY r h) (sH (zQ (Iw r) h) (sH (aBY r h) (sH (zQ (Vl r) h) (sH (zQ (Iw r) h) (.inl fun _=>rfl))))))
def a2M (g:FuncId) (h0:aG) (r:PV) (h:aG) (K:PV->aG->R):R :=
 aA (Nat.beq g 99) (Vp r fun l1 n2 n3 n4=>K (.tuple [.sl false 5 l1,.int .i64 n2,.int .i64 n3,.int .i64 n4]) h)
  (aA (Nat.beq g 120) (vB r fun b1=>K (.bool b1) h)
  (aA (Nat.beq g 213) (vB r fun b1=>K (.bool b1) h)
  (aA (Nat.beq g 249) (w0 r (K (.tuple []) h))
  (aA (Nat.beq g 250) (vI .i64 r fun n1=>K (.int .i64 n1) h)
  (aA (Nat.beq g 251) (Wq h0 r h K)
  (aA (Nat.beq g 252) (EN r fun n1 s2 n3 n4 n5 n6=>K (.tuple [.agg [.int .i64 n1,.str s2,.int .i64 n3,.int .i64 n4,.int .i64 n5],.int .i64 n6]) h)
  (aA (Nat.beq g 253) (vL false 2 r fun l1=>K (.sl false 2 l1) h)
  (aA (Nat.beq g 293) (vI .i64 r fun n1=>K (.int .i64 n1) h)
  (aA (Nat.beq g 300) (vB r fun b1=>K (.bool b1) h)
  (aA (Nat.beq g 301) (vI .i64 r fun n1=>K (.int .i64 n1) h)
  (aA (Nat.beq g 302) (vL false 1 r fun l1=>K (.sl false 1 l1) h)
  (a2N g h0 r h K))))))))))))
theorem aUO (g:FuncId) (h0:aG) (r:PV) (h:aG):(∀ K:PV->aG->R,a2M g h0 r h K=K r h)\/(∀ K:PV->aG->R,a2M g h0 r h K=none) :=sH (bPB r h) (sH (zQ (Iw r) h) (sH (zQ (Iw r) h) (sH (bPA r h) (sH (zQ (rG .i64 r) h) (sH (aUM h0 r h) (sH (aBY r h) (sH (zQ (AV false 2 r) h) (sH (zQ (rG .i64 r) h) (sH (zQ (Iw r) h) (sH (zQ (rG .i64 r) h) (sH (zQ (AV false 1 r) h) (aUP g h0 r h))))))))))))
def WW:FuncId->aG->PV->aG->(PV->aG->R)->R:=a2M
theorem aUN:tX WW:=aUO
def a9B (g:FuncId):wO:=match g with
 | 99=>⟨[0,2,3,4,5],[22],[],[],[(4,[0]),(10,[2,3,4,5])],[],[(2,[5])],[],[([5],false),([],true),([],true),([],true)],[],[],[],false⟩
 | 120=>⟨[0,1],[],[],[],[],[],[],[],[],[],[],[],false⟩
 | 195=>⟨[0,1],[],[],[],[],[],[],[1],[],[],[],[],false⟩
 | 213=>⟨[0,1],[],[],[],[],[],[],[],[],[],[],[],false⟩
 | 249=>⟨[0,1,3,4,5,6,7,8,9,11,12,13,47,48,49],[],[],[(47,[2])],[(2,[0,1,3,4,5]),(6,[0,1,3,4,5,6,7]),(5,[0,1,3,4,5,6,7]),(8,[0,1,3,4,5,6]),(12,[0,1,3,4,5,8]),(15,[0,1,3,4,5,8,9,47,48,49]),(18,[0,1,3,4,5,8,9,47,48,49]),(19,[0,1,3,4,5,8,9]),(21,[0,1,3,4,5,12])],[(2,[0,1,3,4,5]),(4,[0,1,3,4,5,6,7]),(14,[0,1,3,4,5,8,9,47,48,49])],[],[],[],[],[],[],false⟩
 | 250=>⟨[0,3,4],[],[],[],[(5,[0,3]),(11,[0,3,4]),(12,[3])],[(3,[0,3])],[],[],[],[],[],[],false⟩
 | 251=>⟨[0,1,2,3,4,5],[],[],[],[],[],[],[],[],[],[],[6,7,8,1000000,1000001,1000002],false⟩
 | 252=>⟨[0,2,5,6,7,8],[],[],[(6,[1])],[(4,[0,2,6,7,8]),(7,[0,2,6,7,8]),(8,[2])],[(3,[0,2,6,7,8])],[],[],[],[],[],[],false⟩
 | 253=>⟨[],[],[],[],[],[],[],[],[([2],false)],[],[],[],false⟩
 | 293=>⟨[0,1],[],[],[],[],[],[],[],[],[],[],[],false⟩
 | 300=>⟨[0],[],[],[],[],[],[],[],[],[],[],[],false⟩
 | 301=>⟨[0,1],[],[],[],[],[],[],[],[],[],[],[],false⟩
 | 302=>⟨[],[],[],[],[],[],[],[],[([1],false)],[],[],[],false⟩
 | 303=>⟨[0],[],[],[],[],[],[],[],[],[],[],[],false⟩
 | 304=>⟨[0,2,4],[],[],[],[(5,[2,4])],[],[],[],[],[],[],[],false⟩
 | 305=>⟨[0],[],[],[],[],[],[],[],[],[],[],[],false⟩
 | 306=>⟨[0,2,4,5,6,27,28],[],[],[],[(5,[2,4]),(8,[2,4,5,27,28]),(12,[2,4,5,27,28]),(13,[2,4,5])],[(7,[2,4,5,27,28])],[],[],[],[],[],[],false⟩
 | 333=>⟨[0,1,5,7,8],[],[],[],[(4,[0,1,7,8]),(7,[0,1,7,8]),(8,[0])],[(3,[0,1,7,8])],[],[],[],[],[],[],false⟩
 | 334=>⟨[0],[],[],[],[],[],[],[],[],[],[],[],false⟩
 | _=>⟨[],[],[],[],[],[],[],[],[],[],[],[],false⟩
noncomputable def SS:SE:=⟨Tryz.prog,a9B,VV,WW,C16⟩
theorem dO:SS.OK:=⟨aUK,aUN⟩
def aH':Code:=qI Tryz.f250
def a4S:AE:=SS.ae 250 34
def b4X:XE:=SS.xe SS.CC SS.LL a4S 0
def aHY:AX->ASt->R:=FY SS.P Tryz.f250.results.toList (SS.iF 250).ro 0 []
def aI0:Code:=Code.sub [true,true,true] aH'
def b4V:AX->ASt->R:=vz (uT a4S 0 aI0 (bG b4X aI0 aHY)) aHY
def b4W:AX->ASt->R:=bI 0 b4V
def b4Y:Code:=Code.sub [true,true,false,false,false] aH'
def Sj (x0:ByteArray) (x3:Int):R:=SS.LL a4S 0 [0,3] 0 b4Y b4W ⟨[(0,.str x0),(3,.int .i64 x3)],[]⟩
theorem aHZ (x0:ByteArray) (x3:Int):Sj x0 x3=aA (decide (x3<(x0.size:Int))) (vJ x0 x3 fun c1=>jJ SS.CC 300 [.int .u8 c1] fun r3=>vB r3 fun b2=>aA b2 (Sj x0 (i64.wrap (x3+1))) (chk (decide (0<=x3)&&decide (x3<=(x0.size:Int))) (jJ SS.CC 120 [.str (x0.extract x3.toNat x0.size),.str ⟨#[47,47]⟩] fun r5=>vB r5 fun b4=>aA b4 (chk (decide (0<=x3)&&decide (x3<=(x0.size:Int))) (jJ SS.CC 301 [.str (x0.extract x3.toNat x0.size),.int .u8 10] fun r7=>vI .i64 r7 fun n6=>aA (decide (n6<0)) (some (.int .i64 (x0.size:Int),[])) (Sj x0 (i64.wrap (x3+n6))))) (some (.int .i64 x3,[]))))) (some (.int .i64 x3,[])):=(CY dO (by decide) (by kernel_rfl) (by kernel_rfl)).trans (by kernel_rfl)
theorem b4Z (a0:ByteArray):SS.CC 250 [.str a0] []=Sj a0 0:=(sZ dO rfl).trans (by kernel_rfl)
def aI4:Code:=qI Tryz.f252
def a4T:AE:=SS.ae 252 19
def b52:XE:=SS.xe SS.CC SS.LL a4T 0
def aI2:AX->ASt->R:=FY SS.P Tryz.f252.results.toList (SS.iF 252).ro 0 []
def aI5:Code:=Code.sub [true,true] aI4
def b4':AX->ASt->R:=vz (uT a4T 0 aI5 (bG b52 aI5 aI2)) aI2
def b51:AX->ASt->R:=bI 0 b4'
def b53:Code:=Code.sub [true,false,true,false,false] aI4
def YU (x0:ByteArray) (x6:bTA) (x8:Int):R:=SS.LL a4T 0 [0,2,6,7,8] 1 b53 b51 ⟨[(0,.str x0),(2,.ptr 0 0),(6,.sl false 1 x6),(7,.int .i64 (x6.length:Int)),(8,.int .i64 x8)],[some [.int .i64 0,.str ⟨#[]⟩,.int .i64 0,.int .i64 0,.int .i64 0]]⟩
theorem aI3 (x0:ByteArray) (x6:bTA) (x8:Int):YU x0 x6 x8=aA (decide (x8<(x6.length:Int))) (eH x6 x8 fun e1=>vS e1 fun s2=>jJ SS.CC 120 [.str x0,.str s2] fun r4=>vB r4 fun b3=>aA b3 (some (.tuple [.agg [.int .i64 3,.str s2,.int .i64 0,.int .i64 0,.int .i64 0],.int .i64 0],[])) (YU x0 x6 (i64.wrap (x8+1)))) (some (.tuple [.agg [.int .i64 0,.str ⟨#[]⟩,.int .i64 0,.int .i64 0,.int .i64 0],.int .i64 14],[])):=(CY dO (by decide) (by kernel_rfl) (by kernel_rfl)).trans (by kernel_rfl)
theorem b54 (a0:ByteArray):SS.CC 252 [.str a0] []=jJ SS.CC 302 [] fun r2=>vL false 1 r2 fun l1=>YU a0 l1 0:=(sZ dO rfl).trans (by kernel_rfl)
theorem b72 (a0:ByteArray):SS.CC 304 [.str a0] []=jJ SS.CC 333 [.str a0,.func (.func 334) [] []] fun r2=>vS r2 fun s1=>aA (decide (32<(s1.size:Int))) (some (.tuple [.agg [.int .i64 0,.str ⟨#[]⟩,.int .i64 0,.int .i64 0,.int .i64 0],.int .i64 15],[])) (some (.tuple [.agg [.int .i64 1,.str s1,.int .i64 0,.int .i64 0,.int .i64 0],.int .i64 0],[])):=(sZ dO rfl).trans (by kernel_rfl)
def a4Y:Code:=qI Tryz.f306
def a4W:AE:=SS.ae 306 46
def aIJ:XE:=SS.xe SS.CC SS.LL a4W 0
def a4X:AX->ASt->R:=FY SS.P Tryz.f306.results.toList (SS.iF 306).ro 0 []
def b77:Code:=Code.sub [true,true,true] a4Y
def aIK:Code:=Code.sub [true,true,true,true,true] a4Y
def b75:AX->ASt->R:=vz (uT a4W 0 aIK (bG aIJ aIK a4X)) a4X
def b76:AX->ASt->R:=bI 0 b75
def b78:Code:=Code.sub [true,true,true,true,false,true,false,false] a4Y
def Yd (x4:ByteArray):R:=bG aIJ b77 a4X ⟨[(2,.ptr 0 0),(4,.str x4)],[some [.int .i64 0,.str ⟨#[]⟩,.int .i64 0,.int .i64 0,.int .i64 0]]⟩
def Ye (x4:ByteArray) (x5:Int) (x28:Int):R:=SS.LL a4W 0 [2,4,5,27,28] 1 b78 b76 ⟨[(2,.ptr 0 0),(4,.str x4),(5,.int .i64 x5),(27,.int .i64 (x4.size:Int)),(28,.int .i64 x28)],[some [.int .i64 0,.str ⟨#[]⟩,.int .i64 0,.int .i64 0,.int .i64 0]]⟩
theorem b74 (x4:ByteArray):Yd x4=Ye x4 0 0:=by kernel_rfl
theorem aII (x4:ByteArray) (x5:Int) (x28:Int):Ye x4 x5 x28=aA (decide (x28<(x4.size:Int))) (vJ x4 x28 fun c1=>aA (decide (65536<(i64.wrap ((i64.wrap (10*x5))+(i64.wrap (IntKind.u8.wrap (c1-48))))))) (some (.tuple [.agg [.int .i64 0,.str ⟨#[]⟩,.int .i64 0,.int .i64 0,.int .i64 0],.int .i64 2],[])) (Ye x4 (i64.wrap ((i64.wrap (10*x5))+(i64.wrap (IntKind.u8.wrap (c1-48))))) (i64.wrap (x28+1)))) (some (.tuple [.agg [.int .i64 2,.str x4,.int .i64 x5,.int .i64 0,.int .i64 0],.int .i64 0],[])):=(CY dO (by decide) (by kernel_rfl) (by kernel_rfl)).trans (by kernel_rfl)
theorem b79 (a0:ByteArray):SS.CC 306 [.str a0] []=jJ SS.CC 333 [.str a0,.func (.func 305) [] []] fun r2=>vS r2 fun s1=>jJ SS.CC 333 [.str a0,.func (.func 334) [] []] fun r4=>vS r4 fun s3=>aA (decide ((s1.size:Int)<(s3.size:Int))) (some (.tuple [.agg [.int .i64 0,.str ⟨#[]⟩,.int .i64 0,.int .i64 0,.int .i64 0],.int .i64 6],[])) (aA (decide (1<(s1.size:Int))) (vJ s1 0 fun c5=>aA (c5==48) (some (.tuple [.agg [.int .i64 0,.str ⟨#[]⟩,.int .i64 0,.int .i64 0,.int .i64 0],.int .i64 6],[])) (Yd s1)) (Yd s1)):=(sZ dO rfl).trans (by kernel_rfl)
theorem b55:SS.CC 253 [] []=some (.sl false 2 [.agg [.func (.func 303) [] [],.func (.func 304) [] []],.agg [.func (.func 305) [] [],.func (.func 306) [] []]],[]):=(sZ dO rfl).trans (by kernel_rfl)
theorem b6Z (a0:Int):SS.CC 300 [.int .u8 a0] []=aA (a0==32) (some (.bool true,[])) (aA (a0==9) (some (.bool true,[])) (aA (a0==13) (some (.bool true,[])) (some (.bool (a0==10),[])))):=(sZ dO rfl).trans (by kernel_rfl)
theorem a'Z (a0:ByteArray) (a1:ByteArray):SS.CC 120 [.str a0,.str a1] []=jJ SS.CC 213 [.str a0,.str a1] fun r2=>vB r2 fun b1=>some (.bool b1,[]):=(sZ dO rfl).trans (by kernel_rfl)
theorem b6' (a0:ByteArray) (a1:Int):SS.CC 301 [.str a0,.int .u8 a1] []=jJ SS.CC 293 [.str a0,.int .u8 a1] fun r2=>vI .i64 r2 fun n1=>some (.int .i64 n1,[]):=(sZ dO rfl).trans (by kernel_rfl)
theorem b70:SS.CC 302 [] []=some (.sl false 1 [.str ⟨#[45,62]⟩,.str ⟨#[58,61]⟩,.str ⟨#[61,61]⟩,.str ⟨#[33,61]⟩,.str ⟨#[60,61]⟩,.str ⟨#[62,61]⟩,.str ⟨#[46,46]⟩,.str ⟨#[38,38]⟩,.str ⟨#[124,124]⟩,.str ⟨#[123]⟩,.str ⟨#[125]⟩,.str ⟨#[40]⟩,.str ⟨#[41]⟩,.str ⟨#[91]⟩,.str ⟨#[93]⟩,.str ⟨#[44]⟩,.str ⟨#[59]⟩,.str ⟨#[58]⟩,.str ⟨#[61]⟩,.str ⟨#[60]⟩,.str ⟨#[62]⟩,.str ⟨#[43]⟩,.str ⟨#[45]⟩,.str ⟨#[42]⟩,.str ⟨#[33]⟩,.str ⟨#[63]⟩],[]):=(sZ dO rfl).trans (by kernel_rfl)
def aIU:Code:=qI Tryz.f333
def a5D:AE:=SS.ae 333 22
def b7X:XE:=SS.xe SS.CC SS.LL a5D 0
def aIS:AX->ASt->R:=FY SS.P Tryz.f333.results.toList (SS.iF 333).ro 0 []
def aIV:Code:=Code.sub [true,true] aIU
def b7V:AX->ASt->R:=vz (uT a5D 0 aIV (bG b7X aIV aIS)) aIS
def b7W:AX->ASt->R:=bI 0 b7V
def b7Y:Code:=Code.sub [true,false,true,false,false] aIU
def Yi (x0:ByteArray) (x8:Int):R:=SS.LL a5D 0 [0,1,7,8] 0 b7Y b7W ⟨[(0,.str x0),(1,.func (.func 334) [] []),(7,.int .i64 (x0.size:Int)),(8,.int .i64 x8)],[]⟩
theorem aIT (x0:ByteArray) (x8:Int):Yi x0 x8=aA (decide (x8<(x0.size:Int))) (vJ x0 x8 fun c1=>jJ SS.CC 334 [.int .u8 c1] fun r3=>vB r3 fun b2=>aA (!b2) (chk (decide (0<=x8)&&decide (x8<=(x0.size:Int))) (some (.str (x0.extract 0 x8.toNat),[]))) (Yi x0 (i64.wrap (x8+1)))) (some (.str x0,[])):=(CY dO (by decide) (by kernel_rfl) (by kernel_rfl)).trans (by kernel_rfl)
theorem b7Z (a0:ByteArray):SS.CC 333 [.str a0,.func (.func 334) [] []] []=Yi a0 0:=(sZ dO rfl).trans (by kernel_rfl)
def aIQ:Code:=qI Tryz.f333
def a5C:AE:=SS.ae 333 22
def b7S:XE:=SS.xe SS.CC SS.LL a5C 0
def aIO:AX->ASt->R:=FY SS.P Tryz.f333.results.toList (SS.iF 333).ro 0 []
def aIR:Code:=Code.sub [true,true] aIQ
def b7Q:AX->ASt->R:=vz (uT a5C 0 aIR (bG b7S aIR aIO)) aIO
def b7R:AX->ASt->R:=bI 0 b7Q
def b7T:Code:=Code.sub [true,false,true,false,false] aIQ
def Yh (x0:ByteArray) (x8:Int):R:=SS.LL a5C 0 [0,1,7,8] 0 b7T b7R ⟨[(0,.str x0),(1,.func (.func 305) [] []),(7,.int .i64 (x0.size:Int)),(8,.int .i64 x8)],[]⟩
theorem aIP (x0:ByteArray) (x8:Int):Yh x0 x8=aA (decide (x8<(x0.size:Int))) (vJ x0 x8 fun c1=>jJ SS.CC 305 [.int .u8 c1] fun r3=>vB r3 fun b2=>aA (!b2) (chk (decide (0<=x8)&&decide (x8<=(x0.size:Int))) (some (.str (x0.extract 0 x8.toNat),[]))) (Yh x0 (i64.wrap (x8+1)))) (some (.str x0,[])):=(CY dO (by decide) (by kernel_rfl) (by kernel_rfl)).trans (by kernel_rfl)
theorem b7U (a0:ByteArray):SS.CC 333 [.str a0,.func (.func 305) [] []] []=Yh a0 0:=(sZ dO rfl).trans (by kernel_rfl)
theorem b38 (a0:ByteArray) (a1:ByteArray):SS.CC 213 [.str a0,.str a1] []=aA (decide ((a1.size:Int)<=(a0.size:Int))) (chk (decide (0<=(a1.size:Int))&&decide ((a1.size:Int)<=(a0.size:Int))) (some (.bool ((a0.extract 0 (a1.size:Int).toNat).toList==a1.toList),[]))) (some (.bool false,[])):=(sZ dO rfl).trans (by kernel_rfl)
theorem b7' (a0:Int):SS.CC 334 [.int .u8 a0] []=jJ SS.CC 303 [.int .u8 a0] fun r2=>vB r2 fun b1=>aA b1 (some (.bool true,[])) (jJ SS.CC 305 [.int .u8 a0] fun r4=>vB r4 fun b3=>some (.bool b3,[])):=(sZ dO rfl).trans (by kernel_rfl)
theorem b73 (a0:Int):SS.CC 305 [.int .u8 a0] []=aA (decide (48<=a0)) (some (.bool (decide (a0<=57)),[])) (some (.bool false,[])):=(sZ dO rfl).trans (by kernel_rfl)
theorem b71 (a0:Int):SS.CC 303 [.int .u8 a0] []=aA (decide (97<=a0)) (aA (decide (a0<=122)) (some (.bool true,[])) (aA (decide (65<=a0)) (aA (decide (a0<=90)) (some (.bool true,[])) (some (.bool (a0==95),[]))) (some (.bool (a0==95),[])))) (aA (decide (65<=a0)) (aA (decide (a0<=90)) (some (.bool true,[])) (some (.bool (a0==95),[]))) (some (.bool (a0==95),[]))):=(sZ dO rfl).trans (by kernel_rfl)
theorem aI1 (a0:Int) (Gu:ByteArray) (Gv:Int) (aDD:Int) (aDE:Int) (bU:Int) (nP:Int) (lG:Int):SS.CC 251 [.agg [.int .i64 a0,.str Gu,.int .i64 Gv,.int .i64 aDD,.int .i64 aDE],.ptr 0 0,.ptr 1 0,.ptr 2 0] [some [.int .i64 bU],some [.int .i64 nP],some [.int .i64 lG]]=some (.agg [.int .i64 a0,.str Gu,.int .i64 Gv,.int .i64 bU,.int .i64 (i64.wrap ((i64.wrap (nP-lG))+1))],[some [.int .i64 bU],some [.int .i64 nP],some [.int .i64 lG]]):=(show SS.CC 251 [.agg [.int .i64 a0,.str Gu,.int .i64 Gv,.int .i64 aDD,.int .i64 aDE],.ptr 0 0,.ptr 1 0,.ptr 2 0] [some [.int .i64 bU],some [.int .i64 nP],some [.int .i64 lG]]=dA (dA (some (.agg [.int .i64 a0,.str Gu,.int .i64 Gv,.int .i64 bU,.int .i64 (i64.wrap ((i64.wrap (nP-lG))+1))],[some [.int .i64 bU],some [.int .i64 nP],some [.int .i64 lG]])) (some (.agg [.int .i64 a0,.str Gu,.int .i64 Gv,.int .i64 bU,.int .i64 (i64.wrap ((i64.wrap (nP-lG))+1))],[some [.int .i64 bU],some [.int .i64 nP],some [.int .i64 lG]]))) (dA (dA (some (.agg [.int .i64 a0,.str Gu,.int .i64 Gv,.int .i64 bU,.int .i64 (i64.wrap ((i64.wrap (nP-lG))+1))],[some [.int .i64 bU],some [.int .i64 nP],some [.int .i64 lG]])) (some (.agg [.int .i64 a0,.str Gu,.int .i64 Gv,.int .i64 bU,.int .i64 (i64.wrap ((i64.wrap (nP-lG))+1))],[some [.int .i64 bU],some [.int .i64 nP],some [.int .i64 lG]]))) (some (.agg [.int .i64 a0,.str Gu,.int .i64 Gv,.int .i64 bU,.int .i64 (i64.wrap ((i64.wrap (nP-lG))+1))],[some [.int .i64 bU],some [.int .i64 nP],some [.int .i64 lG]]))) from (sZ dO rfl).trans (by kernel_rfl)).trans (by simp only[Cf])
abbrev lS (p:PV):R:=some (p,[])
theorem aO {p:Prop} [Decidable p] (h:p):decide p=true:=by simp[h]
theorem aV {p:Prop} [Decidable p] (h:¬ p):decide p=false:=by simp[h]
def bs (l:bTB):ByteArray:=⟨l.toArray⟩
@[simp] theorem jy (l : bTB) : (bs l).size = l.length := by rfl
theorem H5 (l:bTB) (i:Nat):(bs l)[i]? = l[i]? := by
 by_cases h:i<l.length
 .rw[jF h];have:i<(bs l).size:=by simpa using h
  rw[getElem?_pos (bs l) i this];rfl
 simp_all
theorem H6 (l:bTB):(bs l).toList=l:=by rw[QL];rfl
theorem RN (l:bTB) (a b:Nat):(bs l).extract a b=bs ((l.drop a).take (b-a)):=by apply ByteArray.ext;rw[ByteArray.data_extract];grind [bs]
theorem XL (s:ByteArray):bs s.data.toList=s:=by rfl
def isLet (n:Nat):Bool:=(decide (97<=n)&&decide (n<=122))||((decide (65<=n)&&decide (n<=90))||n==95)
def gy (n:Nat):Bool:=decide (48<=n)&&decide (n<=57)
def nR (n:Nat):Bool:=isLet n||gy n
def y7 (n:Nat):Bool:=n==32||(n==9||(n==13||n==10))
theorem JQ (n k:Nat):((n:Int)==(k:Int))=(n==k):=by rw[WE,rM,rM]; omega
theorem KH (k n:Nat):decide ((k:Int)<=(n:Int))=decide (k<=n):=by simp
theorem c78 (n:Nat):SS.CC 303 [.int .u8 n] []=lS (.bool (isLet n)):=by
 rw[b71,show decide ((97:Int)<=n)=decide (97<=n) from KH 97 n,show decide ((n:Int)<=122)=decide (n<=122) from KH n 122,show decide ((65:Int)<=n)=decide (65<=n) from KH 65 n,show decide ((n:Int)<=90)=decide (n<=90) from KH n 90,
  show ((n:Int)==95)=(n==95) from JQ n 95]
 grind [RP,isLet]
theorem c80 (n:Nat):SS.CC 305 [.int .u8 n] []=lS (.bool (gy n)):=by rw[b73,show decide ((48:Int)<=n)=decide (48<=n) from KH 48 n,show decide ((n:Int)<=57)=decide (n<=57) from KH n 57];grind [RP,gy]
theorem c91 (n:Nat):SS.CC 334 [.int .u8 n] []=lS (.bool (nR n)):=by rw[b7',pq (c78 n),EK,pq (c80 n),EK,RP,nR];cases isLet n<;>rfl
theorem c75 (n:Nat):SS.CC 300 [.int .u8 n] []=lS (.bool (y7 n)):=by rw[b6Z,show ((n:Int)==32)=(n==32) from JQ n 32,show ((n:Int)==9)=(n==9) from JQ n 9,show ((n:Int)==13)=(n==13) from JQ n 13,show ((n:Int)==10)=(n==10) from JQ n 10];grind [RP,y7]
theorem bu {k:Nat} (h:k<1000000000000000):i64.wrap ((k:Int)+1)=((k+1:Nat):Int):=by rw[wrap64 (by omega) (by omega)]; omega
def gV (p:Nat->Bool) (l:bTB):bTB:=l.takeWhile fun b=>p b.toNat
theorem aQI (p:Nat->Bool) (l:bTB):(gV p l).length<=l.length:=(List.takeWhile_sublist _).length_le
theorem aQJ {p:Nat->Bool} {l:bTB}:∀ {k:Nat} {b:UInt8},l[k]? = some b->(∀ j c,j<k->l[j]? = some c->p c.toNat=true)->p b.toNat=false->gV p l=l.take k:=by
 induction l with
 | nil=>simp
 | cons a l ih =>
  intro k b h h1 h2;cases k with
  | zero=>grind [gV,List.takeWhile_cons]
  | succ k =>have ha:=h1 0 a (by omega) (by simp);have:=ih (k:=k) (b:=b) (by grind) (fun j c hj hc=>h1 (j+1) c (by omega) (by grind)) h2;grind [gV,List.takeWhile_cons]
theorem LK {p:Nat->Bool} {l:bTB} (h:∀ (j:Nat) c,l[j]? = some c->p c.toNat=true):gV p l=l:=by
 induction l with
 | nil=>rfl
 | cons a l ih =>
  have ha:=h 0 a (by simp);have:=ih fun j c hc=>h (j+1) c (by grind)
  grind [gV,List.takeWhile_cons]
theorem c90 (l:bTB) (hl:l.length<=1000000):SS.CC 333 [.str (bs l),.func (.func 334) [] []] []=lS (.str (bs (gV nR l))):=by
 rw[b7Z];have key:∀ (m k:Nat),k+m=l.length->(∀ j c,j<k->l[j]? = some c->nR c.toNat=true)->Yi (bs l) (k:Int)=lS (.str (bs (gV nR l))):=by
  intro m;induction m with
  | zero =>grind [aIT,jy,aC,LK]
  | succ m ih =>
   intro k hk h;obtain ⟨b,hb⟩:∃ b,l[k]? = some b:=⟨l[k],jF (by omega)⟩;rw[aIT,aO (by rw[jy]; omega),aH,Eh (b:=b) (by omega) (by rw[H5]; simpa using hb),pq (c91 b.toNat),EK,bu (by omega)];cases hw:nR b.toNat with
   | true =>exact ih (k+1) (by omega) fun j c hj hc=>by grind
   | false =>rw[aQJ hb h hw];simp only[uq,aH];rw[au (by simp; omega),RN];simp
 exact key l.length 0 (by omega) (by omega)
theorem aWB (l:bTB) (hl:l.length<=1000000):SS.CC 333 [.str (bs l),.func (.func 305) [] []] []=lS (.str (bs (gV gy l))):=by
 rw[b7U];have key:∀ (m k:Nat),k+m=l.length->(∀ j c,j<k->l[j]? = some c->gy c.toNat=true)->Yh (bs l) (k:Int)=lS (.str (bs (gV gy l))):=by
  intro m;induction m with
  | zero =>grind [aIP,jy,aC,LK]
  | succ m ih =>
   intro k hk h;obtain ⟨b,hb⟩:∃ b,l[k]? = some b:=⟨l[k],jF (by omega)⟩;rw[aIP,aO (by rw[jy]; omega),aH,Eh (b:=b) (by omega) (by rw[H5]; simpa using hb),pq (c80 b.toNat),EK,bu (by omega)];cases hw:gy b.toNat with
   | true =>exact ih (k+1) (by omega) fun j c hj hc=>by grind
   | false =>rw[aQJ hb h hw];simp only[uq,aH];rw[au (by simp; omega),RN];simp
 exact key l.length 0 (by omega) (by omega)
structure Tok where
 kind:Int
 text:bTB
 value:Int
 line:Int
 uM:Int
 deriving DecidableEq
def Tok.zero:Tok:=⟨0,[],0,0,0⟩
def bD (t:Tok):PV := .agg [.int .i64 t.kind,.str (bs t.text),.int .i64 t.value,.int .i64 t.line,.int .i64 t.uM]
def rd (r:Tok×Int):PV := .tuple [bD r.1,.int .i64 r.2]
def C9 (l:bTB):Tok×Int:=if 32<(gV nR l).length then (.zero,15) else (⟨1,gV nR l,0,0,0⟩,0)
theorem c79 (l:bTB) (hl:l.length<=1000000):SS.CC 304 [.str (bs l)] []=lS (rd (C9 l)):=by
 rw[b72,pq (c90 l hl),nY,jy,show decide ((32:Int)<((gV nR l).length:Int))=decide (32<(gV nR l).length) by grind];unfold C9;by_cases h:32<(gV nR l).length
 .rw[aO h,aS h]; rfl
 .rw[aV h,aQ h]; rfl
def tV:bTB->Nat->Option Nat
 | [],n=>some n
 | b::l,n=>if 65536<10*n+(b.toNat-48) then none else tV l (10*n+(b.toNat-48))
def BR (l:bTB):Tok×Int :=
 if (gV gy l).length<(gV nR l).length then (.zero,6)
 else if 1<(gV gy l).length/\(gV gy l)[0]? = some 48 then (.zero,6)
 else match tV (gV gy l) 0 with
  | none=>(.zero,2)
  | some n=>(⟨2,gV gy l,n,0,0⟩,0)
theorem aLC {n:Nat}:gy n=true↔48<=n/\n<=57:=by simp[gy]
theorem aY1 {b:UInt8} (h:gy b.toNat=true):i64.wrap (IntKind.u8.wrap ((b.toNat:Int)-48))=((b.toNat-48:Nat):Int):=by obtain ⟨h1,h2⟩:=aLC.1 h;rw[show IntKind.u8.wrap ((b.toNat:Int)-48)=(b.toNat:Int)-48 by grind [IntKind.wrap,IntKind.bits]];rw[wrap64 (by omega) (by omega)]; omega
theorem bLE {p:Nat->Bool} {l:bTB} {b:UInt8} (h:b∈gV p l):p b.toNat=true:=by
 induction l with
 | nil=>cases h
 | cons a l ih =>grind [gV,List.takeWhile_cons]
theorem aWA (l:bTB) (hd:∀ b,b∈l->gy b.toNat=true) (hl:l.length<=1000000):∀ (m k n:Nat),k+m=l.length->n<=65536 ->
 Ye (bs l) (n:Int) (k:Int)=(match tV (l.drop k) n with | none=>lS (rd (.zero,2)) | some v=>lS (rd (⟨2,l,v,0,0⟩,0))):=by
 intro m;induction m with
 | zero =>intro k n hk hn;rw[aII,aV (by rw[jy]; omega),aC,GN (by omega)];rfl
 | succ m ih =>
  intro k n hk hn;obtain ⟨b,hb⟩:∃ b,l[k]? = some b:=⟨l[k],jF (by omega)⟩;have hdb:=hd b (nK hb);obtain ⟨h1,h2⟩:=aLC.1 hdb;have hdrop:l.drop k=b::l.drop (k+1):=by grind [List.drop_eq_getElem_cons]
  rw[aII,aO (by rw[jy]; omega),aH,Eh (b:=b) (by omega) (by rw[H5]; simpa using hb),aY1 hdb,wrap64 (n:=10*(n:Int)) (by omega) (by omega),wrap64 (by omega) (by omega),bu (by omega),hdrop,tV];by_cases hv:65536<10*n+(b.toNat-48)
  .rw[aO (by omega),aH,aS hv]; rfl
  grind [aC]
theorem c81 (l:bTB) (hl:l.length<=1000000):SS.CC 306 [.str (bs l)] []=lS (rd (BR l)):=by
 have hr:=aQI gy l;have key:Yd (bs (gV gy l))=(match tV (gV gy l) 0 with | none=>lS (rd (.zero,2)) | some v=>lS (rd (⟨2,gV gy l,v,0,0⟩,0))):=by have:=aWA (gV gy l) (fun b hb=>bLE hb) (by omega) (gV gy l).length 0 0 (by omega) (by omega);rw[b74]; exact this
 have fin:(match tV (gV gy l) 0 with | none=>lS (rd (.zero,2)) | some v=>lS (rd (⟨2,gV gy l,v,0,0⟩,0)))=lS (rd (match tV (gV gy l) 0 with | none=>(.zero,2) | some n=>(⟨2,gV gy l,n,0,0⟩,0))):=by cases tV (gV gy l) 0<;>rfl
 rw[b79,pq (aWB l hl),nY,pq (c90 l hl),nY,jy,jy];unfold BR;by_cases h1:(gV gy l).length<(gV nR l).length
 .rw[aO (by omega),aH,aS h1]; rfl
 .rw[aV (by omega),aC,aQ h1];by_cases h2:1<(gV gy l).length
  .obtain ⟨b,hb⟩:∃ b,(gV gy l)[0]? = some b:=⟨(gV gy l)[0],jF (by omega)⟩;rw[aO (by omega),aH,Eh (b:=b) (by omega) (by rw[H5]; grind),hb];rw[show ((b.toNat:Int)==48)=(b.toNat==48) from JQ b.toNat 48];by_cases h3:b=48
   .subst h3;rw[aS ⟨h2,rfl⟩]; rfl
   .have:b.toNat≠48:=fun e=>h3 (UInt8.toNat_inj.1 (by rw[e]; rfl))
    rw[aQ (fun h=>h3 (by simp_all)),show (b.toNat==48)=false by simp_all,aC,key,fin]
  grind [aC]
def jO:List (bTB) := [[45,62],[58,61],[61,61],[33,61],[60,61],[62,61],[46,46],[38,38],[124,124],[123],[125],[40],[41],[91],[93],[44],[59],[58],[61],[60],[62],[43],[45],[42],[33],[63]]
def AU (l:bTB):Option (bTB):=jO.find? fun x=>x.isPrefixOf l
def EI (l:bTB):Tok×Int:=match AU l with
 | some x=>(⟨3,x,0,0,0⟩,0)
 | none=>(.zero,14)
theorem aPQ:∀ (x l:bTB),(decide (x.length<=l.length)&&(l.take x.length==x))=x.isPrefixOf l
 | [],l=>by simp
 | a::x,[]=>by simp
 | a::x,b::l=>by have:=aPQ x l;grind
theorem c87 (l x:bTB):SS.CC 213 [.str (bs l),.str (bs x)] []=lS (.bool (x.isPrefixOf l)):=by
 rw[b38,<- aPQ,jy,jy,show decide ((x.length:Int)<=(l.length:Int))=decide (x.length<=l.length) from KH _ _];by_cases h:x.length<=l.length;grind [aH,au,RN,H6]
 .rw[aV h]; rfl
theorem c69 (l x:bTB):SS.CC 120 [.str (bs l),.str (bs x)] []=lS (.bool (x.isPrefixOf l)):=by rw[a'Z,pq (c87 l x),EK]
theorem c77:SS.CC 302 [] []=lS (.sl false 1 (jO.map fun x => .str (bs x))):=b70
theorem aW9 (l:bTB) (xs:List (bTB)) (hx:xs.length<=1000):∀ (m k:Nat),k+m=xs.length ->
 YU (bs l) (xs.map fun x => .str (bs x)) (k:Int)=lS (rd (match (xs.drop k).find? (fun x=>x.isPrefixOf l) with | some x=>(⟨3,x,0,0,0⟩,0) | none=>(.zero,14))):=by
 intro m;induction m with
 | zero =>intro k hk;rw[aI3,aV (by rw[aX]; omega),aC,GN (by omega)];rfl
 | succ m ih =>
  intro k hk;have hk':k<xs.length:=by omega
  rw[aI3,aO (by rw[aX]; omega),aH,sD (e := .str (bs xs[k])) (by omega) (by simp[hk']),nY,pq (c69 l xs[k]),EK,bu (by omega),CG hk',List.find?_cons];cases xs[k].isPrefixOf l with
  | true=>rfl
  | false=>exact ih (k+1) (by omega)
theorem c61 (l:bTB):SS.CC 252 [.str (bs l)] []=lS (rd (EI l)):=by rw[b54,pq c77,aT2];exact aW9 l jO (by decide) jO.length 0 (by omega)
def iH:Bool->bTB->Nat
 | _,[]=>0
 | true,b::l=>if b=10 then 1+iH false l else 1+iH true l
 | false,b::l=>if y7 b.toNat then 1+iH false l else if [47,47].isPrefixOf (b::l) then 1+iH true l else 0
theorem bMI (l:bTB):if Lib.indexByte l 10<0 then iH true l=l.length else ∃ j:Nat,Lib.indexByte l 10=j/\j<l.length/\iH true l=j+iH false (l.drop j):=by
 induction l with
 | nil=>rfl
 | cons b l ih =>
  have hge:=Lib.indexByte_ge l 10;rw[Lib.indexByte];by_cases hb:b=10
  .subst hb;grind [iH,y7]
  .have hbb:(b==10)=false:=by grind
   simp only[hbb,GM,GY];by_cases h:Lib.indexByte l 10<0;grind [iH]
   .rw[aQ h] at ih;obtain ⟨j,h1,h2,h3⟩:=ih;have:(Lib.indexByte l 10 == -1)=false:=by simp; omega
    rw[this];simp only[GM,GY];rw[aQ (by omega)];exact ⟨j+1,by omega,by simp; omega,by grind [iH]⟩
theorem c76 (l:bTB):SS.CC 301 [.str (bs l),.int .u8 10] []=lS (.int .i64 (Lib.indexByte l 10)):=by
 have h89:SS.CC 293 [.str (bs l),.int .u8 10] []=lS (.int .i64 (Lib.indexByte l 10)):=by rw[MO dO]; rfl
 rw[b6',pq h89,wE]
theorem c59 (l:bTB) (hl:l.length<=1000000):SS.CC 250 [.str (bs l)] []=lS (.int .i64 ((iH false l:Nat):Int)):=by
 rw[b4Z];have key:∀ (m k:Nat),l.length<=k+m->k<=l.length->Sj (bs l) (k:Int)=lS (.int .i64 ((k+iH false (l.drop k):Nat):Int)):=by
  intro m;induction m with
  | zero =>intro k hk hk2;rw[aHZ,aV (by rw[jy]; omega),aC,GN (by omega)];rfl
  | succ m ih =>
   intro k hk hk2;by_cases hlt:k<l.length
   .have hdrop:l.drop k=l[k]::l.drop (k+1):=CG hlt;have he:(bs l).extract k l.length=bs (l.drop k):=by rw[RN,yU (by simp)]
    rw[aHZ,aO (by rw[jy]; omega),aH,Eh (b:=l[k]) (by omega) (by rw[H5]; simp[hlt]),pq (c75 _),EK,jy,oM,he,show (⟨#[47,47]⟩:ByteArray)=bs [47,47] from rfl,pq (c69 _ _),EK,pq (c76 _),wE,bu (by omega)];cases hb:y7 l[k].toNat with
    | true =>rw[aH,ih (k+1) (by omega) (by omega),hdrop,iH,aS hb];grind
    | false =>
     rw[aC,au (by simp; omega)];cases hp : [47,47].isPrefixOf (l.drop k) with
     | false =>rw[aC];grind [iH]
     | true =>
      rw[aH,au (by simp; omega)];have hs:iH false (l.drop k)=iH true (l.drop k):=by rw[hdrop] at hp ⊢;grind [iH]
      have hi:=bMI (l.drop k);rw[hs];by_cases h0:Lib.indexByte (l.drop k) 10<0;simp_all
      .rw[aQ h0] at hi;obtain ⟨j,h1,h2,h3⟩:=hi;have hj:0<j:=by grind [Lib.indexByte]
       simp at h2;rw[aV h0,aC,h1,wrap64 (by omega) (by omega),show ((k:Int)+(j:Int))=((k+j:Nat):Int) by omega,ih (k+j) (by omega) (by omega),h3,QO];grind
   grind
 have:=key l.length 0 (by omega) (by omega);simp_all
def opsOf:Code->Array Oper | .region _ ops _=>ops | _ => #[]
def iD:Code:=qI Tryz.f249
def Ko:AE:=SS.ae 249 86
def AL:XE:=SS.xe SS.CC SS.LL Ko 7
def bHZ:Code:=Code.sub [false,true,true,false,false,false,false] iD
theorem bH' (l:Nat) (K:AX->ASt->R) (s:ByteArray) (L:bTA) (c1:Int) (c2:Int) (c3:Int) (line:Int) (start:Int) (at_:Int):bG AL bHZ K ⟨[(0,.func (.yield l) [] []),(1,.cst (.str s)),(3,.ptr 4 0),(4,.ptr 5 0),(5,.ptr 6 0)],[some [.sl true 5 L],some [.int .i64 c1],some [.int .i64 c2],some [.int .i64 c3],some [.int .i64 line],some [.int .i64 start],some [.int .i64 at_]]⟩=chk (decide (0<=at_)&&decide (at_<=(s.size:Int))) (jJ SS.CC 250 [.str (s.extract at_.toNat s.size)] fun r2=>vI .i64 r2 fun n1=>K .normal ⟨[(0,.func (.yield l) [] []),(1,.cst (.str s)),(3,.ptr 4 0),(4,.ptr 5 0),(5,.ptr 6 0),(6,.int .i64 n1),(14,.str s),(15,.int .i64 at_),(16,.str (s.extract at_.toNat s.size)),(17,.int .i64 n1)],[some [.sl true 5 L],some [.int .i64 c1],some [.int .i64 c2],some [.int .i64 c3],some [.int .i64 line],some [.int .i64 start],some [.int .i64 at_]]⟩):=by kernel_rfl
def aPF:Code:=qI Tryz.f249
def aPD:AE:=SS.ae 249 86
def bI1:XE:=SS.xe SS.CC SS.LL aPD 7
def bI2:Code:=Code.sub [false,true,true,false,false,false,true,false] aPF
def bI0 (K:AX->ASt->R):AX->ASt->R:=bI 2 K
def bI3:Code:=Code.sub [false,true,true,false,false,false,true,false,true,false,false] aPF
def Ui (l:Nat) (K:AX->ASt->R) (x1:ByteArray) (x6:Int) (x7:Int) (aJ:bTA) (dh:Int) (eU:Int) (dH:Int) (AB:Int) (zO:Int) (FK:Int):R:=SS.LL aPD 7 [0,1,3,4,5,6,7] 7 bI3 (bI0 K) ⟨[(0,.func (.yield l) [] []),(1,.cst (.str x1)),(3,.ptr 4 0),(4,.ptr 5 0),(5,.ptr 6 0),(6,.int .i64 x6),(7,.int .i64 x7)],[some [.sl true 5 aJ],some [.int .i64 dh],some [.int .i64 eU],some [.int .i64 dH],some [.int .i64 AB],some [.int .i64 zO],some [.int .i64 FK]]⟩
theorem aPE (l:Nat) (K:AX->ASt->R) (x1:ByteArray) (x6:Int) (x7:Int) (aJ:bTA) (dh:Int) (eU:Int) (dH:Int) (AB:Int) (zO:Int) (FK:Int):Ui l K x1 x6 x7 aJ dh eU dH AB zO FK=aA (decide (x7<(i64.wrap (FK+x6)))) (vJ x1 x7 fun c1=>aA (c1==10) (Ui l K x1 x6 (i64.wrap (x7+1)) aJ dh eU dH (i64.wrap (AB+1)) (i64.wrap (x7+1)) FK) (Ui l K x1 x6 (i64.wrap (x7+1)) aJ dh eU dH AB zO FK)) (K .normal ⟨[(0,.func (.yield l) [] []),(1,.cst (.str x1)),(3,.ptr 4 0),(4,.ptr 5 0),(5,.ptr 6 0),(6,.int .i64 x6),(7,.int .i64 x7),(19,.int .i64 x7),(20,.int .i64 FK),(21,.int .i64 x6),(22,.int .i64 (i64.wrap (FK+x6))),(23,.bool false)],[some [.sl true 5 aJ],some [.int .i64 dh],some [.int .i64 eU],some [.int .i64 dH],some [.int .i64 AB],some [.int .i64 zO],some [.int .i64 FK]]⟩):=(CY dO (by decide) (by kernel_rfl) (by kernel_rfl)).trans (by kernel_rfl)
theorem bI4 (l:Nat) (K:AX->ASt->R) (s:ByteArray) (g:Int) (L:bTA) (c1:Int) (c2:Int) (c3:Int) (line:Int) (start:Int) (at_:Int):bG bI1 bI2 K ⟨[(0,.func (.yield l) [] []),(1,.cst (.str s)),(3,.ptr 4 0),(4,.ptr 5 0),(5,.ptr 6 0),(6,.int .i64 g)],[some [.sl true 5 L],some [.int .i64 c1],some [.int .i64 c2],some [.int .i64 c3],some [.int .i64 line],some [.int .i64 start],some [.int .i64 at_]]⟩=Ui l K s g at_ L c1 c2 c3 line start at_:=by kernel_rfl
def bI7:Code:=qI Tryz.f249
def bI5:AE:=SS.ae 249 86
def bI6:XE:=SS.xe SS.CC SS.LL bI5 7
def bI8:Code:=Code.sub [false,true,true,false,false,false,true,true,false] bI7
theorem bI9 (l:Nat) (K:AX->ASt->R) (s:ByteArray) (g:Int) (L:bTA) (c1:Int) (c2:Int) (c3:Int) (line:Int) (start:Int) (at_:Int):bG bI6 bI8 K ⟨[(0,.func (.yield l) [] []),(1,.cst (.str s)),(3,.ptr 4 0),(4,.ptr 5 0),(5,.ptr 6 0),(6,.int .i64 g)],[some [.sl true 5 L],some [.int .i64 c1],some [.int .i64 c2],some [.int .i64 c3],some [.int .i64 line],some [.int .i64 start],some [.int .i64 at_]]⟩=K .normal ⟨[(0,.func (.yield l) [] []),(1,.cst (.str s)),(3,.ptr 4 0),(4,.ptr 5 0),(5,.ptr 6 0),(6,.int .i64 g),(34,.int .i64 at_),(35,.int .i64 g),(36,.int .i64 (i64.wrap (at_+g)))],[some [.sl true 5 L],some [.int .i64 c1],some [.int .i64 c2],some [.int .i64 c3],some [.int .i64 line],some [.int .i64 start],some [.int .i64 (i64.wrap (at_+g))]]⟩:=by kernel_rfl
def bIC:Code:=qI Tryz.f249
def bIA:AE:=SS.ae 249 86
def bIB:XE:=SS.xe SS.CC SS.LL bIA 7
def bID:Code:=Code.sub [false,true,true,false,false,false,true,true,true,false] bIC
theorem bIE (l:Nat) (K:AX->ASt->R) (s:ByteArray) (L:bTA) (c1:Int) (c2:Int) (c3:Int) (line:Int) (start:Int) (at_:Int):bG bIB bID K ⟨[(0,.func (.yield l) [] []),(1,.cst (.str s)),(3,.ptr 4 0),(4,.ptr 5 0),(5,.ptr 6 0)],[some [.sl true 5 L],some [.int .i64 c1],some [.int .i64 c2],some [.int .i64 c3],some [.int .i64 line],some [.int .i64 start],some [.int .i64 at_]]⟩=K .normal ⟨[(0,.func (.yield l) [] []),(1,.cst (.str s)),(3,.ptr 4 0),(4,.ptr 5 0),(5,.ptr 6 0),(8,.func (.func 251) [] [.ptr 4 0,.ptr 6 0,.ptr 5 0]),(37,.func (.func 251) [] [.ptr 4 0,.ptr 6 0,.ptr 5 0])],[some [.sl true 5 L],some [.int .i64 c1],some [.int .i64 c2],some [.int .i64 c3],some [.int .i64 line],some [.int .i64 start],some [.int .i64 at_]]⟩:=by kernel_rfl
def bIH:Code:=qI Tryz.f249
def bIF:AE:=SS.ae 249 86
def bIG:XE:=SS.xe SS.CC SS.LL bIF 7
def bII:Code:=Code.sub [false,true,true,false,false,false,true,true,true,true,false,false] bIH
theorem aPG (l:Nat) (K:AX->ASt->R) (s:ByteArray) (L:bTA) (c1:Int) (c2:Int) (c3:Int) (line:Int) (start:Int) (at_:Int):bG bIG bII K ⟨[(0,.func (.yield l) [] []),(1,.cst (.str s)),(3,.ptr 4 0),(4,.ptr 5 0),(5,.ptr 6 0),(8,.func (.func 251) [] [.ptr 4 0,.ptr 6 0,.ptr 5 0])],[some [.sl true 5 L],some [.int .i64 c1],some [.int .i64 c2],some [.int .i64 c3],some [.int .i64 line],some [.int .i64 start],some [.int .i64 at_]]⟩=K .normal ⟨[(0,.func (.yield l) [] []),(1,.cst (.str s)),(3,.ptr 4 0),(4,.ptr 5 0),(5,.ptr 6 0),(8,.func (.func 251) [] [.ptr 4 0,.ptr 6 0,.ptr 5 0]),(38,.int .i64 at_),(39,.str s),(40,.int .i64 (s.size:Int)),(41,.bool (at_==(s.size:Int)))],[some [.sl true 5 L],some [.int .i64 c1],some [.int .i64 c2],some [.int .i64 c3],some [.int .i64 line],some [.int .i64 start],some [.int .i64 at_]]⟩:=by kernel_rfl
def bIK:Code:=qI Tryz.f249
def bIJ:AE:=SS.ae 249 86
def aPH:XE:=SS.xe SS.CC SS.LL bIJ 7
def a07:Code:=Code.sub [false,true,true,false,false,false,true,true,true,true,false,true,false,false] bIK
theorem bIL (l:Nat) (K:AX->ASt->R) (s:ByteArray) (L:bTA) (c1:Int) (c2:Int) (c3:Int) (line:Int) (start:Int) (at_:Int):jf aPH false (opsOf a07) (((opsOf a07).toList.drop 0).take 4) (K .normal) ⟨[(0,.func (.yield l) [] []),(1,.cst (.str s)),(3,.ptr 4 0),(4,.ptr 5 0),(5,.ptr 6 0),(8,.func (.func 251) [] [.ptr 4 0,.ptr 6 0,.ptr 5 0])],[some [.sl true 5 L],some [.int .i64 c1],some [.int .i64 c2],some [.int .i64 c3],some [.int .i64 line],some [.int .i64 start],some [.int .i64 at_]]⟩=zq SS.CC 251 [.agg [.int .i64 4,.str ⟨#[]⟩,.int .i64 0,.int .i64 0,.int .i64 0],.ptr 0 0,.ptr 1 0,.ptr 2 0] [some [.int .i64 line],some [.int .i64 at_],some [.int .i64 start]] fun r9 h10=>Jt r9 h10 fun n1 s2 n3 n4 n5 n6 n7 n8=>K .normal ⟨[(0,.func (.yield l) [] []),(1,.cst (.str s)),(3,.ptr 4 0),(4,.ptr 5 0),(5,.ptr 6 0),(8,.func (.func 251) [] [.ptr 4 0,.ptr 6 0,.ptr 5 0]),(42,.func (.yield l) [] []),(43,.func (.func 251) [] [.ptr 4 0,.ptr 6 0,.ptr 5 0]),(44,.agg [.int .i64 4,.str ⟨#[]⟩,.int .i64 0,.int .i64 0,.int .i64 0]),(45,.agg [.int .i64 n1,.str s2,.int .i64 n3,.int .i64 n4,.int .i64 n5])],[some [.sl true 5 L],some [.int .i64 c1],some [.int .i64 c2],some [.int .i64 c3],some [.int .i64 n6],some [.int .i64 n8],some [.int .i64 n7]]⟩:=by kernel_rfl
def bIO:Code:=qI Tryz.f249
def bIM:AE:=SS.ae 249 86
def bIN:XE:=SS.xe SS.CC SS.LL bIM 7
def bIP:Code:=Code.sub [false,true,true,false,false,false,true,true,true,true,true,false] bIO
theorem bIQ (l:Nat) (K:AX->ASt->R) (s:ByteArray) (L:bTA) (c1:Int) (c2:Int) (c3:Int) (line:Int) (start:Int) (at_:Int):bG bIN bIP K ⟨[(0,.func (.yield l) [] []),(1,.cst (.str s)),(3,.ptr 4 0),(4,.ptr 5 0),(5,.ptr 6 0),(8,.func (.func 251) [] [.ptr 4 0,.ptr 6 0,.ptr 5 0])],[some [.sl true 5 L],some [.int .i64 c1],some [.int .i64 c2],some [.int .i64 c3],some [.int .i64 line],some [.int .i64 start],some [.int .i64 at_]]⟩=K .normal ⟨[(0,.func (.yield l) [] []),(1,.cst (.str s)),(3,.ptr 4 0),(4,.ptr 5 0),(5,.ptr 6 0),(8,.func (.func 251) [] [.ptr 4 0,.ptr 6 0,.ptr 5 0]),(9,.func (.func 252) [] [])],[some [.sl true 5 L],some [.int .i64 c1],some [.int .i64 c2],some [.int .i64 c3],some [.int .i64 line],some [.int .i64 start],some [.int .i64 at_]]⟩:=by kernel_rfl
def bIT:Code:=qI Tryz.f249
def bIR:AE:=SS.ae 249 86
def bIS:XE:=SS.xe SS.CC SS.LL bIR 7
def bIU:Code:=Code.sub [false,true,true,false,false,false,true,true,true,true,true,true,true,false] bIT
theorem bIV (l:Nat) (K:AX->ASt->R) (s:ByteArray) (L:bTA) (c1:Int) (c2:Int) (c3:Int) (line:Int) (start:Int) (at_:Int):bG bIS bIU K ⟨[(0,.func (.yield l) [] []),(1,.cst (.str s)),(3,.ptr 4 0),(4,.ptr 5 0),(5,.ptr 6 0),(8,.func (.func 251) [] [.ptr 4 0,.ptr 6 0,.ptr 5 0]),(9,.func (.func 252) [] [])],[some [.sl true 5 L],some [.int .i64 c1],some [.int .i64 c2],some [.int .i64 c3],some [.int .i64 line],some [.int .i64 start],some [.int .i64 at_]]⟩=chk (decide (0<=at_)&&decide (at_<=(s.size:Int))) (jJ SS.CC 252 [.str (s.extract at_.toNat s.size)] fun r7=>EN r7 fun n1 s2 n3 n4 n5 n6=>K .normal ⟨[(0,.func (.yield l) [] []),(1,.cst (.str s)),(3,.ptr 4 0),(4,.ptr 5 0),(5,.ptr 6 0),(8,.func (.func 251) [] [.ptr 4 0,.ptr 6 0,.ptr 5 0]),(9,.func (.func 252) [] []),(12,.ptr 7 0),(13,.int .i64 n6),(62,.tuple [.agg [.int .i64 n1,.str s2,.int .i64 n3,.int .i64 n4,.int .i64 n5],.int .i64 n6]),(63,.func (.func 252) [] []),(64,.str s),(65,.int .i64 at_),(66,.str (s.extract at_.toNat s.size)),(67,.tuple [.agg [.int .i64 n1,.str s2,.int .i64 n3,.int .i64 n4,.int .i64 n5],.int .i64 n6]),(68,.agg [.int .i64 n1,.str s2,.int .i64 n3,.int .i64 n4,.int .i64 n5]),(69,.int .i64 n6)],[some [.sl true 5 L],some [.int .i64 c1],some [.int .i64 c2],some [.int .i64 c3],some [.int .i64 line],some [.int .i64 start],some [.int .i64 at_],some [.int .i64 n1,.str s2,.int .i64 n3,.int .i64 n4,.int .i64 n5]]⟩):=by kernel_rfl
def bIY:Code:=qI Tryz.f249
def bIW:AE:=SS.ae 249 86
def bIX:XE:=SS.xe SS.CC SS.LL bIW 7
def bIZ:Code:=Code.sub [false,true,true,false,false,false,true,true,true,true,true,true,true,false] bIY
theorem bI' (l:Nat) (K:AX->ASt->R) (s:ByteArray) (L:bTA) (c1:Int) (c2:Int) (c3:Int) (line:Int) (start:Int) (at_:Int):bG bIX bIZ K ⟨[(0,.func (.yield l) [] []),(1,.cst (.str s)),(3,.ptr 4 0),(4,.ptr 5 0),(5,.ptr 6 0),(8,.func (.func 251) [] [.ptr 4 0,.ptr 6 0,.ptr 5 0]),(9,.func (.func 304) [] [])],[some [.sl true 5 L],some [.int .i64 c1],some [.int .i64 c2],some [.int .i64 c3],some [.int .i64 line],some [.int .i64 start],some [.int .i64 at_]]⟩=chk (decide (0<=at_)&&decide (at_<=(s.size:Int))) (jJ SS.CC 304 [.str (s.extract at_.toNat s.size)] fun r7=>EN r7 fun n1 s2 n3 n4 n5 n6=>K .normal ⟨[(0,.func (.yield l) [] []),(1,.cst (.str s)),(3,.ptr 4 0),(4,.ptr 5 0),(5,.ptr 6 0),(8,.func (.func 251) [] [.ptr 4 0,.ptr 6 0,.ptr 5 0]),(9,.func (.func 304) [] []),(12,.ptr 7 0),(13,.int .i64 n6),(62,.tuple [.agg [.int .i64 n1,.str s2,.int .i64 n3,.int .i64 n4,.int .i64 n5],.int .i64 n6]),(63,.func (.func 304) [] []),(64,.str s),(65,.int .i64 at_),(66,.str (s.extract at_.toNat s.size)),(67,.tuple [.agg [.int .i64 n1,.str s2,.int .i64 n3,.int .i64 n4,.int .i64 n5],.int .i64 n6]),(68,.agg [.int .i64 n1,.str s2,.int .i64 n3,.int .i64 n4,.int .i64 n5]),(69,.int .i64 n6)],[some [.sl true 5 L],some [.int .i64 c1],some [.int .i64 c2],some [.int .i64 c3],some [.int .i64 line],some [.int .i64 start],some [.int .i64 at_],some [.int .i64 n1,.str s2,.int .i64 n3,.int .i64 n4,.int .i64 n5]]⟩):=by kernel_rfl
def bJ2:Code:=qI Tryz.f249
def bJ0:AE:=SS.ae 249 86
def bJ1:XE:=SS.xe SS.CC SS.LL bJ0 7
def bJ3:Code:=Code.sub [false,true,true,false,false,false,true,true,true,true,true,true,true,false] bJ2
theorem bJ4 (l:Nat) (K:AX->ASt->R) (s:ByteArray) (L:bTA) (c1:Int) (c2:Int) (c3:Int) (line:Int) (start:Int) (at_:Int):bG bJ1 bJ3 K ⟨[(0,.func (.yield l) [] []),(1,.cst (.str s)),(3,.ptr 4 0),(4,.ptr 5 0),(5,.ptr 6 0),(8,.func (.func 251) [] [.ptr 4 0,.ptr 6 0,.ptr 5 0]),(9,.func (.func 306) [] [])],[some [.sl true 5 L],some [.int .i64 c1],some [.int .i64 c2],some [.int .i64 c3],some [.int .i64 line],some [.int .i64 start],some [.int .i64 at_]]⟩=chk (decide (0<=at_)&&decide (at_<=(s.size:Int))) (jJ SS.CC 306 [.str (s.extract at_.toNat s.size)] fun r7=>EN r7 fun n1 s2 n3 n4 n5 n6=>K .normal ⟨[(0,.func (.yield l) [] []),(1,.cst (.str s)),(3,.ptr 4 0),(4,.ptr 5 0),(5,.ptr 6 0),(8,.func (.func 251) [] [.ptr 4 0,.ptr 6 0,.ptr 5 0]),(9,.func (.func 306) [] []),(12,.ptr 7 0),(13,.int .i64 n6),(62,.tuple [.agg [.int .i64 n1,.str s2,.int .i64 n3,.int .i64 n4,.int .i64 n5],.int .i64 n6]),(63,.func (.func 306) [] []),(64,.str s),(65,.int .i64 at_),(66,.str (s.extract at_.toNat s.size)),(67,.tuple [.agg [.int .i64 n1,.str s2,.int .i64 n3,.int .i64 n4,.int .i64 n5],.int .i64 n6]),(68,.agg [.int .i64 n1,.str s2,.int .i64 n3,.int .i64 n4,.int .i64 n5]),(69,.int .i64 n6)],[some [.sl true 5 L],some [.int .i64 c1],some [.int .i64 c2],some [.int .i64 c3],some [.int .i64 line],some [.int .i64 start],some [.int .i64 at_],some [.int .i64 n1,.str s2,.int .i64 n3,.int .i64 n4,.int .i64 n5]]⟩):=by kernel_rfl
def RL:bTA := [.agg [.func (.func 303) [] [],.func (.func 304) [] []],.agg [.func (.func 305) [] [],.func (.func 306) [] []]]
theorem c62:SS.CC 253 [] []=lS (.sl false 2 RL):=b55
def a90:Code:=Code.sub [false,true,true,false,false,false,true,true,true,true,true,true,false] iD
def aPJ:Code:=Code.sub [false,true,true,false,false,false,true,true,true,true,true,true,false,true,false,false] iD
abbrev mG:PV := .func (.func 251) [] [.ptr 4 0,.ptr 6 0,.ptr 5 0]
abbrev lQ (L:bTA) (c1 c2 c3 line start at_:Int):aG := [some [.sl true 5 L],some [.int .i64 c1],some [.int .i64 c2],some [.int .i64 c3],some [.int .i64 line],some [.int .i64 start],some [.int .i64 at_]]
def L8 (l:Nat) (K:AX->ASt->R) (L:bTA) (c1 c2 c3:Int) (s:ByteArray) (line start at_:Int) (f9:Nat) (i:Int):R :=SS.LL Ko 7 [0,1,3,4,5,8,9,47,48,49] 7 aPJ (bI 4 K) ⟨[(0,.func (.yield l) [] []),(1,.cst (.str s)),(3,.ptr 4 0),(4,.ptr 5 0),(5,.ptr 6 0),(8,mG),(9,.func (.func f9) [] []),(47,.sl false 2 RL),(48,.int .i64 (RL.length:Int)),(49,.int .i64 i)],lQ L c1 c2 c3 line start at_⟩
theorem aUC (l:Nat) (K:AX->ASt->R) (L:bTA) (c1 c2 c3:Int) (s:ByteArray) (line start at_:Int) :
 bG AL a90 K ⟨[(0,.func (.yield l) [] []),(1,.cst (.str s)),(3,.ptr 4 0),(4,.ptr 5 0),(5,.ptr 6 0),(8,mG),(9,.func (.func 252) [] [])],lQ L c1 c2 c3 line start at_⟩=L8 l K L c1 c2 c3 s line start at_ 252 0:=by
 have:bG AL a90 K ⟨[(0,.func (.yield l) [] []),(1,.cst (.str s)),(3,.ptr 4 0),(4,.ptr 5 0),(5,.ptr 6 0),(8,mG),(9,.func (.func 252) [] [])],lQ L c1 c2 c3 line start at_⟩=jJ SS.CC 253 [] fun r2=>vL false 2 r2 fun l1=>SS.LL Ko 7 [0,1,3,4,5,8,9,47,48,49] 7 aPJ (bI 4 K) ⟨[(0,.func (.yield l) [] []),(1,.cst (.str s)),(3,.ptr 4 0),(4,.ptr 5 0),(5,.ptr 6 0),(8,mG),(9,.func (.func 252) [] []),(47,.sl false 2 l1),(48,.int .i64 (l1.length:Int)),(49,.int .i64 0)],lQ L c1 c2 c3 line start at_⟩:=by kernel_rfl
 rw[this,pq c62,aT2]; rfl
theorem aU9 (l:Nat) (K:AX->ASt->R) (L:bTA) (c1 c2 c3:Int) (s:ByteArray) (line start at_:Int) (f9:Nat):L8 l K L c1 c2 c3 s line start at_ f9 0=vJ s at_ fun c=>jJ SS.CC 303 [.int .u8 c] fun r=>vB r fun b=>aA b (L8 l K L c1 c2 c3 s line start at_ 304 1) (L8 l K L c1 c2 c3 s line start at_ f9 1):=(CY dO (by decide) (by kernel_rfl) (by kernel_rfl)).trans (by kernel_rfl)
theorem aUA (l:Nat) (K:AX->ASt->R) (L:bTA) (c1 c2 c3:Int) (s:ByteArray) (line start at_:Int) (f9:Nat):L8 l K L c1 c2 c3 s line start at_ f9 1=vJ s at_ fun c=>jJ SS.CC 305 [.int .u8 c] fun r=>vB r fun b=>aA b (L8 l K L c1 c2 c3 s line start at_ 306 2) (L8 l K L c1 c2 c3 s line start at_ f9 2):=(CY dO (by decide) (by kernel_rfl) (by kernel_rfl)).trans (by kernel_rfl)
theorem aUB (l:Nat) (K:AX->ASt->R) (L:bTA) (c1 c2 c3:Int) (s:ByteArray) (line start at_:Int) (f9:Nat):L8 l K L c1 c2 c3 s line start at_ f9 2=K .normal ⟨[(0,.func (.yield l) [] []),(1,.cst (.str s)),(3,.ptr 4 0),(4,.ptr 5 0),(5,.ptr 6 0),(8,mG),(9,.func (.func f9) [] []),(47,.sl false 2 RL),(48,.int .i64 (RL.length:Int)),(49,.int .i64 2),(50,.bool false)],lQ L c1 c2 c3 line start at_⟩:=(CY dO (by decide) (by kernel_rfl) (by kernel_rfl)).trans (by kernel_rfl)
end Go.Proofs.YtcdceiloganlnaaGreatDoor
namespace Go.Proofs.YtcdceiloganlnaaGreatDoor
open Go.RowKit
set_option maxRecDepth 1000000
def vY:Code:=qI Tryz.f99
def lH:AE := { SS.ae 99 27 with vars := [2,3,4,5,6,7,13,14] }
def bHU:Code:=qI Tryz.f99
def bHT:AE := { SS.ae 99 27 with vars := [2,3,4,5,6,7,13,14] }
def a8W:XE:=SS.xe SS.CC SS.LL bHT 7
def a8X:Code:=Code.sub [true,true,false,true,false,true] bHU
theorem bHV (l:Nat) (K:AX->ASt->R) (e:Int) (k:Int) (t:ByteArray) (v:Int) (ln:Int) (cl:Int) (L:bTA) (c1:Int) (c2:Int) (c3:Int) (line:Int) (start:Int) (at_:Int):bG a8W a8X K ⟨[(2,.ptr 0 0),(3,.ptr 1 0),(4,.ptr 2 0),(5,.ptr 3 0),(6,.ptr 7 0),(7,.int .i64 e),(13,.agg [.int .i64 k,.str t,.int .i64 v,.int .i64 ln,.int .i64 cl]),(14,.int .i64 e)],[some [.sl true 5 L],some [.int .i64 c1],some [.int .i64 c2],some [.int .i64 c3],some [.int .i64 line],some [.int .i64 start],some [.int .i64 at_],some [.int .i64 k,.str t,.int .i64 v,.int .i64 ln,.int .i64 cl]]⟩=aA (e != 0) (K .ret ⟨[(2,.ptr 0 0),(3,.ptr 1 0),(4,.ptr 2 0),(5,.ptr 3 0),(6,.ptr 7 0),(7,.int .i64 e),(13,.agg [.int .i64 k,.str t,.int .i64 v,.int .i64 ln,.int .i64 cl]),(14,.int .i64 e),(17,.ptr 7 3),(18,.int .i64 ln),(19,.ptr 7 4),(20,.int .i64 cl),(21,.int .i64 e)],[some [.sl true 0 []],some [.int .i64 ln],some [.int .i64 cl],some [.int .i64 e],some [.int .i64 line],some [.int .i64 start],some [.int .i64 at_],some [.int .i64 k,.str t,.int .i64 v,.int .i64 ln,.int .i64 cl]]⟩) (chk (decide (L.length+1<=bC)) (K .normal ⟨[(2,.ptr 0 0),(3,.ptr 1 0),(4,.ptr 2 0),(5,.ptr 3 0),(6,.ptr 7 0),(7,.int .i64 e),(13,.agg [.int .i64 k,.str t,.int .i64 v,.int .i64 ln,.int .i64 cl]),(14,.int .i64 e),(22,.sl false 5 L),(23,.agg [.int .i64 k,.str t,.int .i64 v,.int .i64 ln,.int .i64 cl]),(24,.sl true 5 [.agg [.int .i64 k,.str t,.int .i64 v,.int .i64 ln,.int .i64 cl]]),(25,.sl false 5 (L ++ [.agg [.int .i64 k,.str t,.int .i64 v,.int .i64 ln,.int .i64 cl]]))],[some [.sl true 5 (L ++ [.agg [.int .i64 k,.str t,.int .i64 v,.int .i64 ln,.int .i64 cl]])],some [.int .i64 c1],some [.int .i64 c2],some [.int .i64 c3],some [.int .i64 line],some [.int .i64 start],some [.int .i64 at_],some [.int .i64 k,.str t,.int .i64 v,.int .i64 ln,.int .i64 cl]]⟩)):=(show bG a8W a8X K ⟨[(2,.ptr 0 0),(3,.ptr 1 0),(4,.ptr 2 0),(5,.ptr 3 0),(6,.ptr 7 0),(7,.int .i64 e),(13,.agg [.int .i64 k,.str t,.int .i64 v,.int .i64 ln,.int .i64 cl]),(14,.int .i64 e)],[some [.sl true 5 L],some [.int .i64 c1],some [.int .i64 c2],some [.int .i64 c3],some [.int .i64 line],some [.int .i64 start],some [.int .i64 at_],some [.int .i64 k,.str t,.int .i64 v,.int .i64 ln,.int .i64 cl]]⟩=aA (e != 0) (dA (dA (K .ret ⟨[(2,.ptr 0 0),(3,.ptr 1 0),(4,.ptr 2 0),(5,.ptr 3 0),(6,.ptr 7 0),(7,.int .i64 e),(13,.agg [.int .i64 k,.str t,.int .i64 v,.int .i64 ln,.int .i64 cl]),(14,.int .i64 e),(17,.ptr 7 3),(18,.int .i64 ln),(19,.ptr 7 4),(20,.int .i64 cl),(21,.int .i64 e)],[some [.sl true 0 []],some [.int .i64 ln],some [.int .i64 cl],some [.int .i64 e],some [.int .i64 line],some [.int .i64 start],some [.int .i64 at_],some [.int .i64 k,.str t,.int .i64 v,.int .i64 ln,.int .i64 cl]]⟩) (dA (K .ret ⟨[(2,.ptr 0 0),(3,.ptr 1 0),(4,.ptr 2 0),(5,.ptr 3 0),(6,.ptr 7 0),(7,.int .i64 e),(13,.agg [.int .i64 k,.str t,.int .i64 v,.int .i64 ln,.int .i64 cl]),(14,.int .i64 e),(17,.ptr 7 3),(18,.int .i64 ln),(19,.ptr 7 4),(20,.int .i64 cl),(21,.int .i64 e)],[some [.sl true 0 []],some [.int .i64 ln],some [.int .i64 cl],some [.int .i64 e],some [.int .i64 line],some [.int .i64 start],some [.int .i64 at_],some [.int .i64 k,.str t,.int .i64 v,.int .i64 ln,.int .i64 cl]]⟩) (K .ret ⟨[(2,.ptr 0 0),(3,.ptr 1 0),(4,.ptr 2 0),(5,.ptr 3 0),(6,.ptr 7 0),(7,.int .i64 e),(13,.agg [.int .i64 k,.str t,.int .i64 v,.int .i64 ln,.int .i64 cl]),(14,.int .i64 e),(17,.ptr 7 3),(18,.int .i64 ln),(19,.ptr 7 4),(20,.int .i64 cl),(21,.int .i64 e)],[some [.sl true 0 []],some [.int .i64 ln],some [.int .i64 cl],some [.int .i64 e],some [.int .i64 line],some [.int .i64 start],some [.int .i64 at_],some [.int .i64 k,.str t,.int .i64 v,.int .i64 ln,.int .i64 cl]]⟩))) (dA (dA (K .ret ⟨[(2,.ptr 0 0),(3,.ptr 1 0),(4,.ptr 2 0),(5,.ptr 3 0),(6,.ptr 7 0),(7,.int .i64 e),(13,.agg [.int .i64 k,.str t,.int .i64 v,.int .i64 ln,.int .i64 cl]),(14,.int .i64 e),(17,.ptr 7 3),(18,.int .i64 ln),(19,.ptr 7 4),(20,.int .i64 cl),(21,.int .i64 e)],[some [.sl true 0 []],some [.int .i64 ln],some [.int .i64 cl],some [.int .i64 e],some [.int .i64 line],some [.int .i64 start],some [.int .i64 at_],some [.int .i64 k,.str t,.int .i64 v,.int .i64 ln,.int .i64 cl]]⟩) (K .ret ⟨[(2,.ptr 0 0),(3,.ptr 1 0),(4,.ptr 2 0),(5,.ptr 3 0),(6,.ptr 7 0),(7,.int .i64 e),(13,.agg [.int .i64 k,.str t,.int .i64 v,.int .i64 ln,.int .i64 cl]),(14,.int .i64 e),(17,.ptr 7 3),(18,.int .i64 ln),(19,.ptr 7 4),(20,.int .i64 cl),(21,.int .i64 e)],[some [.sl true 0 []],some [.int .i64 ln],some [.int .i64 cl],some [.int .i64 e],some [.int .i64 line],some [.int .i64 start],some [.int .i64 at_],some [.int .i64 k,.str t,.int .i64 v,.int .i64 ln,.int .i64 cl]]⟩)) (dA (K .ret ⟨[(2,.ptr 0 0),(3,.ptr 1 0),(4,.ptr 2 0),(5,.ptr 3 0),(6,.ptr 7 0),(7,.int .i64 e),(13,.agg [.int .i64 k,.str t,.int .i64 v,.int .i64 ln,.int .i64 cl]),(14,.int .i64 e),(17,.ptr 7 3),(18,.int .i64 ln),(19,.ptr 7 4),(20,.int .i64 cl),(21,.int .i64 e)],[some [.sl true 0 []],some [.int .i64 ln],some [.int .i64 cl],some [.int .i64 e],some [.int .i64 line],some [.int .i64 start],some [.int .i64 at_],some [.int .i64 k,.str t,.int .i64 v,.int .i64 ln,.int .i64 cl]]⟩) (K .ret ⟨[(2,.ptr 0 0),(3,.ptr 1 0),(4,.ptr 2 0),(5,.ptr 3 0),(6,.ptr 7 0),(7,.int .i64 e),(13,.agg [.int .i64 k,.str t,.int .i64 v,.int .i64 ln,.int .i64 cl]),(14,.int .i64 e),(17,.ptr 7 3),(18,.int .i64 ln),(19,.ptr 7 4),(20,.int .i64 cl),(21,.int .i64 e)],[some [.sl true 0 []],some [.int .i64 ln],some [.int .i64 cl],some [.int .i64 e],some [.int .i64 line],some [.int .i64 start],some [.int .i64 at_],some [.int .i64 k,.str t,.int .i64 v,.int .i64 ln,.int .i64 cl]]⟩)))) (chk (decide (L.length+1<=bC)) (K .normal ⟨[(2,.ptr 0 0),(3,.ptr 1 0),(4,.ptr 2 0),(5,.ptr 3 0),(6,.ptr 7 0),(7,.int .i64 e),(13,.agg [.int .i64 k,.str t,.int .i64 v,.int .i64 ln,.int .i64 cl]),(14,.int .i64 e),(22,.sl false 5 L),(23,.agg [.int .i64 k,.str t,.int .i64 v,.int .i64 ln,.int .i64 cl]),(24,.sl true 5 [.agg [.int .i64 k,.str t,.int .i64 v,.int .i64 ln,.int .i64 cl]]),(25,.sl false 5 (L ++ [.agg [.int .i64 k,.str t,.int .i64 v,.int .i64 ln,.int .i64 cl]]))],[some [.sl true 5 (L ++ [.agg [.int .i64 k,.str t,.int .i64 v,.int .i64 ln,.int .i64 cl]])],some [.int .i64 c1],some [.int .i64 c2],some [.int .i64 c3],some [.int .i64 line],some [.int .i64 start],some [.int .i64 at_],some [.int .i64 k,.str t,.int .i64 v,.int .i64 ln,.int .i64 cl]]⟩)) from by kernel_rfl).trans (by simp only[Cf])
def bHX:Code:=qI Tryz.f99
def bHW:AE := { SS.ae 99 27 with vars := [2,3,4,5,6,7,13,14] }
def a8Y:XE:=SS.xe SS.CC SS.LL bHW 8
def a8Z:Code:=Code.sub [true,true,false,true,false,true] bHX
theorem bHY (l:Nat) (K:AX->ASt->R) (e:Int) (k:Int) (t:ByteArray) (v:Int) (ln:Int) (cl:Int) (L:bTA) (c1:Int) (c2:Int) (c3:Int) (line:Int) (start:Int) (at_:Int) (x1:Int) (x2:ByteArray) (x3:Int) (x4:Int) (x5:Int):bG a8Y a8Z K ⟨[(2,.ptr 0 0),(3,.ptr 1 0),(4,.ptr 2 0),(5,.ptr 3 0),(6,.ptr 8 0),(7,.int .i64 e),(13,.agg [.int .i64 k,.str t,.int .i64 v,.int .i64 ln,.int .i64 cl]),(14,.int .i64 e)],[some [.sl true 5 L],some [.int .i64 c1],some [.int .i64 c2],some [.int .i64 c3],some [.int .i64 line],some [.int .i64 start],some [.int .i64 at_],some [.int .i64 x1,.str x2,.int .i64 x3,.int .i64 x4,.int .i64 x5],some [.int .i64 k,.str t,.int .i64 v,.int .i64 ln,.int .i64 cl]]⟩=aA (e != 0) (K .ret ⟨[(2,.ptr 0 0),(3,.ptr 1 0),(4,.ptr 2 0),(5,.ptr 3 0),(6,.ptr 8 0),(7,.int .i64 e),(13,.agg [.int .i64 k,.str t,.int .i64 v,.int .i64 ln,.int .i64 cl]),(14,.int .i64 e),(17,.ptr 8 3),(18,.int .i64 ln),(19,.ptr 8 4),(20,.int .i64 cl),(21,.int .i64 e)],[some [.sl true 0 []],some [.int .i64 ln],some [.int .i64 cl],some [.int .i64 e],some [.int .i64 line],some [.int .i64 start],some [.int .i64 at_],some [.int .i64 x1,.str x2,.int .i64 x3,.int .i64 x4,.int .i64 x5],some [.int .i64 k,.str t,.int .i64 v,.int .i64 ln,.int .i64 cl]]⟩) (chk (decide (L.length+1<=bC)) (K .normal ⟨[(2,.ptr 0 0),(3,.ptr 1 0),(4,.ptr 2 0),(5,.ptr 3 0),(6,.ptr 8 0),(7,.int .i64 e),(13,.agg [.int .i64 k,.str t,.int .i64 v,.int .i64 ln,.int .i64 cl]),(14,.int .i64 e),(22,.sl false 5 L),(23,.agg [.int .i64 k,.str t,.int .i64 v,.int .i64 ln,.int .i64 cl]),(24,.sl true 5 [.agg [.int .i64 k,.str t,.int .i64 v,.int .i64 ln,.int .i64 cl]]),(25,.sl false 5 (L ++ [.agg [.int .i64 k,.str t,.int .i64 v,.int .i64 ln,.int .i64 cl]]))],[some [.sl true 5 (L ++ [.agg [.int .i64 k,.str t,.int .i64 v,.int .i64 ln,.int .i64 cl]])],some [.int .i64 c1],some [.int .i64 c2],some [.int .i64 c3],some [.int .i64 line],some [.int .i64 start],some [.int .i64 at_],some [.int .i64 x1,.str x2,.int .i64 x3,.int .i64 x4,.int .i64 x5],some [.int .i64 k,.str t,.int .i64 v,.int .i64 ln,.int .i64 cl]]⟩)):=(show bG a8Y a8Z K ⟨[(2,.ptr 0 0),(3,.ptr 1 0),(4,.ptr 2 0),(5,.ptr 3 0),(6,.ptr 8 0),(7,.int .i64 e),(13,.agg [.int .i64 k,.str t,.int .i64 v,.int .i64 ln,.int .i64 cl]),(14,.int .i64 e)],[some [.sl true 5 L],some [.int .i64 c1],some [.int .i64 c2],some [.int .i64 c3],some [.int .i64 line],some [.int .i64 start],some [.int .i64 at_],some [.int .i64 x1,.str x2,.int .i64 x3,.int .i64 x4,.int .i64 x5],some [.int .i64 k,.str t,.int .i64 v,.int .i64 ln,.int .i64 cl]]⟩=aA (e != 0) (dA (dA (K .ret ⟨[(2,.ptr 0 0),(3,.ptr 1 0),(4,.ptr 2 0),(5,.ptr 3 0),(6,.ptr 8 0),(7,.int .i64 e),(13,.agg [.int .i64 k,.str t,.int .i64 v,.int .i64 ln,.int .i64 cl]),(14,.int .i64 e),(17,.ptr 8 3),(18,.int .i64 ln),(19,.ptr 8 4),(20,.int .i64 cl),(21,.int .i64 e)],[some [.sl true 0 []],some [.int .i64 ln],some [.int .i64 cl],some [.int .i64 e],some [.int .i64 line],some [.int .i64 start],some [.int .i64 at_],some [.int .i64 x1,.str x2,.int .i64 x3,.int .i64 x4,.int .i64 x5],some [.int .i64 k,.str t,.int .i64 v,.int .i64 ln,.int .i64 cl]]⟩) (dA (K .ret ⟨[(2,.ptr 0 0),(3,.ptr 1 0),(4,.ptr 2 0),(5,.ptr 3 0),(6,.ptr 8 0),(7,.int .i64 e),(13,.agg [.int .i64 k,.str t,.int .i64 v,.int .i64 ln,.int .i64 cl]),(14,.int .i64 e),(17,.ptr 8 3),(18,.int .i64 ln),(19,.ptr 8 4),(20,.int .i64 cl),(21,.int .i64 e)],[some [.sl true 0 []],some [.int .i64 ln],some [.int .i64 cl],some [.int .i64 e],some [.int .i64 line],some [.int .i64 start],some [.int .i64 at_],some [.int .i64 x1,.str x2,.int .i64 x3,.int .i64 x4,.int .i64 x5],some [.int .i64 k,.str t,.int .i64 v,.int .i64 ln,.int .i64 cl]]⟩) (K .ret ⟨[(2,.ptr 0 0),(3,.ptr 1 0),(4,.ptr 2 0),(5,.ptr 3 0),(6,.ptr 8 0),(7,.int .i64 e),(13,.agg [.int .i64 k,.str t,.int .i64 v,.int .i64 ln,.int .i64 cl]),(14,.int .i64 e),(17,.ptr 8 3),(18,.int .i64 ln),(19,.ptr 8 4),(20,.int .i64 cl),(21,.int .i64 e)],[some [.sl true 0 []],some [.int .i64 ln],some [.int .i64 cl],some [.int .i64 e],some [.int .i64 line],some [.int .i64 start],some [.int .i64 at_],some [.int .i64 x1,.str x2,.int .i64 x3,.int .i64 x4,.int .i64 x5],some [.int .i64 k,.str t,.int .i64 v,.int .i64 ln,.int .i64 cl]]⟩))) (dA (dA (K .ret ⟨[(2,.ptr 0 0),(3,.ptr 1 0),(4,.ptr 2 0),(5,.ptr 3 0),(6,.ptr 8 0),(7,.int .i64 e),(13,.agg [.int .i64 k,.str t,.int .i64 v,.int .i64 ln,.int .i64 cl]),(14,.int .i64 e),(17,.ptr 8 3),(18,.int .i64 ln),(19,.ptr 8 4),(20,.int .i64 cl),(21,.int .i64 e)],[some [.sl true 0 []],some [.int .i64 ln],some [.int .i64 cl],some [.int .i64 e],some [.int .i64 line],some [.int .i64 start],some [.int .i64 at_],some [.int .i64 x1,.str x2,.int .i64 x3,.int .i64 x4,.int .i64 x5],some [.int .i64 k,.str t,.int .i64 v,.int .i64 ln,.int .i64 cl]]⟩) (K .ret ⟨[(2,.ptr 0 0),(3,.ptr 1 0),(4,.ptr 2 0),(5,.ptr 3 0),(6,.ptr 8 0),(7,.int .i64 e),(13,.agg [.int .i64 k,.str t,.int .i64 v,.int .i64 ln,.int .i64 cl]),(14,.int .i64 e),(17,.ptr 8 3),(18,.int .i64 ln),(19,.ptr 8 4),(20,.int .i64 cl),(21,.int .i64 e)],[some [.sl true 0 []],some [.int .i64 ln],some [.int .i64 cl],some [.int .i64 e],some [.int .i64 line],some [.int .i64 start],some [.int .i64 at_],some [.int .i64 x1,.str x2,.int .i64 x3,.int .i64 x4,.int .i64 x5],some [.int .i64 k,.str t,.int .i64 v,.int .i64 ln,.int .i64 cl]]⟩)) (dA (K .ret ⟨[(2,.ptr 0 0),(3,.ptr 1 0),(4,.ptr 2 0),(5,.ptr 3 0),(6,.ptr 8 0),(7,.int .i64 e),(13,.agg [.int .i64 k,.str t,.int .i64 v,.int .i64 ln,.int .i64 cl]),(14,.int .i64 e),(17,.ptr 8 3),(18,.int .i64 ln),(19,.ptr 8 4),(20,.int .i64 cl),(21,.int .i64 e)],[some [.sl true 0 []],some [.int .i64 ln],some [.int .i64 cl],some [.int .i64 e],some [.int .i64 line],some [.int .i64 start],some [.int .i64 at_],some [.int .i64 x1,.str x2,.int .i64 x3,.int .i64 x4,.int .i64 x5],some [.int .i64 k,.str t,.int .i64 v,.int .i64 ln,.int .i64 cl]]⟩) (K .ret ⟨[(2,.ptr 0 0),(3,.ptr 1 0),(4,.ptr 2 0),(5,.ptr 3 0),(6,.ptr 8 0),(7,.int .i64 e),(13,.agg [.int .i64 k,.str t,.int .i64 v,.int .i64 ln,.int .i64 cl]),(14,.int .i64 e),(17,.ptr 8 3),(18,.int .i64 ln),(19,.ptr 8 4),(20,.int .i64 cl),(21,.int .i64 e)],[some [.sl true 0 []],some [.int .i64 ln],some [.int .i64 cl],some [.int .i64 e],some [.int .i64 line],some [.int .i64 start],some [.int .i64 at_],some [.int .i64 x1,.str x2,.int .i64 x3,.int .i64 x4,.int .i64 x5],some [.int .i64 k,.str t,.int .i64 v,.int .i64 ln,.int .i64 cl]]⟩)))) (chk (decide (L.length+1<=bC)) (K .normal ⟨[(2,.ptr 0 0),(3,.ptr 1 0),(4,.ptr 2 0),(5,.ptr 3 0),(6,.ptr 8 0),(7,.int .i64 e),(13,.agg [.int .i64 k,.str t,.int .i64 v,.int .i64 ln,.int .i64 cl]),(14,.int .i64 e),(22,.sl false 5 L),(23,.agg [.int .i64 k,.str t,.int .i64 v,.int .i64 ln,.int .i64 cl]),(24,.sl true 5 [.agg [.int .i64 k,.str t,.int .i64 v,.int .i64 ln,.int .i64 cl]]),(25,.sl false 5 (L ++ [.agg [.int .i64 k,.str t,.int .i64 v,.int .i64 ln,.int .i64 cl]]))],[some [.sl true 5 (L ++ [.agg [.int .i64 k,.str t,.int .i64 v,.int .i64 ln,.int .i64 cl]])],some [.int .i64 c1],some [.int .i64 c2],some [.int .i64 c3],some [.int .i64 line],some [.int .i64 start],some [.int .i64 at_],some [.int .i64 x1,.str x2,.int .i64 x3,.int .i64 x4,.int .i64 x5],some [.int .i64 k,.str t,.int .i64 v,.int .i64 ln,.int .i64 cl]]⟩)) from by kernel_rfl).trans (by simp only[Cf])
def EF:Code:=Code.sub [true,true,false,true,false,false] vY
def AQ:Code:=Code.sub [true,true,false,true,false,true] vY
theorem aQU:oI EF=true:=by kernel_rfl
theorem aQV:oI AQ=true:=by kernel_rfl
theorem BN:Tryz.prog.follows .mixedOrders=true:=by kernel_rfl
theorem bLV (K:AX->ASt->R) (L:bTA) (c1 c2 c3 line start at_:Int) (k:Int) (t:ByteArray) (v ln cl e:Int):bG (SS.xe SS.CC SS.LL lH 7) EF K ⟨[(2,.ptr 0 0),(3,.ptr 1 0),(4,.ptr 2 0),(5,.ptr 3 0),(13,.agg [.int .i64 k,.str t,.int .i64 v,.int .i64 ln,.int .i64 cl]),(14,.int .i64 e)],[some [.sl true 5 L],some [.int .i64 c1],some [.int .i64 c2],some [.int .i64 c3],some [.int .i64 line],some [.int .i64 start],some [.int .i64 at_]]⟩=K .normal ⟨[(2,.ptr 0 0),(3,.ptr 1 0),(4,.ptr 2 0),(5,.ptr 3 0),(6,.ptr 7 0),(7,.int .i64 e),(13,.agg [.int .i64 k,.str t,.int .i64 v,.int .i64 ln,.int .i64 cl]),(14,.int .i64 e)],[some [.sl true 5 L],some [.int .i64 c1],some [.int .i64 c2],some [.int .i64 c3],some [.int .i64 line],some [.int .i64 start],some [.int .i64 at_],some [.int .i64 k,.str t,.int .i64 v,.int .i64 ln,.int .i64 cl]]⟩:=by kernel_rfl
def aAT (L:bTA) (c1 c2 c3 line start at_:Int) (k:Int) (t:ByteArray) (v ln cl e:Int):ASt:=⟨[(2,.ptr 0 0),(3,.ptr 1 0),(4,.ptr 2 0),(5,.ptr 3 0),(6,.ptr 7 0),(7,.int .i64 e),(13,.agg [.int .i64 k,.str t,.int .i64 v,.int .i64 ln,.int .i64 cl]),(14,.int .i64 e),(17,.ptr 7 3),(18,.int .i64 ln),(19,.ptr 7 4),(20,.int .i64 cl),(21,.int .i64 e)],[some [.sl true 0 []],some [.int .i64 ln],some [.int .i64 cl],some [.int .i64 e],some [.int .i64 line],some [.int .i64 start],some [.int .i64 at_],some [.int .i64 k,.str t,.int .i64 v,.int .i64 ln,.int .i64 cl]]⟩
def aAV (L:bTA) (c1 c2 c3 line start at_:Int) (k:Int) (t:ByteArray) (v ln cl e:Int):ASt:=⟨[(2,.ptr 0 0),(3,.ptr 1 0),(4,.ptr 2 0),(5,.ptr 3 0),(6,.ptr 7 0),(7,.int .i64 e),(13,.agg [.int .i64 k,.str t,.int .i64 v,.int .i64 ln,.int .i64 cl]),(14,.int .i64 e),(22,.sl false 5 L),(23,.agg [.int .i64 k,.str t,.int .i64 v,.int .i64 ln,.int .i64 cl]),(24,.sl true 5 [.agg [.int .i64 k,.str t,.int .i64 v,.int .i64 ln,.int .i64 cl]]),(25,.sl false 5 (L ++ [.agg [.int .i64 k,.str t,.int .i64 v,.int .i64 ln,.int .i64 cl]]))],[some [.sl true 5 (L ++ [.agg [.int .i64 k,.str t,.int .i64 v,.int .i64 ln,.int .i64 cl]])],some [.int .i64 c1],some [.int .i64 c2],some [.int .i64 c3],some [.int .i64 line],some [.int .i64 start],some [.int .i64 at_],some [.int .i64 k,.str t,.int .i64 v,.int .i64 ln,.int .i64 cl]]⟩
theorem aQS (K:AX->ASt->R) (L:bTA) (c1 c2 c3 line start at_:Int) (k:Int) (t:ByteArray) (v ln cl e:Int):bG (SS.xe SS.CC SS.LL lH 7) AQ K ⟨[(2,.ptr 0 0),(3,.ptr 1 0),(4,.ptr 2 0),(5,.ptr 3 0),(6,.ptr 7 0),(7,.int .i64 e),(13,.agg [.int .i64 k,.str t,.int .i64 v,.int .i64 ln,.int .i64 cl]),(14,.int .i64 e)],[some [.sl true 5 L],some [.int .i64 c1],some [.int .i64 c2],some [.int .i64 c3],some [.int .i64 line],some [.int .i64 start],some [.int .i64 at_],some [.int .i64 k,.str t,.int .i64 v,.int .i64 ln,.int .i64 cl]]⟩=aA (e != 0) (K .ret (aAT L c1 c2 c3 line start at_ k t v ln cl e)) (chk (decide (L.length+1<=bC)) (K .normal (aAV L c1 c2 c3 line start at_ k t v ln cl e))) :=(show bG (SS.xe SS.CC SS.LL lH 7) AQ K ⟨[(2,.ptr 0 0),(3,.ptr 1 0),(4,.ptr 2 0),(5,.ptr 3 0),(6,.ptr 7 0),(7,.int .i64 e),(13,.agg [.int .i64 k,.str t,.int .i64 v,.int .i64 ln,.int .i64 cl]),(14,.int .i64 e)],[some [.sl true 5 L],some [.int .i64 c1],some [.int .i64 c2],some [.int .i64 c3],some [.int .i64 line],some [.int .i64 start],some [.int .i64 at_],some [.int .i64 k,.str t,.int .i64 v,.int .i64 ln,.int .i64 cl]]⟩=bG a8W a8X K ⟨[(2,.ptr 0 0),(3,.ptr 1 0),(4,.ptr 2 0),(5,.ptr 3 0),(6,.ptr 7 0),(7,.int .i64 e),(13,.agg [.int .i64 k,.str t,.int .i64 v,.int .i64 ln,.int .i64 cl]),(14,.int .i64 e)],[some [.sl true 5 L],some [.int .i64 c1],some [.int .i64 c2],some [.int .i64 c3],some [.int .i64 line],some [.int .i64 start],some [.int .i64 at_],some [.int .i64 k,.str t,.int .i64 v,.int .i64 ln,.int .i64 cl]]⟩ from by kernel_rfl).trans (bHV 0 K e k t v ln cl L c1 c2 c3 line start at_)
theorem bLX (L:bTA) (c1 c2 c3 line start at_:Int) (k:Int) (t:ByteArray) (v ln cl e:Int) (hL:L.length+1<=bC):dD lH 7 EF (D8 (dD lH 7 AQ fun ax Z'=>if e=0 then ax = .normal/\Z'=aAV L c1 c2 c3 line start at_ k t v ln cl e else ax = .ret/\Z'=aAT L c1 c2 c3 line start at_ k t v ln cl e) fun _ _=>False) ⟨[(2,.ptr 0 0),(3,.ptr 1 0),(4,.ptr 2 0),(5,.ptr 3 0),(13,.agg [.int .i64 k,.str t,.int .i64 v,.int .i64 ln,.int .i64 cl]),(14,.int .i64 e)],[some [.sl true 5 L],some [.int .i64 c1],some [.int .i64 c2],some [.int .i64 c3],some [.int .i64 line],some [.int .i64 start],some [.int .i64 at_]]⟩:=by
 have hC:o7 (SS.xe SS.CC SS.LL lH 7).E.P (SS.xe SS.CC SS.LL lH 7).C:=MP BN dO ET;have hl:I7 (SS.xe SS.CC SS.LL lH 7):=We BN dO ET rfl;refine xw EF (fun ax Z' h => ?_) (IX (X:=(SS.xe SS.CC SS.LL lH 7)) dO.V dO.W hC hl fun K=>bLV K L c1 c2 c3 line start at_ k t v ln cl e);obtain ⟨rfl,rfl⟩:=h;show dD lH 7 AQ _ _;by_cases he:e=0
 .simp only[aS he];refine IX (X:=(SS.xe SS.CC SS.LL lH 7)) dO.V dO.W hC hl fun K => ?_
  rw[aQS,show (e != 0)=false by simp[he],aC,au (by grind)]
 .simp only[aQ he];refine IX (X:=(SS.xe SS.CC SS.LL lH 7)) dO.V dO.W hC hl fun K => ?_
  rw[aQS,show (e != 0)=true by simp[he],aH]
theorem bLW (K:AX->ASt->R) (L:bTA) (c1 c2 c3 line start at_:Int) (x1:Int) (x2:ByteArray) (x3 x4 x5:Int) (k:Int) (t:ByteArray) (v ln cl e:Int):bG (SS.xe SS.CC SS.LL lH 8) EF K ⟨[(2,.ptr 0 0),(3,.ptr 1 0),(4,.ptr 2 0),(5,.ptr 3 0),(13,.agg [.int .i64 k,.str t,.int .i64 v,.int .i64 ln,.int .i64 cl]),(14,.int .i64 e)],[some [.sl true 5 L],some [.int .i64 c1],some [.int .i64 c2],some [.int .i64 c3],some [.int .i64 line],some [.int .i64 start],some [.int .i64 at_],some [.int .i64 x1,.str x2,.int .i64 x3,.int .i64 x4,.int .i64 x5]]⟩=K .normal ⟨[(2,.ptr 0 0),(3,.ptr 1 0),(4,.ptr 2 0),(5,.ptr 3 0),(6,.ptr 8 0),(7,.int .i64 e),(13,.agg [.int .i64 k,.str t,.int .i64 v,.int .i64 ln,.int .i64 cl]),(14,.int .i64 e)],[some [.sl true 5 L],some [.int .i64 c1],some [.int .i64 c2],some [.int .i64 c3],some [.int .i64 line],some [.int .i64 start],some [.int .i64 at_],some [.int .i64 x1,.str x2,.int .i64 x3,.int .i64 x4,.int .i64 x5],some [.int .i64 k,.str t,.int .i64 v,.int .i64 ln,.int .i64 cl]]⟩:=by kernel_rfl
def aAU (L:bTA) (c1 c2 c3 line start at_:Int) (x1:Int) (x2:ByteArray) (x3 x4 x5:Int) (k:Int) (t:ByteArray) (v ln cl e:Int):ASt:=⟨[(2,.ptr 0 0),(3,.ptr 1 0),(4,.ptr 2 0),(5,.ptr 3 0),(6,.ptr 8 0),(7,.int .i64 e),(13,.agg [.int .i64 k,.str t,.int .i64 v,.int .i64 ln,.int .i64 cl]),(14,.int .i64 e),(17,.ptr 8 3),(18,.int .i64 ln),(19,.ptr 8 4),(20,.int .i64 cl),(21,.int .i64 e)],[some [.sl true 0 []],some [.int .i64 ln],some [.int .i64 cl],some [.int .i64 e],some [.int .i64 line],some [.int .i64 start],some [.int .i64 at_],some [.int .i64 x1,.str x2,.int .i64 x3,.int .i64 x4,.int .i64 x5],some [.int .i64 k,.str t,.int .i64 v,.int .i64 ln,.int .i64 cl]]⟩
def aAW (L:bTA) (c1 c2 c3 line start at_:Int) (x1:Int) (x2:ByteArray) (x3 x4 x5:Int) (k:Int) (t:ByteArray) (v ln cl e:Int):ASt:=⟨[(2,.ptr 0 0),(3,.ptr 1 0),(4,.ptr 2 0),(5,.ptr 3 0),(6,.ptr 8 0),(7,.int .i64 e),(13,.agg [.int .i64 k,.str t,.int .i64 v,.int .i64 ln,.int .i64 cl]),(14,.int .i64 e),(22,.sl false 5 L),(23,.agg [.int .i64 k,.str t,.int .i64 v,.int .i64 ln,.int .i64 cl]),(24,.sl true 5 [.agg [.int .i64 k,.str t,.int .i64 v,.int .i64 ln,.int .i64 cl]]),(25,.sl false 5 (L ++ [.agg [.int .i64 k,.str t,.int .i64 v,.int .i64 ln,.int .i64 cl]]))],[some [.sl true 5 (L ++ [.agg [.int .i64 k,.str t,.int .i64 v,.int .i64 ln,.int .i64 cl]])],some [.int .i64 c1],some [.int .i64 c2],some [.int .i64 c3],some [.int .i64 line],some [.int .i64 start],some [.int .i64 at_],some [.int .i64 x1,.str x2,.int .i64 x3,.int .i64 x4,.int .i64 x5],some [.int .i64 k,.str t,.int .i64 v,.int .i64 ln,.int .i64 cl]]⟩
theorem aQT (K:AX->ASt->R) (L:bTA) (c1 c2 c3 line start at_:Int) (x1:Int) (x2:ByteArray) (x3 x4 x5:Int) (k:Int) (t:ByteArray) (v ln cl e:Int):bG (SS.xe SS.CC SS.LL lH 8) AQ K ⟨[(2,.ptr 0 0),(3,.ptr 1 0),(4,.ptr 2 0),(5,.ptr 3 0),(6,.ptr 8 0),(7,.int .i64 e),(13,.agg [.int .i64 k,.str t,.int .i64 v,.int .i64 ln,.int .i64 cl]),(14,.int .i64 e)],[some [.sl true 5 L],some [.int .i64 c1],some [.int .i64 c2],some [.int .i64 c3],some [.int .i64 line],some [.int .i64 start],some [.int .i64 at_],some [.int .i64 x1,.str x2,.int .i64 x3,.int .i64 x4,.int .i64 x5],some [.int .i64 k,.str t,.int .i64 v,.int .i64 ln,.int .i64 cl]]⟩=aA (e != 0) (K .ret (aAU L c1 c2 c3 line start at_ x1 x2 x3 x4 x5 k t v ln cl e)) (chk (decide (L.length+1<=bC)) (K .normal (aAW L c1 c2 c3 line start at_ x1 x2 x3 x4 x5 k t v ln cl e))) :=(show bG (SS.xe SS.CC SS.LL lH 8) AQ K ⟨[(2,.ptr 0 0),(3,.ptr 1 0),(4,.ptr 2 0),(5,.ptr 3 0),(6,.ptr 8 0),(7,.int .i64 e),(13,.agg [.int .i64 k,.str t,.int .i64 v,.int .i64 ln,.int .i64 cl]),(14,.int .i64 e)],[some [.sl true 5 L],some [.int .i64 c1],some [.int .i64 c2],some [.int .i64 c3],some [.int .i64 line],some [.int .i64 start],some [.int .i64 at_],some [.int .i64 x1,.str x2,.int .i64 x3,.int .i64 x4,.int .i64 x5],some [.int .i64 k,.str t,.int .i64 v,.int .i64 ln,.int .i64 cl]]⟩=bG a8Y a8Z K ⟨[(2,.ptr 0 0),(3,.ptr 1 0),(4,.ptr 2 0),(5,.ptr 3 0),(6,.ptr 8 0),(7,.int .i64 e),(13,.agg [.int .i64 k,.str t,.int .i64 v,.int .i64 ln,.int .i64 cl]),(14,.int .i64 e)],[some [.sl true 5 L],some [.int .i64 c1],some [.int .i64 c2],some [.int .i64 c3],some [.int .i64 line],some [.int .i64 start],some [.int .i64 at_],some [.int .i64 x1,.str x2,.int .i64 x3,.int .i64 x4,.int .i64 x5],some [.int .i64 k,.str t,.int .i64 v,.int .i64 ln,.int .i64 cl]]⟩ from by kernel_rfl).trans (bHY 0 K e k t v ln cl L c1 c2 c3 line start at_ x1 x2 x3 x4 x5)
theorem bLY (L:bTA) (c1 c2 c3 line start at_:Int) (x1:Int) (x2:ByteArray) (x3 x4 x5:Int) (k:Int) (t:ByteArray) (v ln cl e:Int) (hL:L.length+1<=bC):dD lH 8 EF (D8 (dD lH 8 AQ fun ax Z'=>if e=0 then ax = .normal/\Z'=aAW L c1 c2 c3 line start at_ x1 x2 x3 x4 x5 k t v ln cl e else ax = .ret/\Z'=aAU L c1 c2 c3 line start at_ x1 x2 x3 x4 x5 k t v ln cl e) fun _ _=>False) ⟨[(2,.ptr 0 0),(3,.ptr 1 0),(4,.ptr 2 0),(5,.ptr 3 0),(13,.agg [.int .i64 k,.str t,.int .i64 v,.int .i64 ln,.int .i64 cl]),(14,.int .i64 e)],[some [.sl true 5 L],some [.int .i64 c1],some [.int .i64 c2],some [.int .i64 c3],some [.int .i64 line],some [.int .i64 start],some [.int .i64 at_],some [.int .i64 x1,.str x2,.int .i64 x3,.int .i64 x4,.int .i64 x5]]⟩:=by
 have hC:o7 (SS.xe SS.CC SS.LL lH 8).E.P (SS.xe SS.CC SS.LL lH 8).C:=MP BN dO ET;have hl:I7 (SS.xe SS.CC SS.LL lH 8):=We BN dO ET rfl;refine xw EF (fun ax Z' h => ?_) (IX (X:=(SS.xe SS.CC SS.LL lH 8)) dO.V dO.W hC hl fun K=>bLW K L c1 c2 c3 line start at_ x1 x2 x3 x4 x5 k t v ln cl e);obtain ⟨rfl,rfl⟩:=h;show dD lH 8 AQ _ _;by_cases he:e=0
 .simp only[aS he];refine IX (X:=(SS.xe SS.CC SS.LL lH 8)) dO.V dO.W hC hl fun K => ?_
  rw[aQT,show (e != 0)=false by simp[he],aC,au (by grind)]
 .simp only[aQ he];refine IX (X:=(SS.xe SS.CC SS.LL lH 8)) dO.V dO.W hC hl fun K => ?_
  rw[aQT,show (e != 0)=true by simp[he],aH]
def bJ6:Code:=qI Tryz.f249
def bJ5:AE:=SS.ae 249 86
def aPI:XE:=SS.xe SS.CC SS.LL bJ5 8
def a08:Code:=Code.sub [false,true,true,false,false,false,true,true,true,true,true,true,true,true,false,false] bJ6
theorem bJ7 (l:Nat) (K:AX->ASt->R) (s:ByteArray) (e:Int) (L:bTA) (c1:Int) (c2:Int) (c3:Int) (line:Int) (start:Int) (at_:Int) (k:Int) (t:ByteArray) (v:Int) (a:Int) (b:Int):jf aPI false (opsOf a08) (((opsOf a08).toList.drop 0).take 5) (K .normal) ⟨[(0,.func (.yield l) [] []),(1,.cst (.str s)),(3,.ptr 4 0),(4,.ptr 5 0),(5,.ptr 6 0),(8,.func (.func 251) [] [.ptr 4 0,.ptr 6 0,.ptr 5 0]),(12,.ptr 7 0),(13,.int .i64 e)],[some [.sl true 5 L],some [.int .i64 c1],some [.int .i64 c2],some [.int .i64 c3],some [.int .i64 line],some [.int .i64 start],some [.int .i64 at_],some [.int .i64 k,.str t,.int .i64 v,.int .i64 a,.int .i64 b]]⟩=zq SS.CC 251 [.agg [.int .i64 k,.str t,.int .i64 v,.int .i64 a,.int .i64 b],.ptr 0 0,.ptr 1 0,.ptr 2 0] [some [.int .i64 line],some [.int .i64 at_],some [.int .i64 start]] fun r9 h10=>Jt r9 h10 fun n1 s2 n3 n4 n5 n6 n7 n8=>K .normal ⟨[(0,.func (.yield l) [] []),(1,.cst (.str s)),(3,.ptr 4 0),(4,.ptr 5 0),(5,.ptr 6 0),(8,.func (.func 251) [] [.ptr 4 0,.ptr 6 0,.ptr 5 0]),(12,.ptr 7 0),(13,.int .i64 e),(70,.func (.yield l) [] []),(71,.func (.func 251) [] [.ptr 4 0,.ptr 6 0,.ptr 5 0]),(72,.agg [.int .i64 k,.str t,.int .i64 v,.int .i64 a,.int .i64 b]),(73,.agg [.int .i64 n1,.str s2,.int .i64 n3,.int .i64 n4,.int .i64 n5]),(74,.int .i64 e)],[some [.sl true 5 L],some [.int .i64 c1],some [.int .i64 c2],some [.int .i64 c3],some [.int .i64 n6],some [.int .i64 n8],some [.int .i64 n7],some [.int .i64 k,.str t,.int .i64 v,.int .i64 a,.int .i64 b]]⟩:=by kernel_rfl
def bJA:Code:=qI Tryz.f249
def bJ8:AE:=SS.ae 249 86
def bJ9:XE:=SS.xe SS.CC SS.LL bJ8 8
def bJB:Code:=Code.sub [false,true,true,false,false,false,true,true,true,true,true,true,true,true,true,false] bJA
theorem bJC (l:Nat) (K:AX->ASt->R) (s:ByteArray) (L:bTA) (c1:Int) (c2:Int) (c3:Int) (line:Int) (start:Int) (at_:Int) (k:Int) (t:ByteArray) (v:Int) (a:Int) (b:Int):bG bJ9 bJB K ⟨[(0,.func (.yield l) [] []),(1,.cst (.str s)),(3,.ptr 4 0),(4,.ptr 5 0),(5,.ptr 6 0),(12,.ptr 7 0)],[some [.sl true 5 L],some [.int .i64 c1],some [.int .i64 c2],some [.int .i64 c3],some [.int .i64 line],some [.int .i64 start],some [.int .i64 at_],some [.int .i64 k,.str t,.int .i64 v,.int .i64 a,.int .i64 b]]⟩=K .normal ⟨[(0,.func (.yield l) [] []),(1,.cst (.str s)),(3,.ptr 4 0),(4,.ptr 5 0),(5,.ptr 6 0),(12,.ptr 7 0),(81,.int .i64 at_),(82,.ptr 7 1),(83,.str t),(84,.int .i64 (t.size:Int)),(85,.int .i64 (i64.wrap (at_+(t.size:Int))))],[some [.sl true 5 L],some [.int .i64 c1],some [.int .i64 c2],some [.int .i64 c3],some [.int .i64 line],some [.int .i64 start],some [.int .i64 (i64.wrap (at_+(t.size:Int)))],some [.int .i64 k,.str t,.int .i64 v,.int .i64 a,.int .i64 b]]⟩:=by kernel_rfl
def k:Code:=Code.sub [] iD
def k0:Code:=Code.sub [false] iD
def k00:Code:=Code.sub [false,false] iD
def k01:Code:=Code.sub [false,true] iD
def aLP:Code:=Code.sub [false,true,false] iD
theorem bD':aLP = .label 0:=by kernel_rfl
def a6H:Code:=Code.sub [false,true,true] iD
def aLQ:Code:=Code.sub [false,true,true,false] iD
def KE:Code:=Code.sub [false,true,true,false,false] iD
def a6I:Code:=Code.sub [false,true,true,false,false,false] iD
def bE0:Code:=Code.sub [false,true,true,false,false,false,false] iD
def ZM:Code:=Code.sub [false,true,true,false,false,false,true] iD
def bE1:Code:=Code.sub [false,true,true,false,false,false,true,false] iD
def ZN:Code:=Code.sub [false,true,true,false,false,false,true,true] iD
def bE2:Code:=Code.sub [false,true,true,false,false,false,true,true,false] iD
def ZO:Code:=Code.sub [false,true,true,false,false,false,true,true,true] iD
def bE3:Code:=Code.sub [false,true,true,false,false,false,true,true,true,false] iD
def Og:Code:=Code.sub [false,true,true,false,false,false,true,true,true,true] iD
def aLR:Code:=Code.sub [false,true,true,false,false,false,true,true,true,true,false] iD
def bE4:Code:=Code.sub [false,true,true,false,false,false,true,true,true,true,false,false] iD
def ZP:Code:=Code.sub [false,true,true,false,false,false,true,true,true,true,false,true] iD
def aLS:Code:=Code.sub [false,true,true,false,false,false,true,true,true,true,false,true,false] iD
def KF:Code:=Code.sub [false,true,true,false,false,false,true,true,true,true,false,true,false,false] iD
theorem bEA:KF = .region 10 (opsOf KF) false:=by kernel_rfl
def a6K:Code:=Code.sub [false,true,true,false,false,false,true,true,true,true,false,true,false,true] iD
theorem bEB:a6K = .ret:=by kernel_rfl
theorem bEC:aLS = .seq KF a6K:=by kernel_rfl
def aLT:Code:=Code.sub [false,true,true,false,false,false,true,true,true,true,false,true,true] iD
theorem bED:aLT = .skip:=by kernel_rfl
theorem aLU:ZP = .cond (.tmp 41) aLS aLT:=by kernel_rfl
theorem aLV:aLR = .seq bE4 ZP:=by kernel_rfl
def ZR:Code:=Code.sub [false,true,true,false,false,false,true,true,true,true,true] iD
def bEE:Code:=Code.sub [false,true,true,false,false,false,true,true,true,true,true,false] iD
def a6L:Code:=Code.sub [false,true,true,false,false,false,true,true,true,true,true,true] iD
def bEF:Code:=Code.sub [false,true,true,false,false,false,true,true,true,true,true,true,false] iD
def a6M:Code:=Code.sub [false,true,true,false,false,false,true,true,true,true,true,true,true] iD
def aLW:Code:=Code.sub [false,true,true,false,false,false,true,true,true,true,true,true,true,false] iD
def a6N:Code:=Code.sub [false,true,true,false,false,false,true,true,true,true,true,true,true,true] iD
def aLX:Code:=Code.sub [false,true,true,false,false,false,true,true,true,true,true,true,true,true,false] iD
def xB:Code:=Code.sub [false,true,true,false,false,false,true,true,true,true,true,true,true,true,false,false] iD
theorem bEL:xB = .region 19 (opsOf xB) false:=by kernel_rfl
def ZU:Code:=Code.sub [false,true,true,false,false,false,true,true,true,true,true,true,true,true,false,true] iD
def aLY:Code:=Code.sub [false,true,true,false,false,false,true,true,true,true,true,true,true,true,false,true,false] iD
theorem bEM:aLY = .ret:=by kernel_rfl
def aLZ:Code:=Code.sub [false,true,true,false,false,false,true,true,true,true,true,true,true,true,false,true,true] iD
theorem bEN:aLZ = .skip:=by kernel_rfl
theorem aL':ZU = .cond (.tmp 80) aLY aLZ:=by kernel_rfl
theorem bEO:aLX = .seq xB ZU:=by kernel_rfl
def a6P:Code:=Code.sub [false,true,true,false,false,false,true,true,true,true,true,true,true,true,true] iD
def bEP:Code:=Code.sub [false,true,true,false,false,false,true,true,true,true,true,true,true,true,true,false] iD
def a6Q:Code:=Code.sub [false,true,true,false,false,false,true,true,true,true,true,true,true,true,true,true] iD
theorem bEQ:a6Q = .exit 1:=by kernel_rfl
theorem bER:a6P = .seq bEP a6Q:=by kernel_rfl
theorem bES:a6N = .seq aLX a6P:=by kernel_rfl
theorem bET:a6M = .seq aLW a6N:=by kernel_rfl
theorem bEU:a6L = .seq bEF a6M:=by kernel_rfl
theorem bEV:ZR = .seq bEE a6L:=by kernel_rfl
theorem aM0:Og = .seq aLR ZR:=by kernel_rfl
theorem bEW:ZO = .seq bE3 Og:=by kernel_rfl
theorem bEX:ZN = .seq bE2 ZO:=by kernel_rfl
theorem bEY:ZM = .seq bE1 ZN:=by kernel_rfl
theorem bEZ:a6I = .seq bE0 ZM:=by kernel_rfl
theorem a6R:KE = .block 1 a6I:=by kernel_rfl
theorem bE':aLQ = .loop KE:=by kernel_rfl
theorem bF0:a6H = .block 0 aLQ:=by kernel_rfl
theorem bF1:k01 = .seq aLP a6H:=by kernel_rfl
theorem bF2:k0 = .seq k00 k01:=by kernel_rfl
theorem bF3:k = .scope k0:=by kernel_rfl
def ZQ:Oper:=(opsOf KF)[4]!
def a6J:Call:=match ZQ.op with | .call c=>c | _=>default
theorem bE5:ZQ.op = .call a6J:=by kernel_rfl
theorem bE6:ZQ.guard=none:=by kernel_rfl
theorem bE7:a6J.callee = .value (.tmp 42):=by kernel_rfl
theorem bE8:a6J.args = #[(.tmp 45),(.const (.int .i64 0))]:=by kernel_rfl
theorem bE9:(opsOf KF).toList=((opsOf KF).toList.drop 0).take 4 ++ ZQ::((opsOf KF).toList.drop 5).take 5:=by kernel_rfl
def ZT:Oper:=(opsOf xB)[5]!
def a6O:Call:=match ZT.op with | .call c=>c | _=>default
theorem bEG:ZT.op = .call a6O:=by kernel_rfl
theorem bEH:ZT.guard=none:=by kernel_rfl
theorem bEI:a6O.callee = .value (.tmp 70):=by kernel_rfl
theorem bEJ:a6O.args = #[(.tmp 73),(.tmp 74)]:=by kernel_rfl
theorem bEK:(opsOf xB).toList=((opsOf xB).toList.drop 0).take 5 ++ ZT::((opsOf xB).toList.drop 6).take 5:=by kernel_rfl
def uU:bTB->Nat->Nat×Nat->Nat×Nat
 | [],_,p=>p
 | b::l,i,p=>uU l (i+1) (if b=10 then (p.1+1,i+1) else p)
def bW (l:bTB):Tok×Int:=match l with
 | []=>EI []
 | b::l=>if gy b.toNat then BR (b::l) else if isLet b.toNat then C9 (b::l) else EI (b::l)
inductive Gs where
 | ok (ts:List Tok)
 | err (line uM e:Int)
def Tok.at (t:Tok) (line uM:Int):Tok := { t with line:=line,uM:=uM }
def vg:Nat->bTB->Nat->Nat->Nat->List Tok->Gs
 | 0,_,_,_,_,_ => .err 0 0 0
 | f+1,rest,i,line,start,acc =>
  let g:=iH false rest
  let p:=uU (rest.take g) i (line,start)
  match rest.drop g with
  | [] => .ok (acc ++ [(⟨4,[],0,(p.1:Nat),((i+g-p.2+1:Nat):Int)⟩:Tok)])
  | b::r =>
   if (bW (b::r)).2=0 then vg f ((b::r).drop (bW (b::r)).1.text.length) (i+g+(bW (b::r)).1.text.length) p.1 p.2 (acc ++ [(bW (b::r)).1.at (p.1:Nat) ((i+g-p.2+1:Nat):Int)])
   else .err (p.1:Nat) ((i+g-p.2+1:Nat):Int) (bW (b::r)).2
theorem Pn:∀ (c:Bool) (l:bTB),iH c l<=l.length
 | _,[]=>by cases ‹Bool› <;> simp[iH]
 | true,b::l=>by have h1:=Pn false l;have h2:=Pn true l;rw[iH]; split<;>simp<;>omega
 | false,b::l=>by have h1:=Pn false l;have h2:=Pn true l;rw[iH]; grind
theorem a8H:∀ (l:bTB) (i:Nat) (p:Nat×Nat),p.2<=i->(uU l i p).2<=i+l.length/\p.1<=(uU l i p).1/\(uU l i p).1<=p.1+l.length
 | [],i,p,h=>by simp[uU,h]
 | b::l,i,p,h=>by
  rw[uU];split
  .have:=a8H l (i+1) (p.1+1,i+1) (by simp);simp only[bP] at *; omega
  .have:=a8H l (i+1) p (by omega);simp only[bP]; omega
theorem bLF {p:Nat->Bool} {b:UInt8} {l:bTB} (h:p b.toNat=true):0<(gV p (b::l)).length:=by grind [gV,List.takeWhile_cons]
theorem aSE {l x:bTB} (h:AU l=some x):x∈jO/\x.isPrefixOf l=true:=by grind [AU]
theorem aB8:∀ x∈jO,0<x.length/\x.length<=2:=by decide
theorem Uu {b:UInt8} {r:bTB} (h:(bW (b::r)).2=0):0<(bW (b::r)).1.text.length/\(bW (b::r)).1.text.length<=(b::r).length:=by rw[show bW (b::r)=if gy b.toNat then BR (b::r) else if isLet b.toNat then C9 (b::r) else EI (b::r) from rfl] at h ⊢;grind [bLF,aQI,BR,nR,C9,EI,AU,aB8]
def jC (l:Nat) (rc:Loop) (out:Nat->Nat):YC:=⟨Ko,lH,l,7,rc,out,[(2,.ptr 0 0),(3,.ptr 1 0),(4,.ptr 2 0),(5,.ptr 3 0)]⟩
structure NG (rc:Loop):Prop where
 par:rc.params = #[13,14]
 X7:rc.assign=EF
 XJ:rc.body=AQ
 tm:rc.tmps.size=27
theorem a2O {l:Nat} {rc:Loop} {out:Nat->Nat} (ho:1<=out l):(jC l rc out).OK:=⟨BN,rfl,ho⟩
section
variable {l:Nat} {rc:Loop} {out:Nat->Nat}
theorem pc (ho:1<=out l) {c:Code} {Q:AX->ASt->AX->Prop} {j ax:AX} {Z Zt:ASt} (h:∀ K,bG AL c K Z=K ax Zt) (hq:Q ax Zt j):Tr (jC l rc out) c Q j Z :=Tr.a8K (a2O ho) (IX (X:=AL) dO.V dO.W (MP BN dO ET) (We BN dO ET rfl) h) (by simp_all)
theorem a05 {ops:Array Oper} {os:List Oper} {Z Zt:ASt} (h:∀ K:ASt->R,jf AL false ops os K Z=K Zt):lD Ko ops os (fun Z'=>Z'=Zt) Z:=by
 have h1:jf AL false ops os (fun Z'=>PE .normal Zt .normal Z') Z=some (.nilp,[]):=by rw[h]; simp[PE]
 refine Cm (fun Z' he => ?_) _ (Ro (X:=AL) dO.V dO.W (MP BN dO ET) os h1);grind [PE]
end
abbrev sl5 (l:Nat) (s:ByteArray) (t:fD):fD:=(0,.func (.yield l) [] [])::(1,.cst (.str s))::(3,.ptr 4 0)::(4,.ptr 5 0)::(5,.ptr 6 0)::t
theorem take_drop_succ {α:Type} {l:List α} {i m:Nat} (h:i<l.length):(l.drop i).take (m+1)=l[i]::(l.drop (i+1)).take m:=by rw[CG h,List.take_succ_cons]
theorem bFO (l:Nat) (K:AX->ASt->R) (full:bTB) (L:bTA) (c1 c2 c3:Int) (at_ g:Nat) (hg:at_+g<=full.length) (hf:full.length<=1000000):∀ (m i line start:Nat),i+m=at_+g->line<=i+1 ->
 Ui l K (bs full) (g:Int) (i:Int) L c1 c2 c3 (line:Int) (start:Int) (at_:Int) =
  K .normal ⟨sl5 l (bs full) [(6,.int .i64 (g:Int)),(7,.int .i64 ((at_+g:Nat):Int)),(19,.int .i64 ((at_+g:Nat):Int)),(20,.int .i64 (at_:Int)),(21,.int .i64 (g:Int)),(22,.int .i64 ((at_+g:Nat):Int)),(23,.bool false)],
   lQ L c1 c2 c3 ((uU ((full.drop i).take m) i (line,start)).1:Nat) ((uU ((full.drop i).take m) i (line,start)).2:Nat) (at_:Int)⟩:=by
 have hw:i64.wrap ((at_:Int)+(g:Int))=((at_+g:Nat):Int):=by rw[wrap64 (by omega) (by omega)]; omega
 intro m;induction m with
 | zero =>
  intro i line start hi hl;rw[aPE,hw,aV (by omega),aC,List.take_zero];have:i=at_+g:=by omega
  subst this;rfl
 | succ m ih =>
  intro i line start hi hl;have hlt:i<full.length:=by omega
  rw[aPE,hw,aO (by omega),aH,Eh (b:=full[i]) (by omega) (by rw[H5]; simp[hlt]),show ((full[i].toNat:Int)==10)=(full[i].toNat==10) from JQ _ 10,bu (by omega),bu (by omega),take_drop_succ hlt,uU];by_cases hb:full[i]=10
  .rw[hb,show ((10:UInt8).toNat==10)=true from rfl,aH,aS rfl];grind
  .have:(full[i].toNat==10)=false:=by rw[pX]; intro e; exact hb (UInt8.toNat_inj.1 (by rw[e]; rfl))
   rw[this,aC,aQ hb];grind
def PX (b:UInt8):Nat:=if gy b.toNat then 306 else if isLet b.toNat then 304 else 252
theorem bLC (l:Nat) (K:AX->ASt->R) (full:bTB) (L:bTA) (c1 c2 c3 line start:Int) (at_:Nat) (h:at_<full.length) :
 bG AL a90 K ⟨sl5 l (bs full) [(8,mG),(9,.func (.func 252) [] [])],lQ L c1 c2 c3 line start (at_:Int)⟩=K .normal ⟨sl5 l (bs full) [(8,mG),(9,.func (.func (PX full[at_])) [] []),(47,.sl false 2 RL),(48,.int .i64 (RL.length:Int)),(49,.int .i64 2),(50,.bool false)],lQ L c1 c2 c3 line start (at_:Int)⟩:=by
 have hb:((bs full)[(at_:Int).toNat]? : Option UInt8)=some full[at_]:=by rw[oM,H5]; simp[h]
 rw[aUC,aU9,Eh (by omega) hb,pq (c78 _),EK];grind [PX,isLet,aC,aUA,Eh,pq,c80,EK,aUB,aH]
theorem XM (full:bTB) (i:Nat):(bs full).extract i (bs full).size=bs (full.drop i):=by rw[jy,RN,yU (by simp)]
section
variable {l:Nat} {rc:Loop} {out:Nat->Nat}
theorem a9A (ho:1<=out l) {full:bTB} {L:bTA} {c1 c2 c3:Int} {i g line start:Nat} {Q:AX->ASt->AX->Prop} (hf:full.length<=1000000) (hi:i<=full.length) (hl:line<=i+1) (hg:iH false (full.drop i)=g)
 (h:Tr (jC l rc out) Og Q .normal ⟨sl5 l (bs full) [(8,mG)],lQ L c1 c2 c3 ((uU ((full.drop i).take g) i (line,start)).1:Nat) ((uU ((full.drop i).take g) i (line,start)).2:Nat) ((i+g:Nat):Int)⟩) :
 Tr (jC l rc out) a6I Q .normal ⟨sl5 l (bs full) [],lQ L c1 c2 c3 (line:Int) (start:Int) (i:Int)⟩:=by
 have hgl:=Pn false (full.drop i);rw[hg,xY] at hgl;generalize hp:uU ((full.drop i).take g) i (line,start)=p at h;rw[bEZ];refine Tr.seq (pc (Zt:=⟨sl5 l (bs full) [(6,.int .i64 (g:Int)),(14,.str (bs full)),(15,.int .i64 (i:Int)),(16,.str (bs (full.drop i))),(17,.int .i64 (g:Int))],lQ L c1 c2 c3 line start i⟩) (ax := .normal) ho (fun K => ?_) ?_)
 .refine (bH' l K (bs full) L c1 c2 c3 line start i).trans ?_;rw[au (by rw[jy]; simp; omega),oM,XM,pq (c59 (full.drop i) (by simp; omega)),wE,hg]
 show Tr (jC l rc out) ZM Q .normal _;refine Tr.gc (l := [0,1,3,4,5,6]) (m:=7) (cu _) rfl ?_;show Tr (jC l rc out) ZM Q .normal ⟨sl5 l (bs full) [(6,.int .i64 (g:Int))],lQ L c1 c2 c3 line start i⟩;rw[bEY];refine Tr.seq (pc (Zt:=⟨sl5 l (bs full) [(6,.int .i64 (g:Int)),(7,.int .i64 ((i+g:Nat):Int)),(19,.int .i64 ((i+g:Nat):Int)),(20,.int .i64 (i:Int)),(21,.int .i64 (g:Int)),(22,.int .i64 ((i+g:Nat):Int)),(23,.bool false)],lQ L c1 c2 c3 (p.1:Nat) (p.2:Nat) i⟩) (ax := .normal) ho (fun K => ?_) ?_)
 .refine (bI4 l K (bs full) g L c1 c2 c3 line start i).trans ?_;rw[bFO l K full L c1 c2 c3 i g (by omega) hf g i line start rfl hl,hp]
 show Tr (jC l rc out) ZN Q .normal _;refine Tr.gc (l := [0,1,3,4,5,6]) (m:=7) (cu _) rfl ?_;show Tr (jC l rc out) ZN Q .normal ⟨sl5 l (bs full) [(6,.int .i64 (g:Int))],lQ L c1 c2 c3 (p.1:Nat) (p.2:Nat) i⟩;rw[bEX];refine Tr.seq (pc (ax := .normal) ho (fun K=>bI9 l K (bs full) g L c1 c2 c3 (p.1:Nat) (p.2:Nat) i) ?_);show Tr (jC l rc out) ZO Q .normal _;refine Tr.gc (l := [0,1,3,4,5]) (m:=7) (cu _) rfl ?_;rw[show i64.wrap ((i:Int)+(g:Int))=((i+g:Nat):Int) by rw[wrap64 (by omega) (by omega)]; omega];show Tr (jC l rc out) ZO Q .normal ⟨sl5 l (bs full) [],lQ L c1 c2 c3 (p.1:Nat) (p.2:Nat) ((i+g:Nat):Int)⟩;rw[bEW];refine Tr.seq (pc (ax := .normal) ho (fun K=>bIE l K (bs full) L c1 c2 c3 (p.1:Nat) (p.2:Nat) ((i+g:Nat):Int)) ?_);show Tr (jC l rc out) Og Q .normal _;exact Tr.gc (l := [0,1,3,4,5,8]) (m:=7) (cu _) rfl h
theorem aEY {i start:Nat} (h1:start<=i) (h2:i<=1000000):i64.wrap (i64.wrap ((i:Int)-(start:Int))+1)=((i-start+1:Nat):Int):=by rw[wrap64 (n:=(i:Int)-start) (by omega) (by omega),wrap64 (by omega) (by omega)]; omega
theorem aY8 (ho:1<=out l) (hrc:NG rc) {full:bTB} {L:bTA} {c1 c2 c3:Int} {i line start:Nat} {Q:AX->ASt->AX->Prop} (hf:full.length<=1000000) (hi:i=full.length) (hs:start<=i) (hL:L.length+1<=bC)
 (h:∀ Z,Z.h.take 4 = [some [.sl true 5 (L ++ [bD ⟨4,[],0,(line:Int),((i-start+1:Nat):Int)⟩])],some [.int .i64 c1],some [.int .i64 c2],some [.int .i64 c3]]->Q .ret Z .normal) :
 Tr (jC l rc out) Og Q .normal ⟨sl5 l (bs full) [(8,mG)],lQ L c1 c2 c3 (line:Int) (start:Int) (i:Int)⟩:=by
 rw[aM0];refine Tr.seq ?_;rw[aLV];refine Tr.seq (pc (ax := .normal) ho (fun K=>aPG l K (bs full) L c1 c2 c3 line start i) ?_);show Tr (jC l rc out) ZP _ .normal _;rw[show ((i:Int)==((bs full).size:Int))=true by rw[jy,hi]; simp,aLU];refine Tr.cond (b:=true) rfl (fun _ => ?_) (fun h=>by cases h);rw[bEC];refine Tr.seq ?_;rw[bEA];refine Tr.gc (l := [0,1,3,4,5,8]) (m:=7) (cu _) rfl ?_;refine Tr.yield (a2O ho) bE9 bE5 bE6 bE7 bE8 hrc.par (by decide) (show 14<27 by decide) ?_ ?_ hrc.tm (by show oI rc.assign=true; rw[hrc.X7]; exact aQU) (by show oI rc.body=true; rw[hrc.XJ]; exact aQV) ?_;grind [jC]
 .simp[jI,jC]
 .refine Cm (fun Z1 hZ => ?_) _ (a05 (Zt:=⟨sl5 l (bs full) [(8,mG),(42,.func (.yield l) [] []),(43,mG),(44,.agg [.int .i64 4,.str ⟨#[]⟩,.int .i64 0,.int .i64 0,.int .i64 0]),(45,.agg [.int .i64 4,.str ⟨#[]⟩,.int .i64 0,.int .i64 (line:Int),.int .i64 ((i-start+1:Nat):Int)])],lQ L c1 c2 c3 line start i⟩) fun K => ?_)
  .subst hZ;have hr:=bLX L c1 c2 c3 line start i 4 ⟨#[]⟩ 0 line ((i-start+1:Nat):Int) 0 hL;refine ⟨.agg [.int .i64 4,.str ⟨#[]⟩,.int .i64 0,.int .i64 (line:Int),.int .i64 ((i-start+1:Nat):Int)],.int .i64 0,fun ax Z'=>if (0:Int)=0 then ax = .normal/\Z'=aAV L c1 c2 c3 line start i 4 ⟨#[]⟩ 0 line ((i-start+1:Nat):Int) 0 else ax = .ret/\Z'=aAT L c1 c2 c3 line start i 4 ⟨#[]⟩ 0 line ((i-start+1:Nat):Int) 0,rfl,rfl,rfl,cu _,?_,?_⟩
   .show dD lH 7 rc.assign (D8 (dD lH 7 rc.body _) fun _ _=>False) _;rw[hrc.X7,hrc.XJ];exact hr
   .intro ax Z' hq;rw[aS rfl] at hq;obtain ⟨rfl,rfl⟩:=hq;refine ⟨rfl,?_⟩;show Tr (jC l rc out) a6K _ .normal _;rw[bEB];exact Tr.ret (h _ rfl)
  .refine Eq.trans (b:=jf aPH false (opsOf a07) (((opsOf a07).toList.drop 0).take 4) K ⟨sl5 l (bs full) [(8,mG)],lQ L c1 c2 c3 line start i⟩) rfl ?_;refine (bIL l (fun _=>K) (bs full) L c1 c2 c3 line start i).trans ?_;unfold zq;rw[aI1,aEY hs (by omega)];rfl
end
abbrev h6 (t:Tok):bTA := [.int .i64 t.kind,.str (bs t.text),.int .i64 t.value,.int .i64 t.line,.int .i64 t.uM]
theorem bKI (l:Nat) (K:AX->ASt->R) (full:bTB) (L:bTA) (c1 c2 c3 line start:Int) (i:Nat) (h:i<full.length) (hf:full.length<=1000000) :
 bG AL aLW K ⟨sl5 l (bs full) [(8,mG),(9,.func (.func (PX full[i])) [] [])],lQ L c1 c2 c3 line start (i:Int)⟩ =
  K .normal ⟨sl5 l (bs full) [(8,mG),(9,.func (.func (PX full[i])) [] []),(12,.ptr 7 0),(13,.int .i64 (bW (full.drop i)).2),(62,rd (bW (full.drop i))),(63,.func (.func (PX full[i])) [] []),(64,.str (bs full)),(65,.int .i64 (i:Int)),(66,.str (bs (full.drop i))),(67,rd (bW (full.drop i))),(68,bD (bW (full.drop i)).1),(69,.int .i64 (bW (full.drop i)).2)],
   lQ L c1 c2 c3 line start (i:Int) ++ [some (h6 (bW (full.drop i)).1)]⟩:=by
 have e:full.drop i=full[i]::full.drop (i+1):=CG h;have hc:(decide (0<=(i:Int))&&decide ((i:Int)<=((bs full).size:Int)))=true:=by rw[jy]; simp; omega
 have hl:(full.drop i).length<=1000000:=by simp; omega
 unfold PX;cases hd:gy full[i].toNat with
 | true =>
  have hr:bW (full.drop i)=BR (full.drop i):=by rw[e]; simp[bW,hd]
  refine (bJ4 l K (bs full) L c1 c2 c3 line start i).trans ?_;rw[au hc,oM,XM,pq (c81 _ hl),hr];rfl
 | false =>
  cases hw:isLet full[i].toNat with
  | true =>
   have hr:bW (full.drop i)=C9 (full.drop i):=by rw[e]; simp[bW,hd,hw]
   refine (bI' l K (bs full) L c1 c2 c3 line start i).trans ?_;rw[au hc,oM,XM,pq (c79 _ hl),hr];rfl
  | false =>
   have hr:bW (full.drop i)=EI (full.drop i):=by rw[e]; simp[bW,hd,hw]
   refine (bIV l K (bs full) L c1 c2 c3 line start i).trans ?_;rw[au hc,oM,XM,pq (c61 _),hr];rfl
theorem bK1 (l:Nat) (K:ASt->R) (s:ByteArray) (tk VK:PV) (h:aG):jf AL false (opsOf xB) (((opsOf xB).toList.drop 6).take 5) K ⟨sl5 l s [(8,mG),(12,.ptr 7 0),(13,.int .i64 0),(70,.func (.yield l) [] []),(71,mG),(72,tk),(73,VK),(74,.int .i64 0),(75,.bool true)],h⟩=K ⟨sl5 l s [(8,mG),(12,.ptr 7 0),(13,.int .i64 0),(70,.func (.yield l) [] []),(71,mG),(72,tk),(73,VK),(74,.int .i64 0),(75,.bool true),(76,.bool false),(77,.bool false),(78,.int .i64 0),(79,.bool false),(80,.bool false)],h⟩:=by kernel_rfl
theorem bK0 (l:Nat) (K:ASt->R) (s:ByteArray) (e:Int) (tk VK:PV) (h:aG):jf AL false (opsOf xB) (((opsOf xB).toList.drop 6).take 5) K ⟨sl5 l s [(8,mG),(12,.ptr 7 0),(13,.int .i64 e),(70,.func (.yield l) [] []),(71,mG),(72,tk),(73,VK),(74,.int .i64 e),(75,.bool false)],h⟩=K ⟨sl5 l s [(8,mG),(12,.ptr 7 0),(13,.int .i64 e),(70,.func (.yield l) [] []),(71,mG),(72,tk),(73,VK),(74,.int .i64 e),(75,.bool false),(76,.bool true),(77,.bool true),(78,.tuple []),(79,.tuple []),(80,.bool true)],h⟩:=by kernel_rfl
section
variable {l:Nat} {rc:Loop} {out:Nat->Nat}
theorem aSO (ho:1<=out l) (hrc:NG rc) {full:bTB} {L:bTA} {c1 c2 c3:Int} {i line start:Nat} {Q:AX->ASt->AX->Prop} (hf:full.length<=1000000) (hi:i<full.length) (hs:start<=i) (hL:L.length+1<=bC)
 (h0:(bW (full.drop i)).2=0->∀ Z,DR [0,1,3,4,5] 7 Z=true->Z.gc [0,1,3,4,5] 7=⟨sl5 l (bs full) [],lQ (L ++ [bD ((bW (full.drop i)).1.at (line:Int) ((i-start+1:Nat):Int))]) c1 c2 c3 line start (i64.wrap ((i:Int)+((bW (full.drop i)).1.text.length:Int)))⟩->Q (.exit 1) Z .normal)
 (h1:(bW (full.drop i)).2≠0->∀ Z,Z.h.take 4 = [some [.sl true 0 []],some [.int .i64 (line:Int)],some [.int .i64 ((i-start+1:Nat):Int)],some [.int .i64 (bW (full.drop i)).2]]->Q .ret Z .ret) :
 Tr (jC l rc out) Og Q .normal ⟨sl5 l (bs full) [(8,mG)],lQ L c1 c2 c3 (line:Int) (start:Int) (i:Int)⟩:=by
 rw[aM0];refine Tr.seq ?_;rw[aLV];refine Tr.seq (pc (ax := .normal) ho (fun K=>aPG l K (bs full) L c1 c2 c3 line start i) ?_);show Tr (jC l rc out) ZP _ .normal _;rw[show ((i:Int)==((bs full).size:Int))=false by rw[jy,pX]; omega,aLU];refine Tr.cond (b:=false) rfl (fun h=>by cases h) (fun _ => ?_);rw[bED];refine Tr.skip ?_;show Tr (jC l rc out) ZR Q .normal _;refine Tr.gc (l := [0,1,3,4,5,8]) (m:=7) (cu _) rfl ?_;show Tr (jC l rc out) ZR Q .normal ⟨sl5 l (bs full) [(8,mG)],lQ L c1 c2 c3 (line:Int) (start:Int) (i:Int)⟩;rw[bEV];refine Tr.seq (pc (ax := .normal) ho (fun K=>bIQ l K (bs full) L c1 c2 c3 line start i) ?_);show Tr (jC l rc out) a6L Q .normal _;rw[bEU];refine Tr.seq (pc (ax := .normal) ho (fun K=>bLC l K full L c1 c2 c3 line start i hi) ?_);show Tr (jC l rc out) a6M Q .normal _;refine Tr.gc (l := [0,1,3,4,5,8,9]) (m:=7) (cu _) rfl ?_;rw[bET];refine Tr.seq (pc (ax := .normal) ho (fun K=>bKI l K full L c1 c2 c3 line start i hi hf) ?_);generalize bW (full.drop i)=te at *;obtain ⟨⟨tk,tt,tv,tl,tc⟩,e⟩:=te;show Tr (jC l rc out) a6N Q .normal _;refine Tr.gc (l := [0,1,3,4,5,8,12,13]) (m:=8) (show 7<=8 by decide) rfl ?_;rw[bES];refine Tr.seq ?_;rw[bEO];refine Tr.seq ?_;rw[bEL];refine Tr.yield (a2O ho) bEK bEG bEH bEI bEJ hrc.par (by decide) (show 14<27 by decide) ?_ ?_ hrc.tm (by show oI rc.assign=true; rw[hrc.X7]; exact aQU) (by show oI rc.body=true; rw[hrc.XJ]; exact aQV) ?_;grind [jC]
 .simp[jI,jC]
 .refine Cm (fun Z1 hZ => ?_) _ (a05 (Zt:=⟨sl5 l (bs full) [(8,mG),(12,.ptr 7 0),(13,.int .i64 e),(70,.func (.yield l) [] []),(71,mG),(72,bD ⟨tk,tt,tv,tl,tc⟩),(73,bD ⟨tk,tt,tv,(line:Int),((i-start+1:Nat):Int)⟩),(74,.int .i64 e)],lQ L c1 c2 c3 line start i ++ [some (h6 ⟨tk,tt,tv,tl,tc⟩)]⟩) fun K => ?_)
  .subst hZ;have hr:=bLY L c1 c2 c3 line start i tk (bs tt) tv tl tc tk (bs tt) tv line ((i-start+1:Nat):Int) e hL;refine ⟨bD ⟨tk,tt,tv,(line:Int),((i-start+1:Nat):Int)⟩,.int .i64 e,fun ax Z'=>if e=0 then ax = .normal/\Z'=aAW L c1 c2 c3 line start i tk (bs tt) tv tl tc tk (bs tt) tv line ((i-start+1:Nat):Int) e else ax = .ret/\Z'=aAU L c1 c2 c3 line start i tk (bs tt) tv tl tc tk (bs tt) tv line ((i-start+1:Nat):Int) e,rfl,rfl,rfl,show 7<=8 by decide,?_,?_⟩
   .show dD lH 8 rc.assign (D8 (dD lH 8 rc.body _) fun _ _=>False) _;rw[hrc.X7,hrc.XJ];exact hr
   .intro ax Z' hq;by_cases he:e=0
    .rw[aS he] at hq;obtain ⟨rfl,rfl⟩:=hq;subst he;refine ⟨rfl,?_⟩;show lD Ko (opsOf xB) (((opsOf xB).toList.drop 6).take 5) _ _;refine Cm (fun Z3 hZ3 => ?_) _ (a05 fun K=>bK1 l K (bs full) _ _ _);subst hZ3;show Tr (jC l rc out) ZU _ .normal _;rw[aL'];refine Tr.cond (b:=false) rfl (fun h=>by cases h) (fun _ => ?_);rw[bEN];refine Tr.skip ?_;show Tr (jC l rc out) a6P Q .normal _;refine Tr.gc (l := [0,1,3,4,5,12]) (m:=8) (show 7<=8 by decide) rfl ?_;rw[bER];refine Tr.seq (pc (ax := .normal) ho (fun K=>bJC l K (bs full) (L ++ [bD ⟨tk,tt,tv,(line:Int),((i-start+1:Nat):Int)⟩]) c1 c2 c3 line start i tk (bs tt) tv tl tc) ?_);show Tr (jC l rc out) a6Q Q .normal _;rw[bEQ];refine Tr.exit (h0 rfl _ rfl ?_);rw[jy];rfl
    .rw[aQ he] at hq;obtain ⟨rfl,rfl⟩:=hq;refine ⟨rfl,?_⟩;show lD Ko (opsOf xB) (((opsOf xB).toList.drop 6).take 5) _ _;refine Cm (fun Z3 hZ3 => ?_) _ (a05 fun K=>bK0 l K (bs full) e _ _ _);subst hZ3;show Tr (jC l rc out) ZU _ .ret _;rw[aL'];refine Tr.cond (b:=true) rfl (fun _ => ?_) (fun h=>by cases h);rw[bEM];exact Tr.ret (h1 he _ rfl)
  .refine Eq.trans (b:=jf aPI false (opsOf a08) (((opsOf a08).toList.drop 0).take 5) K ⟨sl5 l (bs full) [(8,mG),(12,.ptr 7 0),(13,.int .i64 e)],lQ L c1 c2 c3 line start i ++ [some (h6 ⟨tk,tt,tv,tl,tc⟩)]⟩) rfl ?_;refine (bJ7 l (fun _=>K) (bs full) e L c1 c2 c3 line start i tk (bs tt) tv tl tc).trans ?_;unfold zq;rw[aI1,aEY hs (by omega)];rfl
end
def s:Code:=Code.sub [] vY
def s0:Code:=Code.sub [false] vY
def s1:Code:=Code.sub [true] vY
def s10:Code:=Code.sub [true,false] vY
def s11:Code:=Code.sub [true,true] vY
def aQO:Code:=Code.sub [true,true,false] vY
def aAN:Code:=Code.sub [true,true,false,false] vY
def aAO:Code:=Code.sub [true,true,false,true] vY
def aQP:Code:=Code.sub [true,true,false,true,false] vY
theorem bLL:aQP = .rangeFunc (.tmp 12) #[13,14] EF AQ:=by kernel_rfl
theorem bLM:aAO = .block 0 aQP:=by kernel_rfl
theorem bLN:aQO = .seq aAN aAO:=by kernel_rfl
def aAP:Code:=Code.sub [true,true,true] vY
def aQQ:Code:=Code.sub [true,true,true,false] vY
def aAQ:Code:=Code.sub [true,true,true,true] vY
theorem bLP:aAQ = .ret:=by kernel_rfl
theorem bLQ:aAP = .seq aQQ aAQ:=by kernel_rfl
theorem bLR:s11 = .seq aQO aAP:=by kernel_rfl
theorem bLS:s1 = .seq s10 s11:=by kernel_rfl
theorem bLU:s = .seq s0 s1:=by kernel_rfl
def s_E:AE:=SS.ae 99 27
def LM:XE:=SS.xe SS.CC SS.LL s_E 0
abbrev Ik (s:ByteArray) (t:fD):fD:=(0,.str s)::(2,.ptr 0 0)::(3,.ptr 1 0)::(4,.ptr 2 0)::(5,.ptr 3 0)::t
abbrev rC (o:Bool) (z:Nat) (L:bTA) (a b c:Int):aG := [some [.sl o z L],some [.int .i64 a],some [.int .i64 b],some [.int .i64 c]]
theorem c31 (s:ByteArray):SS.CC 195 [.str s] []=some (.func (.func 249) [] [.cst (.str s)],[]):=(sZ dO rfl).trans (by kernel_rfl)
theorem bLJ (K:AX->ASt->R) (s:ByteArray):bG LM s0 K ⟨[(0,.str s)],[]⟩=K .normal ⟨Ik s [],rC true 0 [] 0 0 0⟩:=by kernel_rfl
theorem aQN (K:AX->ASt->R) (s:ByteArray):bG LM s10 K ⟨Ik s [],rC true 0 [] 0 0 0⟩=aA (decide ((65536:Int)<(s.size:Int))) (K .ret ⟨Ik s [],rC true 0 [] 1 1 15⟩) (K .normal ⟨Ik s [(8,.str s),(9,.int .i64 (s.size:Int)),(10,.bool false)],rC true 5 [] 0 0 0⟩):=by kernel_rfl
theorem bLK (K:AX->ASt->R) (s:ByteArray):bG LM aAN K ⟨Ik s [],rC true 5 [] 0 0 0⟩=K .normal ⟨Ik s [(11,.str s),(12,.func (.func 249) [] [.cst (.str s)])],rC true 5 [] 0 0 0⟩:=by
 have:bG LM aAN K ⟨Ik s [],rC true 5 [] 0 0 0⟩=jJ SS.CC 195 [.str s] fun r=>SS.W 31 [] r [] fun r' _=>(match PV.flat r' with | true=>K .normal ⟨Ik s [(11,.str s),(12,r')],rC true 5 [] 0 0 0⟩ | false=>none):=by kernel_rfl
 refine this.trans ((pq (c31 s)).trans ?_);kernel_rfl
theorem bLO (K:AX->ASt->R) (L:bTA):bG LM aQQ K ⟨[(2,.ptr 0 0),(3,.ptr 1 0),(4,.ptr 2 0),(5,.ptr 3 0)],rC true 5 L 0 0 0⟩=K .normal ⟨[(2,.ptr 0 0),(3,.ptr 1 0),(4,.ptr 2 0),(5,.ptr 3 0),(26,.sl false 5 L)],rC false 5 L 0 0 0⟩:=by kernel_rfl
def NF (c1 c2 c3:Int) (r:Gs):AX->ASt->AX->Prop:=fun ax Z j=>ax = .ret/\match r with
 | .ok ts=>j = .normal/\Z.h.take 4=rC true 5 (ts.map bD) c1 c2 c3
 | .err a b e=>j = .ret/\Z.h.take 4=rC true 0 [] a b e
section
variable {l:Nat} {rc:Loop} {out:Nat->Nat}
theorem walk (ho:1<=out l) (hrc:NG rc) (full:bTB) (c1 c2 c3:Int) (hf:full.length<=1000000) (r0:Gs):∀ (f i line start:Nat) (acc:List Tok),(full.drop i).length<f->i<=full.length->line<=i+1->start<=i->acc.length<=i->vg f (full.drop i) i line start acc=r0 ->
 ∃ k,Qv (jC l rc out) KE (NF c1 c2 c3 r0) k .normal ⟨sl5 l (bs full) [],lQ (acc.map bD) c1 c2 c3 line start i⟩:=by
 intro f;induction f with
 | zero=>omega
 | succ f ih =>
  intro i line start acc hlen hi hl hs ha hr;obtain ⟨g,hg⟩:∃ g,iH false (full.drop i)=g:=⟨_,rfl⟩;have hgl:=Pn false (full.drop i);rw[hg,xY] at hgl;obtain ⟨p,hp⟩:∃ p,uU ((full.drop i).take g) i (line,start)=p:=⟨_,rfl⟩;have hnl:=a8H ((full.drop i).take g) i (line,start) hs;have htl:((full.drop i).take g).length=g:=by simp; omega
  rw[hp,htl] at hnl;simp only at hnl;rw[vg] at hr;simp only[hg,hp,QO] at hr;by_cases he:i+g=full.length
  .rw[GN (by omega)] at hr;simp only at hr;refine ⟨1,?_⟩;show Tr (jC l rc out) KE _ .normal _;rw[a6R];refine Tr.block (a9A ho hf hi hl hg ?_);rw[hp];refine aY8 ho hrc hf he (by omega) (by simp[bC]; omega) fun Z hZ => ?_
   show NF c1 c2 c3 r0 .ret Z .normal;subst hr;refine ⟨rfl,rfl,?_⟩;rw[hZ]; simp
  .have hlt:i+g<full.length:=by omega
   have hd:full.drop (i+g)=full[i+g]::full.drop (i+g+1):=CG hlt;rw[hd] at hr;simp only at hr;rw[<- hd] at hr;by_cases h0:(bW (full.drop (i+g))).2=0
   .rw[aS h0,QO] at hr;have hrl:=Uu (b:=full[i+g]) (r:=full.drop (i+g+1)) (by rw[<- hd]; exact h0);rw[<- hd,xY] at hrl;simp only[xY] at hlen;obtain ⟨k,hk⟩:=ih (i+g+(bW (full.drop (i+g))).1.text.length) p.1 p.2 _ (by simp; omega) (by omega) (by omega) (by omega) (by simp; omega) hr;refine ⟨k+1,?_⟩;show Tr (jC l rc out) KE _ .normal _;rw[a6R];refine Tr.block (a9A ho hf hi hl hg ?_);rw[hp];refine aSO ho hrc hf hlt (by omega) (by simp[bC]; omega) (fun _ Z hgc hZ => ?_) (fun h=>absurd h0 h);show Qv (jC l rc out) KE (NF c1 c2 c3 r0) k .normal Z;have hZ':Z.gc [0,1,3,4,5] 7=⟨sl5 l (bs full) [],lQ ((acc ++ [(bW (full.drop (i+g))).1.at (p.1:Nat) ((i+g-p.2+1:Nat):Int)]).map bD) c1 c2 c3 (p.1:Nat) (p.2:Nat) ((i+g+(bW (full.drop (i+g))).1.text.length:Nat):Int)⟩:=by rw[hZ,show i64.wrap (((i+g:Nat):Int)+((bW (full.drop (i+g))).1.text.length:Int))=((i+g+(bW (full.drop (i+g))).1.text.length:Nat):Int) by rw[wrap64 (by omega) (by omega)]; omega];simp
    cases k with
    | zero=>exact hk.elim
    | succ k =>exact Tr.gc (l := [0,1,3,4,5]) (m:=7) (cu _) hgc (by rw[hZ']; exact hk)
   .rw[aQ h0] at hr;refine ⟨1,?_⟩;show Tr (jC l rc out) KE _ .normal _;rw[a6R];refine Tr.block (a9A ho hf hi hl hg ?_);rw[hp];refine aSO ho hrc hf hlt (by omega) (by simp[bC]; omega) (fun h=>absurd h h0) (fun _ Z hZ => ?_);show NF c1 c2 c3 r0 .ret Z .ret;subst hr;exact ⟨rfl,rfl,hZ⟩
theorem iter (ho:1<=out l) (hrc:NG rc) (full:bTB) (hf:full.length<=1000000) :
 Tr (jC l rc out) iD (NF 0 0 0 (vg (full.length+1) full 0 1 0 [])) .normal ⟨[(0,.func (.yield l) [] []),(1,.cst (.str (bs full)))],rC true 5 [] 0 0 0⟩:=by
 have e:iD=k:=by kernel_rfl
 rw[e,bF3];refine Tr.scope ?_;rw[bF2];refine Tr.seq (pc (ax := .normal) (Zt:=⟨sl5 l (bs full) [],lQ [] 0 0 0 1 0 0⟩) ho (fun K=>by kernel_rfl) ?_);show Tr (jC l rc out) k01 _ .normal _;rw[bF1];refine Tr.seq ?_;rw[bD'];refine Tr.label ?_;show Tr (jC l rc out) a6H _ .normal _;rw[bF0];refine Tr.block ?_;rw[bE'];obtain ⟨k,hk⟩:=walk ho hrc full 0 0 0 hf (vg (full.length+1) full 0 1 0 []) (full.length+1) 0 1 0 [] (by simp) (by omega) (by omega) (by omega) (by simp) rfl;refine Tr.mono (Tr.loop hk) fun ax Z j hq => ?_
 obtain ⟨rfl,hq⟩:=hq;exact ⟨rfl,hq⟩
end
def Fa:Gs->PV
 | .ok ts => .tuple [.sl false 5 (ts.map bD),.int .i64 0,.int .i64 0,.int .i64 0]
 | .err a b e => .tuple [.sl false 5 [],.int .i64 a,.int .i64 b,.int .i64 e]
def uC (l:bTB):Gs:=if 65536<l.length then .err 1 1 15 else vg (l.length+1) l 0 1 0 []
theorem aw {c:Code} {Z Zt:ASt} {ax:AX} (h:∀ K,bG LM c K Z=K ax Zt) {n:Nat} {out:Nat->Nat} {M:Mem} {B:aN} {a:Act} {w:World} (hI:Inv 27 M B out Z a.tmps w) :
 c.wpIn Fence.wide n Tryz.prog (fun e a' w'=>e=ax.toExit/\a'.defers=a.defers/\∃ M' B',bz 27 out 0 M B Z a.tmps w M' B' Zt a'.tmps w') a w:=by
 have h1:=IX (X:=LM) dO.V dO.W (MP BN dO ET) (We BN dO ET rfl) h;refine wpIn_wide.2 (uy (wV (E:=s_E) (m0:=0) (out:=out) BN c hI h1) fun e a' w' hl => ?_);obtain ⟨ax',Z',M',B',rfl,⟨rfl,rfl⟩,hd,hG⟩:=hl;exact ⟨rfl,hd,M',B',hG⟩
theorem a3N {Z0:ASt} {t0:Array Value} {out:Nat->Nat} {M:Mem} {B:aN} {w:World} (hheap:qH M B w []) (hfp:∀ b,fp B Z0 t0 w b=aP w [] B b) {M':Mem} {B':aN} {s:fD} {h:aG} {a':Act} {w':World} {o:Bool} {z:Nat} {L:bTA} {a b c:Int}
 (hG:bz 27 out 0 M B Z0 t0 w M' B' ⟨s,h⟩ a'.tmps w') (h2:bT 2 s=some (.ptr 0 0)) (h3:bT 3 s=some (.ptr 1 0)) (h4:bT 4 s=some (.ptr 2 0)) (h5:bT 5 s=some (.ptr 3 0)) (hh:h.take 4=rC o z L a b c) {r:PV} (hr:wu (SS.iF 99).ro (.tuple [.sl false z L,.int .i64 a,.int .i64 b,.int .i64 c])=r) :
 ∃ v,(results Tryz.f99 a'.tmps).run Tryz.prog w' = .ok v w'/\∃ M' B',Post [] B out M w r [] v M' B' w':=by
 have hh0:h[0]? = some (some [.sl o z L]):=by have:=congrArg (fun l=>l[0]?) hh; grind
 have hh1:h[1]? = some (some [.int .i64 a]):=by have:=congrArg (fun l=>l[1]?) hh; grind
 have hh2:h[2]? = some (some [.int .i64 b]):=by have:=congrArg (fun l=>l[2]?) hh; grind
 have hh3:h[3]? = some (some [.int .i64 c]):=by have:=congrArg (fun l=>l[3]?) hh; grind
 have hres:Tryz.f99.results.toList = [.cell 2 130,.cell 3 3,.cell 4 3,.cell 5 31]:=by kernel_rfl
 have hret:LD Tryz.prog Tryz.f99.results.toList ([]:aG).length (.tuple [.sl false z L,.int .i64 a,.int .i64 b,.int .i64 c]) [] ⟨s,h⟩:=by
  refine ⟨cu _,rfl,rfl,rfl,?_⟩;rw[hres];have t24:ti Tryz.prog 130=some ⟨1,24,false,[.sl true 0 []]⟩:=by kernel_rfl
  have t3:ti Tryz.prog 3=some ⟨1,8,false,[.int .i64 0]⟩:=by kernel_rfl
  have t25:ti Tryz.prog 31=some ⟨1,8,false,[.int .i64 0]⟩:=by kernel_rfl
  simp_all
 obtain ⟨v,h6,h7⟩:=bK2 hheap hfp hG hret (SS.iF 99).ro;rw[hr] at h7;grind
abbrev R12 (out:Nat->Nat) (M:Mem) (B:aN) (w:World) (r:PV):Ending->World->Prop:=fun e w'=>∃ v M' B',e = .returned v/\Post [] B out M w r [] v M' B' w'
def sI (l:Nat) (s:ByteArray):fD := [(0,.func (.yield l) [] []),(1,.cst (.str s))]
theorem bDN {l:Nat} {rc:Loop} {out:Nat->Nat} (ho:1<=out l) (hrc:NG rc) (full:bTB) (hf:full.length<=1000000) {n:Nat} {M:Mem} {B:aN} {vals:Array Value} {w:World}
 (hI:Inv 86 M B out ⟨sI l (bs full),rC true 5 [] 0 0 0⟩ (vals ++ Array.replicate (86-vals.size) undef) w) (hr:w.heap[l]? = some (.loop (zV rc .normal))) (hO:Qp (jC l rc out).sO 27 7 rc.tmps M B) {R:Ending->World->Prop}
 (hR:∀ Z' j M' B' t' w',NF 0 0 0 (vg (full.length+1) full 0 1 0 []) .ret Z' j->qV l 86 out 7 M B ⟨sI l (bs full),rC true 5 [] 0 0 0⟩ (vals ++ Array.replicate (86-vals.size) undef) w M' B' Z' t' w'->w'.heap[l]? = some (.loop (zV rc j))->R (.returned (.tuple #[])) w') :
 CallsIn Fence.wide n Tryz.prog 249 vals w R:=by
 have bCY:Tryz.prog.funcs[249]? = some Tryz.f249:=by kernel_rfl
 have bCU:Tryz.f249.body=some iD:=by kernel_rfl
 have hn:Tryz.f249.ntmps=86:=by kernel_rfl
 have hres:Tryz.f249.results = #[]:=by kernel_rfl
 refine callsIn_of_wp bCY bCU trivial ?_;rw[hn];refine uJ (iter ho hrc full hf n M B { tmps:=vals ++ Array.replicate (86-vals.size) undef,defers := [] } w hI hr hO) fun e a' w' hl => ?_
 obtain ⟨ax,Z',j,M',B',rfl,hq,hd,hG,hr'⟩:=hl;obtain ⟨rfl,hq'⟩:=hq;exact ⟨hd,_,results_none hres _ _ _,hR Z' j M' B' _ w' ⟨rfl,hq'⟩ hG hr'⟩
theorem aYK (full:bTB):Ev Tryz.prog 99 [.str (bs full)] [] (Fa (uC full)) []:=by
 refine ⟨by kernel_rfl,fun out M B w vals hmem hheap hcnt hnew hv => ?_⟩;have bCX:Tryz.prog.funcs[99]? = some Tryz.f99:=by kernel_rfl
 have bCT:Tryz.f99.body=some vY:=by kernel_rfl
 have hn:Tryz.f99.ntmps=27:=by kernel_rfl
 have hI0:=aRU (n:=27) (args := [.str (bs full)]) (show 1<=27 by decide) hmem hheap hcnt hnew hv;have hfp:=fun b=>aRJ (B:=B) (args := [.str (bs full)]) (h := []) (vals ++ Array.replicate (27-vals.size) undef) w b
 refine callsIn_wide.1 (callsIn_of_wp_marks (n:=0) (R:=R12 out M B w (Fa (uC full))) bCX bCT trivial ?_);rw[hn];have e:vY=s:=by kernel_rfl
 rw[e,bLU];refine MM (uJ (aw (fun K=>bLJ K (bs full)) (a := { tmps:=vals ++ Array.replicate (27-vals.size) undef,defers := [] }) hI0) ?_);rintro e1 a1 w1 ⟨rfl,hd1,M1,B1,hG1⟩;show s1.wpIn Fence.wide 0 Tryz.prog _ a1 w1;rw[bLS];by_cases hbig:65536<full.length
 .have hT:uC full = .err 1 1 15:=aS hbig;refine MM (uJ (aw (ax := .ret) (fun K=>by rw[aQN,aO (by rw[jy]; omega),aH]) hG1.inv) ?_);rintro e2 a2 w2 ⟨rfl,hd2,M2,B2,hG2⟩;show LeavesInM Fence.wide 0 Tryz.prog Tryz.f99 a2.tmps _ a2.defers .returning w2;rw[hd2,hd1];obtain ⟨v,h6,M',B',h7⟩:=a3N hheap hfp (hG1.trans hG2) rfl rfl rfl rfl (show _=rC true 0 [] 1 1 15 from rfl) (r:=Fa (uC full)) (by rw[hT]; rfl);exact ⟨v,h6,v,M',B',rfl,h7⟩
 .have hT:uC full=vg (full.length+1) full 0 1 0 []:=aQ hbig;rw[hT];refine MM (uJ (aw (ax := .normal) (fun K=>by rw[aQN,aV (by rw[jy]; omega),aC]) hG1.inv) ?_);rintro e2 a2 w2 ⟨rfl,hd2,M2,B2,hG2⟩;show s11.wpIn Fence.wide 0 Tryz.prog _ a2 w2;have hg3:=Ez (m0:=0) (l := [0,2,3,4,5]) (m:=4) hG2.inv (by decide) rfl;have bCR:=(hG1.trans hG2).trans hg3;rw[bLR];refine MM ?_;rw[bLN];refine MM (uJ (aw (fun K=>bLK K (bs full)) hg3.inv) ?_);rintro e4 a4 w4 ⟨rfl,hd4,M4,B4,hG4⟩;show aAO.wpIn Fence.wide 0 Tryz.prog _ a4 w4;have hGa:=bCR.trans hG4;rw[bLM];refine wpIn_block ?_;rw[bLL];have F5:=hG4.inv;obtain ⟨bQB,bQA,h12,hr1,hr2⟩:=zW.1 (F5.slots 12 (.func (.func 249) [] [.cst (.str (bs full))]) rfl).2.1;rw[dJ] at hr1;obtain ⟨bx,us,hus,hbx,aKR⟩:=bg.1 hr2;rw[dJ] at aKR;subst aKR;have hev:a4.tmps.getD 12 undef = .func (.func 249) #[] #[bx]:=by rw[h12]; congr 1<;>(grind)
  refine wpIn_rangeFunc fun fn hfn => ?_
  obtain ⟨rc,a5'⟩:∃ rc:Loop,rc = { state := .ready,pending:=none,fn,tmps:=a4.tmps,params := #[13,14],assign:=EF,body:=AQ,defers:=w4.heap.size }:=⟨_,rfl⟩;have hrc:NG rc:=by subst a5'; exact ⟨rfl,rfl,rfl,F5.size⟩
  have bD5:zV rc .normal=rc:=by subst a5'; rfl
  obtain ⟨hIe,hfe⟩:=aFA F5 rc;refine ⟨w4.heap.size+1,[{ target := .collected w4.heap.size,args := #[] }],yx w4 rc,{ target := .fn (.func 249) #[bx],args := #[.func (.yield (w4.heap.size+1)) #[] #[]] },yx w4 rc,249,
   #[.func (.yield (w4.heap.size+1)) #[] #[],bx],yx w4 rc,?_,?_,?_,?_,fun h=>absurd h (by decide),?_⟩
  .subst a5'; exact run_enterLoop_outer _ _ _ _ _
  .simp[resolve,go_sem,hev]
  .intro f' hf'; trivial
  .simp[invoke,go_sem]
  .have ho1:1<=BX out w4.heap.size (w4.heap.size+1):=by simp[BX]
   have ZC:1<=BX out w4.heap.size w4.heap.size:=by simp[BX]
   have hIi:=aLA (n':=86) (sr:=sI (w4.heap.size+1) (bs full)) (tr := #[.func (.yield (w4.heap.size+1)) #[] #[],bx] ++ Array.replicate (86-(#[.func (.yield (w4.heap.size+1)) #[] #[],bx]:Array Value).size) undef) hIe (by simp) (by simp[jI,sI]) (fun kp hk=>by
    simp only[sI,jV,yS,yZ] at hk;rcases hk with rfl | rfl
    .exact ⟨show 0<86 by decide,by rw[aV2]; exact zW.2 ⟨#[],#[],rfl,dJ.2 rfl,dJ.2 rfl⟩,rfl⟩
    .exact ⟨show 1<86 by decide,by rw[aV3]; exact hbx,rfl⟩)
   refine bDN (rc:=rc) (by omega) hrc full (by omega) hIi (by rw[bD5]; exact aYA rc) ?_ fun Z' j M' B' t' w' hq hG hr' => ?_
   .intro kp hk;have ht:rc.tmps=a4.tmps:=by simp_all
    rw[ht];simp only[jC,jV,yS,yZ] at hk;rcases hk with rfl | rfl | rfl | rfl
    .exact ⟨by decide,(F5.slots 2 (.ptr 0 0) rfl).2.1,rfl,rfl⟩
    .exact ⟨by decide,(F5.slots 3 (.ptr 1 0) rfl).2.1,rfl,rfl⟩
    .exact ⟨by decide,(F5.slots 4 (.ptr 2 0) rfl).2.1,rfl,rfl⟩
    .exact ⟨by decide,(F5.slots 5 (.ptr 3 0) rfl).2.1,rfl,rfl⟩
   .have a5W:zl 4 (Z'.h.take 4)=true:=by obtain ⟨_,hq⟩:=hq;split at hq<;>(rw[hq.2]; rfl)
    have hback:=aT9 (m0:=4) hIe ho1 (Zr:=⟨sI (w4.heap.size+1) (bs full),rC true 5 [] 0 0 0⟩) rfl (fun kp hk=>by simp only[sI,jV,yS,yZ] at hk;rcases hk with rfl | rfl<;>rfl) rfl (hG.weak (by decide)) a5W;have hend:=run_endLoop (P:=Tryz.prog) hr' (by grind [zV]);have hput:=a9C (m0:=4) hback.inv ho1 hr' { zV rc j with state := .exhausted };have hall:=hback.trans hput;have hDs:w'.heap[w4.heap.size]? = some (.deferred (some [])):=by have:=(hback.blk w4.heap.size (by rw[Xd]; omega) (by omega) (Ry hIe ZC)).1;rw[this]; exact aY9 rc
    have hD:(w'.putObj (w4.heap.size+1) (.loop { zV rc j with state := .exhausted })).heap[w4.heap.size]? = some (.deferred (some [])):=(World.putObj_heap_other (by omega)).trans hDs;refine ⟨_,_,hend,?_⟩;obtain ⟨_,hq⟩:=hq;cases hsc:vg (full.length+1) full 0 1 0 [] with
    | ok ts =>
     rw[hsc] at hq;obtain ⟨rfl,hq⟩:=hq;show aAP.wpIn Fence.wide 0 Tryz.prog _ _ _;rw[hq] at hall;have hg5:=Ez (m0:=0) (l := [2,3,4,5]) (m:=4) hall.inv (by decide) rfl;rw[bLQ];refine MM (uJ (aw (a := { tmps:=a4.tmps,defers := { target := .collected w4.heap.size,args := #[] }::a4.defers }) (fun K=>bLO K (ts.map bD)) hg5.inv) ?_);rintro e6 a6 w6 ⟨rfl,hd6,M6,B6,hG6⟩;show aAQ.wpIn Fence.wide 0 Tryz.prog _ a6 w6;rw[bLP];refine wpIn_ret ?_;show LeavesInM Fence.wide 0 Tryz.prog Tryz.f99 a6.tmps _ a6.defers .returning w6;rw[hd6,hd4,hd2,hd1];have a5U:=hg5.trans hG6;have hD6:w6.heap[w4.heap.size]? = some (.deferred (some [])):=by have hlt:w4.heap.size<(w'.putObj (w4.heap.size+1) (.loop { zV rc .normal with state := .exhausted })).heap.size:=(yQ.1 hD).1;rw[(a5U.fr.blk w4.heap.size hlt (Ry hall.inv ZC)).1]; exact hD
     refine ⟨by simp,.inl ⟨w4.heap.size,_,rfl,run_takeDeferred hD6,?_⟩⟩;have hsh:=aPT (m0:=0) a5U.inv ZC hD6 (.deferred none);have htot:=((hall.weak (show 0<=4 by decide)).trans a5U.gl);have hfin:=hGa.trans (aN2 F5 htot hsh);obtain ⟨v,h6,M',B',h7⟩:=a3N hheap hfp hfin rfl rfl rfl rfl (show _=rC false 5 (ts.map bD) 0 0 0 from rfl) (r:=Fa (.ok ts)) rfl;exact ⟨v,h6,v,M',B',rfl,h7⟩
    | err a b e =>rw[hsc] at hq;obtain ⟨rfl,hq⟩:=hq;refine wpIn_ret ?_;show LeavesInM Fence.wide 0 Tryz.prog Tryz.f99 a4.tmps _ ({ target := .collected w4.heap.size,args := #[] }::a4.defers) .returning _;rw[hd4,hd2,hd1];refine ⟨by simp,.inl ⟨w4.heap.size,_,rfl,run_takeDeferred hD,?_⟩⟩;rw[hq] at hall;have hsh:=aPT (m0:=0) hall.inv ZC hD (.deferred none);have hfin:=hGa.trans (aN2 F5 (hall.weak (show 0<=4 by decide)) hsh);obtain ⟨v,h6,M',B',h7⟩:=a3N hheap hfp hfin rfl rfl rfl rfl (show _=rC true 0 [] a b e from rfl) (r:=Fa (.err a b e)) rfl;exact ⟨v,h6,v,M',B',rfl,h7⟩
end Go.Proofs.YtcdceiloganlnaaGreatDoor
namespace Go.Proofs
open Go.Shelf
shelf_lay Lays.n105 Nm 105 at Tryz as Tryz.lays105
shelf_lay Lays.n144 Nm 144 at Tryz as Tryz.lays144
end Go.Proofs
namespace Go.Proofs.YtcdceiloganlnaaGreatDoor
open Go.RowKit Go.Shelf
theorem Xo {P:Program} {g:FuncId} {args:bTA} {r:PV} {v:Value} (hc:callable P g=true) (hr:∀ M B,Rep M B r v) (ho:r.own=false)
 (h:∀ (M:Mem) (w:World) (vals:Array Value),vW M w->aj M [] args vals.toList->Calls P g vals w fun e w'=>e = .returned v/\Below w.heap.size w w'):Ev P g args [] r []:=by
 refine ⟨hc,fun out M B w vals hmem hheap hcnt hnew hv => ?_⟩;have hB:B = []:=kU (by have:=hheap.1; simp_all);subst hB;refine (h M w vals hmem hv).mono ?_;rintro e w' ⟨rfl,hb⟩;have hz:∀ w b,aP w [] [] b=0:=fun w b=>by simp[aP]
 refine ⟨v,M,[],rfl,fun b o u e => ?_,dG.refl _ _,⟨hb.os,hb.tape,hb.output,hb.size,fun b hlt _=>⟨hb.block b hlt,fun _=>rfl⟩⟩,⟨rfl,fun i cs hi=>by simp at hi⟩,hr M [],fA ho,fun b hb' => ?_,fun b => ?_,fun b hb' => ?_⟩
 .obtain ⟨h1,h2⟩:=hmem b o u e;have:=uw _ _ h1;exact ⟨(JF (hb.block b this)).trans h1,h2⟩
 grind [dC]
 grind [dC]
 .have:=hnew b (mP hb.size hb'); rw[hz] at this; rw[hz,dC ho]; omega
def strsOf:bTA->Option (List ByteArray)
 | []=>some []
 | .str s::l=>(strsOf l).map (s :: ·)
 | _=>none
theorem aS8:∀ {es:bTA} {xs:List ByteArray},strsOf es=some xs->es=xs.map .str
 | [],xs,h=>by grind [strsOf]
 | p::es,xs,h=>by
  unfold strsOf at h;split at h
  .rename_i e; cases e
  .rename_i s l e;injection e with e1 e2; subst e1; subst e2
   cases hl:strsOf es with
   | none=>simp[hl] at h
   | some ys=>simp[hl] at h; subst h; rw[aS8 hl]; rfl
  .cases h
def BF (xs:List ByteArray) (sep:ByteArray):bTB:=Lib.join (xs.map (·.data.toList)) sep.data.toList
theorem a1J {M:Mem} {B:aN} {p q:PV} {vals:Array Value} (hv:aj M B [p,q] vals.toList):∃ u v,vals = #[u,v]/\Rep M B p u/\Rep M B q v:=by obtain ⟨u1,us,e1,r1,hv⟩:=bg.1 hv;obtain ⟨u2,us,rfl,r2,hv⟩:=bg.1 hv;rw[dJ] at hv; grind
theorem aYS (o:Bool) (xs:List ByteArray) (sep:ByteArray) (h1:(BF xs sep).length<=140737488355328) (h2:xs.length<=140737488355328):Ev Tryz.prog 15 [.sl o 1 (xs.map .str),.str sep] [] (.str ⟨(BF xs sep).toArray⟩) []:=by
 refine Xo (v := .string ⟨(BF xs sep).toArray⟩) (by kernel_rfl) (fun _ _=>iG.2 rfl) rfl fun M w vals hmem hv => ?_
 obtain ⟨u,v,rfl,hu,hv⟩:=a1J hv;rw[iG.1 hv];obtain ⟨A,cap,rfl,hle,_,_,hA⟩:=jE.1 hu;rw[aX] at hle ⊢;by_cases hx:xs = []
 .subst hx;refine (bDW A cap sep w).mono ?_;rintro e w' ⟨rfl,rfl⟩;exact ⟨rfl,Below.refl _ _⟩
 .obtain ⟨b,off,rfl,hloc⟩:=hA (by grind);have hcells:∀ (j:Nat) x,xs[j]? = some x->w.cell? ⟨b,off+j,none⟩=some (.string x):=fun j x hj=>by have hl:=Dj hloc (show (xs.map PV.str)[j]? = some (.str x) by rw[kJ,hj]; rfl);obtain ⟨u,hu1,hu2⟩:=(BJ rfl).1 hl;rw[Nat.mul_one] at hu1;rw[iG.1 hu2] at hu1;exact (hmem _ _ _ hu1).1
  have hbk:b<w.heap.size:=by
   match xs,hx with
   | x::r,_=>exact uw _ _ (hcells 0 x rfl)
  exact bDX b off cap xs sep w hcells hbk h2 hle h1
theorem bK3 {h:aG} {B:aN} {out:Nat->Nat} {M:Mem} {w:World} {r:PV} {v:Value} (hmem:vW M w) (hheap:qH M B w h) (hcnt:∀ b,aP w h B b+out b<=1) (hnew:∀ b,w.heap.size<=b->aP w h B b+out b=0)
 (hr:Rep M B r v) (ho:r.own=false):Post h B out M w r h v M B w :=
 ⟨hmem,dG.refl _ _,Fr.refl _ _ _,hheap,hr,fA ho,fun b _=>by rw[dC ho]; omega,fun b=>by rw[dC ho]; exact hcnt b,fun b hb=>by rw[dC ho]; simp_all⟩
theorem aOZ {M:Mem} {B:aN} {w:World} {o:Option (bTA)} (hheap:qH M B w [o]):∃ c,B = [c]:=by
 have:=hheap.1;match B,this with
 | [c],_=>simp
theorem aT3 {M:Mem} {B:aN} {p:PV} {vals:Array Value} (hv:aj M B [p] vals.toList):∃ u,vals = #[u]/\Rep M B p u:=by obtain ⟨u1,us,e1,r1,hv⟩:=bg.1 hv;rw[dJ] at hv; grind
theorem aYQ (l:bTB):Ev Tryz.prog 162 [.ptr 0 0] [some [.cO 119 0,.cZ l]] (.tuple []) [some [.cO 119 0,.cZ l]]:=by
 refine ⟨by kernel_rfl,fun out M B w vals hmem hheap hcnt hnew hv => ?_⟩;obtain ⟨c,rfl⟩:=aOZ hheap;obtain ⟨u,rfl,hu⟩:=aT3 hv;obtain ⟨c',⟨hc',_⟩,rfl⟩:=vZ.1 hu;simp at hc'; subst hc';obtain ⟨c',hc',vs,ty,o1,⟨o2,o2'⟩,o3,o4,o5⟩:=hheap.2 0 _ rfl;simp at hc'; subst hc';obtain ⟨v0,hv0,hr0,_,_⟩:=o4 0 _ rfl;obtain ⟨c2,hc2,hp⟩:=FW.1 hr0;simp at hc2; subst hc2;obtain ⟨hc3,hp⟩:=hp.2 (by decide);have hs2:vs.size=2:=by rw[o2,hc3]
 have ht2:ty=119+1:=by rw[o2',hc3]
 subst ht2;obtain ⟨ty,hty,o1⟩:=EE o1 (by decide);have ht2:ty=119:=by omega
 have hcell:w.cell? ⟨c.1,0,none⟩=some v0:=by simp[World.cell?,o1,hv0]
 rcases hp with rfl | rfl
 .refine (aWZ c.1 w hcell (by grind [World.shape?]) (by simp[World.frozen?,o1])).mono ?_;rintro e w' ⟨rfl,rfl⟩;have hI:Inv 0 M [c] out ⟨lh 0 [],[some [.cO 119 0,.cZ l]]⟩ (#[] ++ Array.replicate (0-0) undef) w:=aRU (vals := #[]) (args := []) (by simp) hmem hheap hcnt hnew (dJ.2 rfl);have hfp:=fun (t:Array Value) (w:World) b=>aRJ (B := [c]) (args := []) (h := [some [.cO 119 0,.cZ l]]) t w b
  obtain ⟨g1,g2,g3,_,_⟩:=hI.setCell (i:=0) (j:=0) (p := .cO 119 0) (v := .pointer (some ⟨c.1,0,none⟩)) rfl rfl (by rw[hc3]; decide) (by simp) (FW.2 ⟨c,rfl,(fun h=>absurd h (by decide)),fun _=>⟨hc3,.inr rfl⟩⟩) (fA rfl) rfl (fun b=>by rw[hfp,dC rfl]; exact hcnt b) (fun b _=>dC rfl _ _);have k1:Inv 0 M [c] out ⟨lh 0 [],[some [.cO 119 0,.cZ l]]⟩ (#[] ++ Array.replicate (0-0) undef) (w.setCell ⟨c.1,0,none⟩ (.pointer (some ⟨c.1,0,none⟩))):=g1;have k2:∀ b,fp [c] ⟨lh 0 [],[some [.cO 119 0,.cZ l]]⟩ (#[] ++ Array.replicate (0-0) undef) (w.setCell ⟨c.1,0,none⟩ (.pointer (some ⟨c.1,0,none⟩))) b<=fp [c] ⟨lh 0 [],[some [.cO 119 0,.cZ l]]⟩ (#[] ++ Array.replicate (0-0) undef) w b+bK (.cO 119 0) (.pointer (some ⟨c.1,0,none⟩)) b:=g2;refine ⟨_,M,[c],rfl,⟨k1.mem,dG.refl _ _,g3.mono fun b hb h0=>by rw[hfp]; exact h0,k1.heap,sQ.2 ⟨_,rfl,dJ.2 rfl⟩,fA rfl,fun b hb => ?_,fun b => ?_,fun b hb => ?_⟩⟩
  .have h:=k2 b;rw[hfp,hfp,dC rfl] at h;rw[dC rfl]; exact h
  .have h:=k1.cnt b;rw[hfp] at h;rw[dC rfl]; exact h
  .have h:=k1.new b hb;rw[hfp] at h;rw[dC rfl]; exact h
 .refine (aX0 c.1 w hcell).mono ?_;rintro e w' ⟨rfl,rfl⟩;exact ⟨_,M,[c],rfl,bK3 hmem hheap hcnt hnew (sQ.2 ⟨_,rfl,dJ.2 rfl⟩) rfl⟩
theorem bN2 {c:Nat×Nat×TypeId} {out:Nat->Nat} {M:Mem} {w w2:World} {l:bTB} {v:Value} {vs:Array Value} (hmem:vW M w) (hheap:qH M [c] w [some [.cO 119 0,.cZ l]]) (hcnt:∀ b,aP w [some [.cO 119 0,.cZ l]] [c] b+out b<=1) (hnew:∀ b,w.heap.size<=b->aP w [some [.cO 119 0,.cZ l]] [c] b+out b=0)
 {ty:TypeId} (hrow:w.heap[c.1]? = some (.cells vs ty (0,0))) (hv:vs[1]? = some v) (h1:∀ x,x<w.heap.size->bK (.cZ l) v x=0->w2.heap[x]? = w.heap[x]?) (h2:∀ b o u,w.cell? ⟨b,o,none⟩=some u->w2.cell? ⟨b,o,none⟩=some u)
 (hos:w2.os=w.os) (htape:w2.tape=w.tape) (hout:w2.output=w.output) (hsize:w.heap.size<=w2.heap.size) :
 Post [some [.cO 119 0,.cZ l]] [c] out M w (.str ⟨l.toArray⟩) [some [.cO 119 0,.sl false 1 (mY l)]] (.string ⟨l.toArray⟩) M [c] w2:=by
 obtain ⟨c',hc',vs',ty',o1,o2,o3,o4,o5⟩:=hheap.2 0 _ rfl;simp at hc'; subst hc';rw[Bg hrow] at o1;injection o1 with o1; injection o1 with e1 e2; subst e1; subst e2
 have hcl:gZ w c.1=vs.toList:=by simp[gZ,Bg hrow]
 have hvl:vs.toList[1]? = some v:=by grind
 have hown:∀ b,(if c.1=b then 1 else 0)+bK (.cZ l) v b<=aP w [some [.cO 119 0,.cZ l]] [c] b:=fun b=>by have g1:=kR (w:=w) (h := [some [.cO 119 0,.cZ l]]) (B := [c]) (i:=0) b rfl rfl;have g2:=xH (cs := [.cO 119 0,.cZ l]) (vs:=vs.toList) (j:=1) b rfl hvl;rw[hcl] at g1; omega
 have hc0:bK (.cZ l) v c.1=0:=by have:=hown c.1; have:=hcnt c.1;rw[aS rfl] at *; omega
 have hlt:c.1<w.heap.size:=(yQ.1 hrow).1;have hrow2:w2.heap[c.1]? = some (.cells vs ty (0,0)):=(h1 c.1 hlt hc0).trans hrow;have hown2:∀ b,aP w2 [some [.cO 119 0,.sl false 1 (mY l)]] [c] b<=if c.1=b then 1 else 0:=fun b=>by
  simp only[aP];have:∀ vl,dQ [.cO 119 0,.sl false 1 (mY l)] vl b=0:=fun vl=>by
   match vl with
   | []=>rfl
   | [x]=>rfl
   | x::y::r=>rfl
  rw[this]; omega
 refine ⟨fun b o u e => ?_,dG.refl _ _,⟨hos,htape,hout,hsize,fun b hb h0=>⟨h1 b hb (by have:=hown b; omega),fun _=>rfl⟩⟩,⟨rfl,fun i cs hi => ?_⟩,iG.2 rfl,fA rfl,fun b hb => ?_,fun b => ?_,fun b hb => ?_⟩
 .obtain ⟨g1,g2⟩:=hmem b o u e;simp_all
 .match i,hi with
  | 0,hi =>
   simp at hi; subst hi;refine ⟨c,rfl,vs,ty+1,Bg hrow2,o2,by omega,fun j p hj => ?_,o5⟩;match j,hj with
   | 0,hj =>simp at hj; subst hj;obtain ⟨u,a1,a2,a3,a4⟩:=o4 0 _ rfl;exact ⟨u,a1,a2,fA rfl,a4⟩
   | 1,hj =>simp at hj; subst hj;obtain ⟨u,a1,a2,a3,a4⟩:=o4 1 _ rfl;exact ⟨u,a1,Uz.2 a2,fA rfl,a4⟩
   | j+2,hj=>simp at hj
  | i+1,hi=>simp at hi
 .rw[dC rfl]; have:=hown2 b; have:=hown b; omega
 .rw[dC rfl]; have:=hown2 b; have:=hown b; have:=hcnt b; omega
 .rw[dC rfl]; have:=hown2 b; have:=hown b; have:=hnew b (mP hsize hb); omega
section
variable {P:Program} {ρ:Ren}
set_option maxHeartbeats 2000000 in
set_option maxRecDepth 100000 in
theorem aB5 (L:Lays.n169 P ρ) (X:Builder.Extra P ρ) (T:TypeId) (b n cap:Nat) (A q:Option Addr) (p:Value) (r:ByteArray) (w w2:World) (hbk:w.heap[b]? = some (.cells #[p,.slice A n cap] T (0,0)))
 (hSD:(Builtin.unsafeSliceData_ #[(ρ.t 37)] (ρ.t 127) #[.slice A n cap]).run P w.drew = .ok (.pointer q) w.drew)
 (hUS:(Builtin.unsafeString_ #[(ρ.t 127),(ρ.t 3)] (ρ.t 9) #[.pointer q,.int .i64 n]).run P w.drew = .ok (.string r) w2) :
 Calls P (ρ.f 169) #[.pointer (some ⟨b,0,none⟩)] w fun e w'=>e = .returned (.string r)/\w'=w2:=by
 have c1:w.drew.cell? ⟨b,1,none⟩=some (.slice A n cap):=by have:w.drew.heap[b]? = some (.cells #[p,.slice A n cap] T (0,0)):=hbk;rw[Lib.cell_of_heap this]; rfl
 have mixed:=L.mixed;have t72:=L.t72; have a72:=L.a72; have z72:=L.z72; have v72:=L.v72; have u72:=eX L.t72;have t70:=L.t70; have a70:=L.a70; have z70:=L.z70; have v70:=L.v70; have u70:=eX L.t70;have t37:=L.t37; have a37:=L.a37; have z37:=L.z37; have v37:=L.v37; have u37:=eX L.t37;have t127:=L.t127; have a127:=L.a127; have z127:=L.z127; have v127:=L.v127; have u127:=eX L.t127;have t3:=L.t3; have a3:=L.a3; have z3:=L.z3; have v3:=L.v3; have u3:=eX L.t3;have t9:=L.t9; have a9:=L.a9; have z9:=L.z9; have v9:=L.v9; have u9:=eX L.t9;have t5:=X.t5; have a5:=X.a5; have z5:=X.z5; have v5:=X.v5; have u5:=eX X.t5;go_enter L.f169,Body.n169_ntmps ρ
 go_wp2
 go_region_o
 all_goals (go_wp2; go_ret; exact ⟨rfl,rfl⟩)
set_option maxHeartbeats 2000000 in
set_option maxRecDepth 100000 in
theorem bN3 (L:Lays.n169 P ρ) (X:Builder.Extra P ρ) (T:TypeId) (b g:Nat) (cur:Array Value) (p:Value) (w:World) (hbk:w.heap[b]? = some (.cells #[p,.slice (some ⟨g,0,none⟩) 0 0] T (0,0))) (hg:w.heap[g]? = some (.cells cur (ρ.t 5) (0,0))) :
 Calls P (ρ.f 169) #[.pointer (some ⟨b,0,none⟩)] w fun e w'=>e = .returned (.string ⟨#[]⟩)/\∃ u:World,u.heap=w.heap/\u.os=w.os/\u.tape=w.tape/\u.output=w.output/\w'=u.alloc (.view ⟨g,0,none⟩ (ρ.t 5)):=by
 have hUS:=Any.unsafeString_none L X;have hlt:b<w.heap.size:=(yQ.1 hbk).1;have c1:w.drew.cell? ⟨b,1,none⟩=some (.slice (some ⟨g,0,none⟩) 0 0):=by have:w.drew.heap[b]? = some (.cells #[p,.slice (some ⟨g,0,none⟩) 0 0] T (0,0)):=hbk;rw[Lib.cell_of_heap this]; rfl
 have hSD:(Builtin.unsafeSliceData_ #[(ρ.t 37)] (ρ.t 127) #[.slice (some ⟨g,0,none⟩) 0 0]).run P w.drew = .ok (.pointer (some ⟨w.drew.heap.size,0,none⟩)) (w.drew.alloc (.view ⟨g,0,none⟩ (ρ.t 5))) :=Lib.run_unsafeSliceData_zero w.drew _ _ (ρ.t 5) L.t127 ⟨g,0,none⟩ 0 ((ρ.t 5),cur.size) (by have hg':w.drew.heap[g]? = some (.cells cur (ρ.t 5) (0,0)):=hg; simp[World.shape?,hg']);have c2:(w.drew.alloc (.view ⟨g,0,none⟩ (ρ.t 5))).cell? ⟨b,1,none⟩=some (.slice (some ⟨g,0,none⟩) 0 0):=by have:(w.drew.alloc (.view ⟨g,0,none⟩ (ρ.t 5))).heap[b]? = _:=(Lib.alloc_old w.drew _ b hlt).trans hbk;rw[Lib.cell_of_heap this]; rfl
 have c3:(w.alloc (.view ⟨g,0,none⟩ (ρ.t 5))).drew.cell? ⟨b,1,none⟩=some (.slice (some ⟨g,0,none⟩) 0 0):=c2;have c0:w.cell? ⟨b,1,none⟩=some (.slice (some ⟨g,0,none⟩) 0 0):=c1;have mixed:=L.mixed;have t72:=L.t72; have a72:=L.a72; have z72:=L.z72; have v72:=L.v72; have u72:=eX L.t72;have t70:=L.t70; have a70:=L.a70; have z70:=L.z70; have v70:=L.v70; have u70:=eX L.t70;have t37:=L.t37; have a37:=L.a37; have z37:=L.z37; have v37:=L.v37; have u37:=eX L.t37;have t127:=L.t127; have a127:=L.a127; have z127:=L.z127; have v127:=L.v127; have u127:=eX L.t127;have t3:=L.t3; have a3:=L.a3; have z3:=L.z3; have v3:=L.v3; have u3:=eX L.t3;have t9:=L.t9; have a9:=L.a9; have z9:=L.z9; have v9:=L.v9; have u9:=eX L.t9;have t5:=X.t5; have a5:=X.a5; have z5:=X.z5; have v5:=X.v5; have u5:=eX X.t5;go_enter L.f169,Body.n169_ntmps ρ
 go_wp2
 go_region_o
 all_goals (go_wp2; go_ret; exact ⟨rfl,w.drew,rfl,rfl,rfl,rfl,rfl⟩)
end
theorem aGE {w:World} {b g n:Nat} (hb:b≠g):(w.drew.freeze ⟨g,0,none⟩ n).heap[b]? = w.heap[b]? := by
 unfold World.freeze;split
 .rfl
 .show (w.heap.modify g _)[b]? = _;rw[Array.getElem?_modify,aQ (Ne.symm hb)]
theorem aZW {w:World} {g n:Nat} {cs:Array Value} {ty:TypeId} (h:w.heap[g]? = some (.cells cs ty (0,0))) (hn:n≠0):(w.drew.freeze ⟨g,0,none⟩ n).heap[g]? = some (.cells cs ty (0,0+n)):=by unfold World.freeze;rw[aQ hn];show (w.heap.modify g _)[g]? = _;rw[Array.getElem?_modify,aS rfl,h];rfl
theorem aYO (l:bTB):Ev Tryz.prog 53 [.ptr 0 0] [some [.cO 119 0,.cZ l]] (.str ⟨l.toArray⟩) [some [.cO 119 0,.sl false 1 (mY l)]]:=by
 refine ⟨by kernel_rfl,fun out M B w vals hmem hheap hcnt hnew hv => ?_⟩;obtain ⟨c,rfl⟩:=aOZ hheap;obtain ⟨u,rfl,hu⟩:=aT3 hv;obtain ⟨c',⟨hc',_⟩,rfl⟩:=vZ.1 hu;simp at hc'; subst hc';obtain ⟨c',hc',vs,ty,o1,⟨o2,o2'⟩,o3,o4,o5⟩:=hheap.2 0 _ rfl;simp at hc'; subst hc';obtain ⟨v0,hv0,hr0,_,_⟩:=o4 0 _ rfl;obtain ⟨c2,hc2,hp⟩:=FW.1 hr0;simp at hc2; subst hc2;obtain ⟨hc3,_⟩:=hp.2 (by decide);obtain ⟨v1,hv1,hr1,ht1,_⟩:=o4 1 _ rfl;have hs2:vs.size=2:=by rw[o2,hc3]
 have ht2:ty=119+1:=by rw[o2',hc3]
 subst ht2;obtain ⟨ty,hty,o1⟩:=EE o1 (by decide);have ht2:ty=119:=by omega
 subst ht2;have hvs:vs = #[v0,v1]:=by grind
 have hrow:w.heap[c.1]? = some (.cells #[v0,v1] 119 (0,0)):=by rw[<- hvs]; exact o1
 obtain ⟨A,cap,rfl,hle,hA⟩:=a0G.1 hr1;obtain ⟨t1,t2⟩:=ht1.t l A _ cap rfl rfl;have hkeep:∀ b o u,w.cell? ⟨b,o,none⟩=some u->w.drew.cell? ⟨b,o,none⟩=some u:=fun _ _ _ h=>h
 have hpost:=fun (w2:World) h1 h2 a1 a2 a3 a4=>bN2 (w2:=w2) hmem hheap hcnt hnew o1 hv1 h1 h2 a1 a2 a3 a4
 cases A with
 | none =>have hc0:=t1 rfl;subst hc0;have hl:l = []:=kU (by omega);subst hl;refine (aB5 Tryz.lays169 JV 119 c.1 0 0 none none v0 ⟨#[]⟩ w w.drew hrow rfl (Any.unsafeString_none Tryz.lays169 JV _ _)).mono ?_;rintro e w' ⟨rfl,rfl⟩;exact ⟨_,M,[c],rfl,hpost w.drew (fun _ _ _=>rfl) hkeep rfl rfl rfl (cu _)⟩
 | some a =>
  obtain ⟨cs,g1,g2,g3,g4,g5,g6⟩:=t2 a rfl;obtain ⟨g,off,sp⟩:=a;simp only at g1 g4 g5 g6;subst g5; subst g6;by_cases hl:l = []
  .subst hl;by_cases hc0:cap=0
   .subst hc0;refine (bN3 Tryz.lays169 JV 119 c.1 g cs v0 w hrow g1).mono ?_;rintro e w' ⟨rfl,x,x1,x2,x3,x4,rfl⟩;have hold:∀ b,b<w.heap.size->(x.alloc (.view ⟨g,0,none⟩ (Tryz.lays169_ren.t 5))).heap[b]? = w.heap[b]? := fun b hb=>by rw[<- x1]; grind [Below.heap_alloc]
    refine ⟨_,M,[c],rfl,hpost _ (fun b hb _=>hold b hb) (fun b o u h => ?_) x2 x3 x4 (by rw[World.size_alloc,x1]; omega)⟩;exact (JF (hold b (uw _ _ h))).trans h
   .refine (aB5 Tryz.lays169 JV 119 c.1 0 cap (some ⟨g,0,none⟩) (some ⟨g,0,none⟩) v0 ⟨#[]⟩ w w.drew hrow (Lib.run_unsafeSliceData_row _ _ _ _ _ _ hc0) (Any.unsafeString_none Tryz.lays169 JV _ _)).mono ?_;rintro e w' ⟨rfl,rfl⟩;exact ⟨_,M,[c],rfl,hpost w.drew (fun _ _ _=>rfl) hkeep rfl rfl rfl (cu _)⟩
  .have hlen:l.length≠0:=fun h=>hl (kU h)
   obtain ⟨b',off',e1,hcells⟩:=hA hl;cases e1;refine (aB5 Tryz.lays169 JV 119 c.1 l.length cap (some ⟨g,0,none⟩) (some ⟨g,0,none⟩) v0 ⟨l.toArray⟩ w (w.drew.freeze ⟨g,0,none⟩ l.length) hrow (Lib.run_unsafeSliceData_row _ _ _ _ _ _ (by omega)) ?_).mono ?_
   .refine Lib.run_unsafeString_row w.drew _ _ _ (Tryz.lays169_ren.t 5) (Lays.n169.t127 Tryz.lays169) (Builder.Extra.cellsByte JV) g cs.size (by have hg':w.drew.heap[g]? = some (.cells cs JW (0,0)):=g1; simp[World.shape?,hg']; rfl) l hl (by omega) (by grind [maxLen]) ?_;intro j x hx;have h:=(hmem g (0+j) _ (hcells j x hx)).1;rw[qU] at h;grind [Addr.add]
   .rintro e w' ⟨rfl,rfl⟩;refine ⟨_,M,[c],rfl,hpost _ (fun b hb h0 => ?_) (fun b o u h => ?_) ?_ ?_ ?_ ?_⟩;grind [bK,PV.own,aGE]
    .by_cases hbg:b=g
     .subst hbg;unfold World.cell? at h ⊢;simp only[aZW g1 hlen];grind
     grind [World.cell?_of_block,aGE]
    .unfold World.freeze; rw[aQ hlen]; rfl
    .unfold World.freeze; rw[aQ hlen]; rfl
    .unfold World.freeze; rw[aQ hlen]; rfl
    .unfold World.freeze; rw[aQ hlen];simp
def Qk:Int:=4611686018427387904
def CS:Cal:=fun g args h=>match g,args,h with
 | 99,[.str s],h=>some (Fa (uC s.data.toList),h)
 | 35,[.int .i64 n],h=>(match decide (0<=n)&&decide (n<Qk) with | true=>some (.str ⟨(Lib.decDigits n.toNat).toArray⟩,h) | false=>none)
 | 293,[.str s,.int .u8 c],h=>some (.int .i64 (Lib.indexByte s.data.toList c.toNat.toUInt8),h)
 | 30,[.str s,.int .i64 n],h=>(match decide (0<=n)&&(Nat.ble n.toNat 9223372036854775807&&Nat.ble (s.size*n.toNat) 140737488355328) with
  | true=>some (.str ⟨(Lib.repeatL s.data.toList n.toNat).toArray⟩,h)
  | false=>none)
 | 41,[.str s,.str x],h=>(match Nat.ble s.size 1073741824 with
  | true=>some (.bool (Lib.contains s.data.toList x.data.toList),h)
  | false=>none)
 | 15,[.sl _ 1 es,.str sep],h=>(match strsOf es with
  | some xs=>(match Nat.ble (BF xs sep).length 140737488355328&&Nat.ble xs.length 140737488355328 with
   | true=>some (.str ⟨(BF xs sep).toArray⟩,h)
   | false=>none)
  | none=>none)
 | 53,[.ptr 0 0],[some [.cO 119 0,.cZ l]]=>some (.str ⟨l.toArray⟩,[some [.cO 119 0,.sl false 1 (mY l)]])
 | 162,[.ptr 0 0],[some [.cO 119 0,.cZ l]]=>some (.tuple [],[some [.cO 119 0,.cZ l]])
 | 39,[.str s,.str ⟨⟨[c]⟩⟩],h=>(match Nat.ble s.size 1073741824 with
  | true=>some (.sl false 1 (Iq (rD c s.data.toList)),h)
  | false=>none)
 | _,_,_=>none
theorem bK4 {M:Mem} {w:World} (hm:vW M w):Gl Tryz.prog Tryz.laysM171_ren w:=fun i hi=>by
 refine (hm _ i _ (M.g _ _ _ ?_)).1;show Ae M.m (Tryz.laysM171_ren.g 17) i=_;have e:(aB9 M.m).lookup (Tryz.laysM171_ren.g 17)=some (Lib.pow10Tab.map (Value.int .u64)):=by kernel_rfl
 unfold Ae;rw[e,MJ,kJ];grind [Lib.pow10Tab]
theorem aYR (n:Int) (h0:0<=n) (h1:n<Qk) (h:aG):Ev Tryz.prog 35 [.int .i64 n] h (.str ⟨(Lib.decDigits n.toNat).toArray⟩) h:=by
 unfold Qk at h1;have ev:∀ {M:Mem} {B:aN} {vals:Array Value},aj M B [.int .i64 n] vals.toList->vals = #[.int .i64 n]:=fun hv=>by obtain ⟨u1,us,e1,r1,hv⟩:=bg.1 hv;rw[dJ] at hv; grind [dS]
 by_cases hs:n<100
 .refine a3S (v := .string ⟨(Lib.decDigits n.toNat).toArray⟩) (by kernel_rfl) (fun _ _=>iG.2 rfl) rfl (fun M B w vals hv => ?_) h;rw[ev hv];have:=bDR n.toNat (by omega) w;rwa [QM h0] at this
 .refine (Xo (v := .string ⟨(Lib.decDigits n.toNat).toArray⟩) (by kernel_rfl) (fun _ _=>iG.2 rfl) rfl fun M w vals hm hv => ?_).frame' rfl rfl h;rw[ev hv];have:=bDQ Tryz.laysM171 n.toNat (by omega) (by omega) w (bK4 hm);rwa [QM h0] at this
theorem bP4 {M:Mem} {B:aN} {p q:PV} {vals:Array Value} (hv:aj M B [p,q] vals.toList):∃ u v,vals = #[u,v]/\Rep M B p u/\Rep M B q v:=a1J hv
theorem aW2:Builder.Extra Tryz.prog Tryz.lays105_ren where
 sizeBuilder:=by kernel_rfl
 liesBuilder:=by kernel_rfl
 t5:=Tryz.underlying5
 a5:=Tryz.isAgg5
 z5:=Tryz.sizeOf5
 v5:=Tryz.zeroValue5
 infoByte:=by kernel_rfl
 cellsByte:=by kernel_rfl
 sizeByte:=by kernel_rfl
 neB5:=by decide
theorem bKT (s:ByteArray) (c:Nat) (w:World) (hc:c<=9223372036854775807) (hlen:s.size*c<=140737488355328) :
 Calls Tryz.prog 30 #[.string s,.int .i64 c] w fun e w'=>e = .returned (.string ⟨(Lib.repeatL s.data.toList c).toArray⟩)/\Below w.heap.size w w' :=
 Any.strings_Repeat Tryz.lays105 aW2 s c w hc hlen
theorem aYV (s:ByteArray) (n:Int) (h0:0<=n) (h1:n.toNat<=9223372036854775807) (h2:s.size*n.toNat<=140737488355328):Ev Tryz.prog 30 [.str s,.int .i64 n] [] (.str ⟨(Lib.repeatL s.data.toList n.toNat).toArray⟩) []:=by
 refine Xo (v := .string ⟨(Lib.repeatL s.data.toList n.toNat).toArray⟩) (by kernel_rfl) (fun _ _=>iG.2 rfl) rfl fun M w vals hmem hv => ?_
 obtain ⟨u,v,rfl,hu,hv⟩:=a1J hv;rw[iG.1 hu,dS.1 hv];have:=bKT s n.toNat w h1 h2;rwa [QM h0] at this
theorem bGG {M:Mem} {w:World} (hm:vW M w):w.cell? ⟨Tryz.lays144_ren.g 1,0,none⟩=some (.int .i64 M.m):=by refine (hm _ 0 _ (M.g _ _ _ ?_)).1;show Ae M.m (Tryz.lays144_ren.g 1) 0=_;rfl
theorem aYP (s x:ByteArray) (h1:s.size<4294967281) (h:aG):Ev Tryz.prog 41 [.str s,.str x] h (.bool (Lib.contains s.data.toList x.data.toList)) h:=by refine (Xo (v := .bool (Lib.contains s.data.toList x.data.toList)) (by kernel_rfl) (fun _ _=>jo.2 rfl) rfl fun M w vals hmem hv => ?_).frame' rfl rfl h;obtain ⟨u,v,rfl,hu,hv⟩:=a1J hv;rw[iG.1 hu,iG.1 hv];refine (Any.strings_Contains Tryz.lays144 s x M.m w h1 (bGG hmem)).mono ?_;grind [Below.refl]
theorem aZG (r:Gs):(Fa r).flat=true:=by
 cases r with
 | ok ts=>rfl
 | err a b e=>rfl
theorem aTI:o7 Tryz.prog CS:=by
 intro g args h r h' hv;unfold CS at hv;split at hv
 .rename_i h s;cases hv;have:=aYK s.data.toList;have e:bs s.data.toList=s:=by rfl
  rw[e] at this;exact this.frame' (aZG _) rfl _
 grind [aYR]
 .rename_i h s c;cases hv;refine a3S (v := .int .i64 (Lib.indexByte s.data.toList c.toNat.toUInt8)) (by kernel_rfl) (fun _ _=>dS.2 rfl) rfl (fun M B w vals hv => ?_) _;obtain ⟨u,v,rfl,hu,hv⟩:=bP4 hv;rw[iG.1 hu,dS.1 hv];exact Any.stringslite_IndexByte Tryz.lays217 s c w
 .rename_i h s n;split at hv
  .rename_i hc;cases hv;simp only[bF,lw] at hc;exact (aYV s n hc.1 (MI hc.2.1) (MI hc.2.2)).frame' rfl rfl _
  .cases hv
 .rename_i h s x;split at hv
  .rename_i hc;cases hv;exact aYP s x (by have:=MI hc; omega) _
  .cases hv
 .rename_i h o es sep;split at hv
  .rename_i xs hx;split at hv
   .rename_i hc;cases hv;simp only[bF] at hc;rw[aS8 hx];exact (aYS o xs sep (MI hc.1) (MI hc.2)).frame' rfl (by rfl) _
   .cases hv
  .cases hv
 grind [aYO]
 grind [aYQ]
 .rename_i h s c;split at hv
  .rename_i hc;cases hv;have hc:=MI hc;exact (aYW s c (by omega)).frame' (by rfl) rfl _
  .cases hv
 .cases hv
end Go.Proofs.YtcdceiloganlnaaGreatDoor
namespace Go.Proofs.YtcdceiloganlnaaGreatDoor
end Go.Proofs.YtcdceiloganlnaaGreatDoor
namespace Go.Proofs.YtcdceiloganlnaaGreatDoor.W
open Go.RowKit
set_option maxRecDepth 1000000
section
abbrev bT6 (n:Int):PV:=.int .i64 n
abbrev bT7 (l:bTA):PV:=.sl false 1 l
abbrev bT8:PV:=.ptr 0 0
abbrev bT9:=ByteArray
abbrev S0:List Sh := [.S,.L false 5,.L false 9,.L false 3,.L false 3,.L false 2,.L false 3]
abbrev A0 (u:Sh.V S0):PV := .agg [.str u.1,.sl false 5 u.2.1,.sl false 9 u.2.2.1,.sl false 3 u.2.2.2.1,.sl false 3 u.2.2.2.2.1,.sl false 2 u.2.2.2.2.2.1,.sl false 3 u.2.2.2.2.2.2.1]
abbrev S1:List Sh := [.I .i64,.I .i64,.I .i64,.L false 4]
abbrev A1 (u:Sh.V S1):PV := .agg [.int .i64 u.1,.int .i64 u.2.1,.int .i64 u.2.2.1,.sl false 4 u.2.2.2.1]
abbrev O1 (u:Sh.V S1):Option (bTA):=some [.int .i64 u.1,.int .i64 u.2.1,.int .i64 u.2.2.1,.sl false 4 u.2.2.2.1]
abbrev S2:List Sh := [.I .u8,.I .u8,.I .u8,.I .u8,.I .u8,.L false 7,.L false 3,.L false 4,.L false 3]
abbrev A2 (u:Sh.V S2):PV := .agg [.int .u8 u.1,.int .u8 u.2.1,.int .u8 u.2.2.1,.int .u8 u.2.2.2.1,.int .u8 u.2.2.2.2.1,.sl false 7 u.2.2.2.2.2.1,.sl false 3 u.2.2.2.2.2.2.1,.sl false 4 u.2.2.2.2.2.2.2.1,.sl false 3 u.2.2.2.2.2.2.2.2.1]
abbrev S4:List Sh := [.S,.B,.B,.B,.I .i64]
abbrev A4 (u:Sh.V S4):PV := .agg [.str u.1,.bool u.2.1,.bool u.2.2.1,.bool u.2.2.2.1,.int .i64 u.2.2.2.2.1]
abbrev O4 (u:Sh.V S4):Option (bTA):=some [.str u.1,.bool u.2.1,.bool u.2.2.1,.bool u.2.2.2.1,.int .i64 u.2.2.2.2.1]
abbrev S5:List Sh := [.S,.L false 1,.L false 1,.L false 1,.I .i64,.I .i64,.L false 1,.L false 4,.L false 8]
abbrev A5 (u:Sh.V S5):PV := .agg [.str u.1,.sl false 1 u.2.1,.sl false 1 u.2.2.1,.sl false 1 u.2.2.2.1,.int .i64 u.2.2.2.2.1,.int .i64 u.2.2.2.2.2.1,.sl false 1 u.2.2.2.2.2.2.1,.sl false 4 u.2.2.2.2.2.2.2.1,.sl false 8 u.2.2.2.2.2.2.2.2.1]
abbrev S6:List Sh := [.L false 1,.I .i64,.I .i64,.L false 1,.L false 4,.L false 8]
abbrev A6 (u:Sh.V S6):PV := .agg [.sl false 1 u.1,.int .i64 u.2.1,.int .i64 u.2.2.1,.sl false 1 u.2.2.2.1,.sl false 4 u.2.2.2.2.1,.sl false 8 u.2.2.2.2.2.1]
abbrev O6 (u:Sh.V S6):Option (bTA):=some [.sl false 1 u.1,.int .i64 u.2.1,.int .i64 u.2.2.1,.sl false 1 u.2.2.2.1,.sl false 4 u.2.2.2.2.1,.sl false 8 u.2.2.2.2.2.1]
abbrev S7:List Sh := [.S,.I .i64,.I .i64,.I .i64]
abbrev A7 (u:Sh.V S7):PV := .agg [.str u.1,.int .i64 u.2.1,.int .i64 u.2.2.1,.int .i64 u.2.2.2.1]
abbrev O7 (u:Sh.V S7):Option (bTA):=some [.str u.1,.int .i64 u.2.1,.int .i64 u.2.2.1,.int .i64 u.2.2.2.1]
abbrev S8:List Sh := [.S,.S,.L false 1]
abbrev A8 (u:Sh.V S8):PV := .agg [.str u.1,.str u.2.1,.sl false 1 u.2.2.1]
abbrev S9:List Sh := [.I .i64,.I .i64,.I .i64,.I .i64,.I .i64,.I .i64,.L false 4,.L false 5]
abbrev A9 (u:Sh.V S9):PV := .agg [.int .i64 u.1,.int .i64 u.2.1,.int .i64 u.2.2.1,.int .i64 u.2.2.2.1,.int .i64 u.2.2.2.2.1,.int .i64 u.2.2.2.2.2.1,.sl false 4 u.2.2.2.2.2.2.1,.sl false 5 u.2.2.2.2.2.2.2.1]
abbrev O9 (u:Sh.V S9):Option (bTA):=some [.int .i64 u.1,.int .i64 u.2.1,.int .i64 u.2.2.1,.int .i64 u.2.2.2.1,.int .i64 u.2.2.2.2.1,.int .i64 u.2.2.2.2.2.1,.sl false 4 u.2.2.2.2.2.2.1,.sl false 5 u.2.2.2.2.2.2.2.1]
abbrev mD:List Sh := [.S,.L false 2]
abbrev GZ (u:Sh.V mD):PV := .agg [.str u.1,.sl false 2 u.2.1]
abbrev xh (u:Sh.V mD):Option (bTA):=some [.str u.1,.sl false 2 u.2.1]
abbrev yh:List Sh := [.I .i64,.I .i64,.I .i64,.I .i64,.L false 4]
abbrev A11 (u:Sh.V yh):PV := .agg [.int .i64 u.1,.int .i64 u.2.1,.int .i64 u.2.2.1,.int .i64 u.2.2.2.1,.sl false 4 u.2.2.2.2.1]
abbrev O11 (u:Sh.V yh):Option (bTA):=some [.int .i64 u.1,.int .i64 u.2.1,.int .i64 u.2.2.1,.int .i64 u.2.2.2.1,.sl false 4 u.2.2.2.2.1]
abbrev Ea:List Sh := [.S,.S]
abbrev MN (u:Sh.V Ea):PV := .agg [.str u.1,.str u.2.1]
abbrev kz:List Sh := [.S,.L false 2,.I .i64]
abbrev zh (u:Sh.V kz):PV := .agg [.str u.1,.sl false 2 u.2.1,.int .i64 u.2.2.1]
abbrev xk (u:Sh.V kz):Option (bTA):=some [.str u.1,.sl false 2 u.2.1,.int .i64 u.2.2.1]
abbrev Gm:List Sh := [.S,.I .i64]
abbrev QV (u:Sh.V Gm):PV := .agg [.str u.1,.int .i64 u.2.1]
abbrev gY:List Sh := [.L true 5]
abbrev aF (u:Sh.V gY):Option (bTA):=some [.sl true 5 u.1]
abbrev aI:List Sh := [.L false 5,.I .i64,.I .i64,.I .i64]
abbrev aB (u:Sh.V aI):Option (bTA):=some [.sl false 5 u.1,.int .i64 u.2.1,.int .i64 u.2.2.1,.int .i64 u.2.2.2.1]
abbrev NI:List Sh := [.pt 1 0,.I .i64,.L false 1]
abbrev NJ:List Sh := [.I .i64]
abbrev kL (u:Sh.V NJ):Option (bTA):=some [.int .i64 u.1]
abbrev wP:List Sh := [.I .u8,.I .u8,.I .u8]
abbrev Wi (u:Sh.V wP):Option (bTA):=some [.int .u8 u.1,.int .u8 u.2.1,.int .u8 u.2.2.1]
abbrev Gp:List Sh := [.I .u8,.I .u8,.I .u8,.I .u8]
abbrev O21 (u:Sh.V Gp):Option (bTA):=some [.int .u8 u.1,.int .u8 u.2.1,.int .u8 u.2.2.1,.int .u8 u.2.2.2.1]
abbrev rU:List Sh := [.S,.L true 2]
abbrev uz (u:Sh.V rU):Option (bTA):=some [.str u.1,.sl true 2 u.2.1]
abbrev iK:List Sh := [.S,.L true 5,.L true 9,.L true 3,.L true 3,.L true 2,.L true 3]
abbrev bH (u:Sh.V iK):Option (bTA):=some [.str u.1,.sl true 5 u.2.1,.sl true 9 u.2.2.1,.sl true 3 u.2.2.2.1,.sl true 3 u.2.2.2.2.1,.sl true 2 u.2.2.2.2.2.1,.sl true 3 u.2.2.2.2.2.2.1]
abbrev S24:List Sh := [.S,.L false 5,.L true 9,.L true 3,.L true 3,.L true 2,.L true 3]
abbrev Cb (u:Sh.V S24):Option (bTA):=some [.str u.1,.sl false 5 u.2.1,.sl true 9 u.2.2.1,.sl true 3 u.2.2.2.1,.sl true 3 u.2.2.2.2.1,.sl true 2 u.2.2.2.2.2.1,.sl true 3 u.2.2.2.2.2.2.1]
abbrev mF:List Sh := [.S,.S,.L true 1]
abbrev mQ (u:Sh.V mF):Option (bTA):=some [.str u.1,.str u.2.1,.sl true 1 u.2.2.1]
abbrev qY:List Sh := [.I .u8,.I .u8,.I .u8,.I .u8,.L false 2,.L false 3,.L false 1]
abbrev zi (u:Sh.V qY):PV := .agg [.int .u8 u.1,.int .u8 u.2.1,.int .u8 u.2.2.1,.int .u8 u.2.2.2.1,.sl false 2 u.2.2.2.2.1,.sl false 3 u.2.2.2.2.2.1,.sl false 1 u.2.2.2.2.2.2.1]
abbrev Qq:List Sh := [.I .i8,.I .i8,.I .i8]
abbrev Qr:List Sh := [.I .u8,.I .u8,.I .u8,.I .u8,.I .u8]
abbrev WO (u:Sh.V Qr):PV := .agg [.int .u8 u.1,.int .u8 u.2.1,.int .u8 u.2.2.1,.int .u8 u.2.2.2.1,.int .u8 u.2.2.2.2.1]
abbrev dY:List Sh := [.pt 1 0,.I .i64,.L true 1]
abbrev aZ (u:Sh.V dY):Option (bTA):=some [.ptr 1 0,.int .i64 u.1,.sl true 1 u.2.1]
abbrev lT:List Sh := [.I .i64,.S,.I .i64,.I .i64,.I .i64]
abbrev ng (u:Sh.V lT):PV := .agg [.int .i64 u.1,.str u.2.1,.int .i64 u.2.2.1,.int .i64 u.2.2.2.1,.int .i64 u.2.2.2.2.1]
abbrev O30 (u:Sh.V lT):Option (bTA):=some [.int .i64 u.1,.str u.2.1,.int .i64 u.2.2.1,.int .i64 u.2.2.2.1,.int .i64 u.2.2.2.2.1]
abbrev bY:List Sh := [.pt 2 0,.I .i64,.L true 1]
abbrev aT (u:Sh.V bY):Option (bTA):=some [.ptr 2 0,.int .i64 u.1,.sl true 1 u.2.1]
abbrev S33:List Sh := [.M]
abbrev O33 (u:Sh.V S33):Option (bTA):=some [.mp u.1]
abbrev S34:List Sh := [.L false 3,.L false 3]
abbrev A34 (u:Sh.V S34):PV := .agg [.sl false 3 u.1,.sl false 3 u.2.1]
abbrev S35:List Sh := [.B,.B,.B]
abbrev A35 (u:Sh.V S35):PV := .agg [.bool u.1,.bool u.2.1,.bool u.2.2.1]
abbrev kV:List Sh := [.pt 0 0]
abbrev uK:List Sh := [.bd 119 0,.Y]
abbrev oO (u:Sh.V uK):Option (bTA):=some [.cO 119 0,.cZ u.1]
abbrev Am:List Sh := [.B]
abbrev mV (u:Sh.V Am):Option (bTA):=some [.bool u.1]
abbrev NK:List Sh := [.bd 119 1,.Y]
abbrev Aj (u:Sh.V NK):Option (bTA):=some [.cO 119 1,.cZ u.1]
abbrev Qs:List Sh := [.bd 119 0,.L false 1]
abbrev S41:List Sh := [.pt 2 0,.S,.L true 5,.L true 9,.L true 3,.L true 3,.L true 2,.L true 3,.L false 1,.I .i64]
abbrev vC:List Sh := [.L true 1]
abbrev ig (u:Sh.V vC):Option (bTA):=some [.sl true 1 u.1]
abbrev lU:List Sh := [.pt 1 0]
abbrev gK:List Sh := [.S,.L true 1,.L true 1,.L true 1,.I .i64,.I .i64,.L true 1,.L true 4,.L true 8]
abbrev fB (u:Sh.V gK):Option (bTA):=some [.str u.1,.sl true 1 u.2.1,.sl true 1 u.2.2.1,.sl true 1 u.2.2.2.1,.int .i64 u.2.2.2.2.1,.int .i64 u.2.2.2.2.2.1,.sl true 1 u.2.2.2.2.2.2.1,.sl true 4 u.2.2.2.2.2.2.2.1,.sl true 8 u.2.2.2.2.2.2.2.2.1]
abbrev S46:List Sh := [.S,.L false 1,.L false 1,.L true 1,.I .i64,.I .i64,.L true 1,.L true 4,.L true 8]
abbrev Qn (u:Sh.V S46):Option (bTA):=some [.str u.1,.sl false 1 u.2.1,.sl false 1 u.2.2.1,.sl true 1 u.2.2.2.1,.int .i64 u.2.2.2.2.1,.int .i64 u.2.2.2.2.2.1,.sl true 1 u.2.2.2.2.2.2.1,.sl true 4 u.2.2.2.2.2.2.2.1,.sl true 8 u.2.2.2.2.2.2.2.2.1]
abbrev S47:List Sh := [.L true 1,.I .i64,.I .i64,.L true 1,.L false 4,.L true 8]
abbrev Qo (u:Sh.V S47):Option (bTA):=some [.sl true 1 u.1,.int .i64 u.2.1,.int .i64 u.2.2.1,.sl true 1 u.2.2.2.1,.sl false 4 u.2.2.2.2.1,.sl true 8 u.2.2.2.2.2.1]
abbrev qZ:List Sh := [.I .i64,.I .i64,.I .i64,.I .i64,.I .i64,.I .i64,.L false 4,.L true 5]
abbrev rQ (u:Sh.V qZ):Option (bTA):=some [.int .i64 u.1,.int .i64 u.2.1,.int .i64 u.2.2.1,.int .i64 u.2.2.2.1,.int .i64 u.2.2.2.2.1,.int .i64 u.2.2.2.2.2.1,.sl false 4 u.2.2.2.2.2.2.1,.sl true 5 u.2.2.2.2.2.2.2.1]
abbrev zk:List Sh := [.pt 4 0,.I .i64,.L true 1]
abbrev kM (u:Sh.V zk):Option (bTA):=some [.ptr 4 0,.int .i64 u.1,.sl true 1 u.2.1]
abbrev lV:List Sh := [.pt 2 0]
abbrev jS:List Sh := [.pt 3 0]
abbrev S52:List Sh := [.I .i64,.I .i64,.I .i64,.L true 4]
abbrev Wj (u:Sh.V S52):Option (bTA):=some [.int .i64 u.1,.int .i64 u.2.1,.int .i64 u.2.2.1,.sl true 4 u.2.2.2.1]
abbrev S53:List Sh := [.pt 2 0,.S,.L true 5,.L true 9,.L true 3,.L true 3,.L true 2,.L true 3,.L true 1,.I .i64]
abbrev NL:List Sh := [.I .i8,.I .i8]
abbrev yj:List Sh := [.L false 1,.I .i64,.I .i64]
abbrev iV (u:Sh.V yj):Option (bTA):=some [.sl false 1 u.1,.int .i64 u.2.1,.int .i64 u.2.2.1]
abbrev NM:List Sh := [.pt 2 0,.I .i64,.L false 1]
abbrev Wn:List Sh := [.I .i64,.I .i64,.B]
abbrev pY (u:Sh.V Wn):PV := .agg [.int .i64 u.1,.int .i64 u.2.1,.bool u.2.2.1]
abbrev Gq:List Sh := [.pt 0 0,.S,.L true 5,.L true 9,.L true 3,.L true 3,.L true 2,.L true 3,.L true 1,.I .i64]
abbrev S62:List Sh := [.pt 0 0,.S,.L true 5,.L true 9,.L false 3,.L true 3,.L true 2,.L true 3,.L true 1,.I .i64]
abbrev S63:List Sh := [.pt 0 0,.S,.L true 5,.L true 9,.L true 3,.L false 3,.L true 2,.L true 3,.L true 1,.I .i64]
abbrev S64:List Sh := [.S,.L true 2,.I .i64]
abbrev O64 (u:Sh.V S64):Option (bTA):=some [.str u.1,.sl true 2 u.2.1,.int .i64 u.2.2.1]
abbrev gU:List Sh := [.pt 3 0,.I .i64,.L true 1]
abbrev fJ (u:Sh.V gU):Option (bTA):=some [.ptr 3 0,.int .i64 u.1,.sl true 1 u.2.1]
abbrev jb:List Sh := [.pt 0 0,.I .i64,.L true 1]
abbrev jv (u:Sh.V jb):Option (bTA):=some [.ptr 0 0,.int .i64 u.1,.sl true 1 u.2.1]
def vvT (g:TypeId):Option RS:=tl g 97 (tl g 31 (tl g 11 (tl g 5 (tl g 3 (te g 2 (some (.ti .i64)) none) (tl g 4 (te g 3 (some (.ti .i64)) none) (te g 4 (some (.tb)) none))) (tl g 9 (tl g 6 (te g 5 (some (.ti .u8)) none) (te g 6 (some (.ti .u8)) none)) (tl g 10 (te g 9 (some (.ts)) none) (te g 10 (some (.ts)) none)))) (tl g 23 (tl g 21 (tl g 12 (te g 11 (some (.ts)) none) (te g 12 (some (.ti .u64)) none)) (tl g 22 (te g 21 (some (.ti .i32)) none) (te g 22 (some (.tl false 5)) none))) (tl g 25 (tl g 24 (te g 23 (some (.tl false 9)) none) (te g 24 (some (.tl false 3)) none)) (tl g 26 (te g 25 (some (.tl false 2)) none) (te g 26 (some (.tl false 3)) none))))) (tl g 65 (tl g 59 (tl g 40 (tl g 34 (te g 31 (some (.ti .i64)) none) (te g 34 (some (.tl false 1)) none)) (tl g 42 (te g 40 (some (.tl false 4)) none) (te g 42 (some (.g S1)) none))) (tl g 61 (tl g 60 (te g 59 (some (.tl false 7)) none) (te g 60 (some (.tl false 3)) none)) (tl g 62 (te g 61 (some (.tl false 4)) none) (te g 62 (some (.tl false 3)) none)))) (tl g 85 (tl g 83 (tl g 82 (te g 65 (some (.ti .u16)) none) (te g 82 (some (.g S4)) none)) (tl g 84 (te g 83 (some (.tl false 1)) none) (te g 84 (some (.tl false 4)) none))) (tl g 94 (tl g 89 (te g 85 (some (.tl false 8)) none) (te g 89 (some (.g S5)) none)) (tl g 95 (te g 94 (some (.g S7)) none) (te g 95 (some (.tl false 5)) none)))))) (tl g 186 (tl g 112 (tl g 105 (tl g 102 (tl g 99 (te g 97 (some (.g S9)) none) (te g 99 (some (.g yh)) none)) (tl g 103 (te g 102 (some (.g S8)) none) (te g 103 (some (.tl false 2)) none))) (tl g 108 (tl g 107 (te g 105 (some (.g mD)) none) (te g 107 (some (.g Ea)) none)) (tl g 110 (te g 108 (some (.tl false 2)) none) (te g 110 (some (.g kz)) none)))) (tl g 130 (tl g 122 (tl g 117 (te g 112 (some (.g Gm)) none) (te g 117 (some (.tl false 1)) none)) (tl g 126 (te g 122 (some (.z (.ni))) none) (te g 126 (some (.tl false 1)) none))) (tl g 180 (tl g 175 (te g 130 (some (.tl false 5)) none) (te g 175 (some (.ti .u64)) none)) (tl g 182 (te g 180 (some (.tl false 2)) none) (te g 182 (some (.g qY)) none))))) (tl g 263 (tl g 192 (tl g 188 (tl g 187 (te g 186 (some (.g wP)) none) (te g 187 (some (.g Gp)) none)) (tl g 189 (te g 188 (some (.ti .i8)) none) (te g 189 (some (.g Qq)) none))) (tl g 236 (tl g 219 (te g 192 (some (.g lT)) none) (te g 219 (some (.tl false 1)) none)) (tl g 260 (te g 236 (some (.tl false 1)) none) (te g 260 (some (.ti .u32)) none)))) (tl g 354 (tl g 300 (tl g 288 (te g 263 (some (.ti .u64)) none) (te g 288 (some (.tl false 2)) none)) (tl g 330 (te g 300 (some (.g NL)) none) (te g 330 (some (.g Wn)) none))) (tl g 357 (tl g 355 (te g 354 (some (.ti .u8)) none) (te g 355 (some (.ti .u8)) none)) (tl g 358 (te g 357 (some (.ti .i32)) none) (te g 358 (some (.ti .i32)) none))))))
def w0:lC:=([],.tb,[])
def w1:lC:=([],.ti .i64,[])
def w2:lC:=([],.ts,[])
def w3:lC:=([],.tl false 1,[])
def w4:lC:=([],.t [(false,[.S]),(false,[.I .i64])],[])
def w5:lC:=([],.t [(true,S1),(false,[.I .i64]),(false,[.I .i64]),(false,[.I .i64])],[])
def w6:lC:=([],.tl true 1,[])
def w7:lC:=([],.t [(true,S0),(false,[.I .i64]),(false,[.I .i64]),(false,[.I .i64])],[])
def w8:lC:=([.c gY],.t [],[.c gY])
def w9:lC:=([.c NI,.c aI],.g S1,[.c NI,.c aI])
def w10:lC:=([.c dY,.c aI],.g S1,[.c dY,.c aI])
def w11:lC:=([.c aI],.t [],[.c aI])
def w14:lC:=([],.g S1,[])
def w15:lC:=([],.tl false 5,[])
def w16:lC:=([.c aI],.g lT,[.c aI])
def QC:lC:=([.c bY,.c iK,.c aI],.t [],[.c bY,.c iK,.c aI])
def w20:lC:=([.c S7],.tb,[.c S7])
def w21:lC:=([.c aI],.tb,[.c aI])
def w26:lC:=([.z lU,.c gY],.t [],[.z lU,.c gY])
def QD:lC:=([.z lV,.z jS,.c zk,.c iK,.c aI],.t [],[.z lV,.z jS,.c zk,.c iK,.c aI])
def w30:lC:=([.c bY,.c gK,.c aI],.t [],[.c bY,.c gK,.c aI])
def w31:lC:=([.c dY,.c aI],.ti .i64,[.c dY,.c aI])
def w32:lC:=([.z lU,.c NM,.c aI],.g S1,[.z lU,.c NM,.c aI])
def w33:lC:=([.z lU,.c bY,.c aI],.g S1,[.z lU,.c bY,.c aI])
def wwT (g:FuncId):List lC:=tl g 167 (tl g 83 (tl g 57 (tl g 30 (tl g 21 (tl g 17 (tl g 12 (te g 11 [w0] []) (tl g 15 (te g 12 [w0] []) (te g 15 [w2] []))) (tl g 18 (te g 17 [w4] []) (tl g 20 (te g 18 [w1] []) (te g 20 [w3] [])))) (tl g 26 (tl g 23 (te g 21 [w5] []) (tl g 25 (te g 23 [w0] []) (te g 25 [w0] []))) (tl g 27 (te g 26 [w0] []) (tl g 28 (te g 27 [([],.t [(false,[.I .i64]),(false,[.I .i64])],[])] []) (te g 28 [w4] []))))) (tl g 40 (tl g 35 (tl g 32 (te g 30 [w2] []) (tl g 34 (te g 32 [w0] []) (te g 34 [([],.g S0,[])] []))) (tl g 36 (te g 35 [w2] []) (tl g 39 (te g 36 [w7] []) (te g 39 [w3] [])))) (tl g 45 (tl g 41 (te g 40 [([],.t [(false,[.S]),(false,[.I .i64]),(false,[.I .i64]),(false,[.I .i64])],[])] []) (tl g 43 (te g 41 [w0] []) (te g 43 [w0] []))) (tl g 52 (tl g 46 (te g 45 [([],.tl true 3,[])] []) (te g 46 [w1] [])) (tl g 53 (te g 52 [([.c uK],.t [(false,[.I .i64]),(false,[.ni])],[.c uK])] []) (te g 53 [([.c uK],.ts,[.c Qs])] [])))))) (tl g 70 (tl g 63 (tl g 60 (tl g 58 (te g 57 [w8] []) (tl g 59 (te g 58 [w4] []) (te g 59 [w3] []))) (tl g 61 (te g 60 [w2] []) (tl g 62 (te g 61 [w3] []) (te g 62 [w2] [])))) (tl g 66 (tl g 64 (te g 63 [w3] []) (tl g 65 (te g 64 [w2] []) (te g 65 [w3] []))) (tl g 68 (tl g 67 (te g 66 [w2] []) (te g 67 [w1] [])) (tl g 69 (te g 68 [w1] []) (te g 69 [w1] []))))) (tl g 76 (tl g 73 (tl g 71 (te g 70 [w1] []) (tl g 72 (te g 71 [w1] []) (te g 72 [w1] []))) (tl g 74 (te g 73 [w1] []) (tl g 75 (te g 74 [w1] []) (te g 75 [w1] [])))) (tl g 79 (tl g 77 (te g 76 [w1] []) (tl g 78 (te g 77 [w1] []) (te g 78 [w1] []))) (tl g 81 (tl g 80 (te g 79 [w1] []) (te g 80 [w1] [])) (tl g 82 (te g 81 [w1] []) (te g 82 [w1] []))))))) (tl g 110 (tl g 95 (tl g 89 (tl g 86 (tl g 84 (te g 83 [w1] []) (tl g 85 (te g 84 [w0] []) (te g 85 [w1] []))) (tl g 87 (te g 86 [w1] []) (tl g 88 (te g 87 [w1] []) (te g 88 [w1] [])))) (tl g 92 (tl g 90 (te g 89 [w1] []) (tl g 91 (te g 90 [w1] []) (te g 91 [w0] []))) (tl g 93 (te g 92 [w0] []) (tl g 94 (te g 93 [w1] []) (te g 94 [w1] []))))) (tl g 101 (tl g 98 (tl g 96 (te g 95 [w1] []) (tl g 97 (te g 96 [w1] []) (te g 97 [w1] []))) (tl g 99 (te g 98 [w1] []) (tl g 100 (te g 99 [([],.t [(false,[.L false 5]),(false,[.I .i64]),(false,[.I .i64]),(false,[.I .i64])],[])] []) (te g 100 [([],.z (.pt 0 0),[.c aI])] [])))) (tl g 104 (tl g 102 (te g 101 [w6] []) (tl g 103 (te g 102 [w9,w10] []) (te g 103 [w11] []))) (tl g 108 (tl g 106 (te g 104 [([.c aI],.t [(false,[.I .i64]),(false,[.I .i64]),(false,[.I .i64])],[.c aI])] []) (te g 106 [w0] [])) (tl g 109 (te g 108 [w1] []) (te g 109 [([.c NJ],.ti .i64,[.c NJ])] [])))))) (tl g 129 (tl g 116 (tl g 113 (tl g 111 (te g 110 [w1] []) (tl g 112 (te g 111 [w0] []) (te g 112 [w0] []))) (tl g 114 (te g 113 [w8] []) (tl g 115 (te g 114 [w4] []) (te g 115 [w1] [])))) (tl g 124 (tl g 117 (te g 116 [w14] []) (tl g 123 (te g 117 [w14] []) (te g 123 [w0] []))) (tl g 126 (tl g 125 (te g 124 [w0] []) (te g 125 [w15] [])) (tl g 128 (te g 126 [([],.g S5,[])] []) (te g 128 [w11] []))))) (tl g 158 (tl g 132 (tl g 130 (te g 129 [([.c aI],.ts,[.c aI])] []) (tl g 131 (te g 130 [([.c dY,.c aI],.tb,[.c dY,.c aI])] []) (te g 131 [w16] []))) (tl g 133 (te g 132 [QC] []) (tl g 139 (te g 133 [w11] []) (te g 139 [w0] [])))) (tl g 162 (tl g 159 (te g 158 [w1] []) (tl g 160 (te g 159 [w1] []) (te g 160 [w1] []))) (tl g 165 (tl g 164 (te g 162 [([.c uK],.t [],[.c uK])] []) (te g 164 [w0] [])) (tl g 166 (te g 165 [w8] []) (te g 166 [w8] [])))))))) (tl g 229 (tl g 192 (tl g 179 (tl g 173 (tl g 170 (tl g 168 (te g 167 [w8] []) (tl g 169 (te g 168 [w8] []) (te g 169 [w8] []))) (tl g 171 (te g 170 [([.c gY,.z kV,.c mD],.t [],[.c gY,.z kV,.c mD]),([.c gY,.z kV,.c kz],.t [],[.c gY,.z kV,.c kz]),([.c gY,.z kV,.c vC,.c S9],.t [],[.c gY,.z kV,.c vC,.c S9]),([.c gY,.z kV],.t [],[.c gY,.z kV])] []) (tl g 172 (te g 171 [([.z lV,.c mD,.c gY],.t [],[.z lV,.c mD,.c gY])] []) (te g 172 [([.z lV,.c kz,.c gY],.t [],[.z lV,.c kz,.c gY])] [])))) (tl g 176 (tl g 174 (te g 173 [([.c Am,.c NK],.t [],[.c Am,.c NK])] []) (tl g 175 (te g 174 [([.c uK],.z (.ni),[.c uK])] []) (te g 175 [w15] []))) (tl g 177 (te g 176 [w1] []) (tl g 178 (te g 177 [w1] []) (te g 178 [w1] []))))) (tl g 185 (tl g 182 (tl g 180 (te g 179 [w1] []) (tl g 181 (te g 180 [w3] []) (te g 181 [w1] []))) (tl g 183 (te g 182 [w1] []) (tl g 184 (te g 183 [w1] []) (te g 184 [w1] [])))) (tl g 188 (tl g 186 (te g 185 [w1] []) (tl g 187 (te g 186 [w20,w0] []) (te g 187 [w0] []))) (tl g 190 (tl g 189 (te g 188 [w1] []) (te g 189 [w1] [])) (tl g 191 (te g 190 [w1] []) (te g 191 [w1] [])))))) (tl g 210 (tl g 203 (tl g 196 (tl g 193 (te g 192 [w0] []) (tl g 194 (te g 193 [w1] []) (te g 194 [w0] []))) (tl g 197 (te g 196 [w9,w10] []) (tl g 202 (te g 197 [w21] []) (te g 202 [([],.t [(false,[.I .i64]),(false,[.B])],[])] [])))) (tl g 206 (tl g 204 (te g 203 [w0] []) (tl g 205 (te g 204 [([.c vC],.tb,[.c vC])] []) (te g 205 [w0] []))) (tl g 208 (tl g 207 (te g 206 [w0] []) (te g 207 [w1] [])) (tl g 209 (te g 208 [w26] []) (te g 209 [w0] []))))) (tl g 222 (tl g 218 (tl g 216 (te g 210 [w0] []) (tl g 217 (te g 216 [w1] []) (te g 217 [([],.tl false 4,[])] []))) (tl g 220 (te g 218 [w14] []) (tl g 221 (te g 220 [w16] []) (te g 221 [QD] [])))) (tl g 225 (tl g 223 (te g 222 [QC] []) (tl g 224 (te g 223 [QD] []) (te g 224 [QC] []))) (tl g 227 (tl g 226 (te g 225 [QD] []) (te g 226 [QC] [])) (tl g 228 (te g 227 [QD] []) (te g 228 [QD] []))))))) (tl g 278 (tl g 248 (tl g 242 (tl g 237 (tl g 230 (te g 229 [QC] []) (tl g 231 (te g 230 [QD] []) (te g 231 [QC] []))) (tl g 240 (te g 237 [w20] []) (tl g 241 (te g 240 [w1] []) (te g 241 [w6] [])))) (tl g 245 (tl g 243 (te g 242 [([.z jS,.c vC,.c S9,.c gY],.t [],[.z jS,.c vC,.c S9,.c gY])] []) (tl g 244 (te g 243 [w26] []) (te g 244 [([.a],.o (.H 0 0 5),[.a]),w15] []))) (tl g 246 (te g 245 [([],.tl true 5,[])] []) (tl g 247 (te g 246 [w0] []) (te g 247 [([.c S7],.ti .i64,[.c S7]),w1] []))))) (tl g 267 (tl g 256 (tl g 254 (te g 248 [w1] []) (tl g 255 (te g 254 [w9,w10] []) (te g 255 [([.c NI,.c aI],.t [(false,[.I .i64]),(false,[.B]),(false,[.B])],[.c NI,.c aI]),([.c dY,.c aI],.t [(false,[.I .i64]),(false,[.B]),(false,[.B])],[.c dY,.c aI])] []))) (tl g 257 (te g 256 [([.a],.t [],[.a])] []) (tl g 258 (te g 257 [w21] []) (te g 258 [([.z lU,.c S41,.c aI],.ti .i64,[.z lU,.c S41,.c aI]),w1,([.z lU,.c S53,.c aI],.ti .i64,[.z lU,.c S53,.c aI])] [])))) (tl g 274 (tl g 272 (te g 267 [([.c yj],.g S1,[.c yj])] []) (tl g 273 (te g 272 [([.c dY,.c aI],.ts,[.c dY,.c aI])] []) (te g 273 [w3] []))) (tl g 276 (tl g 275 (te g 274 [w2] []) (te g 275 [([.c dY,.c aI],.tl false 1,[.c dY,.c aI])] [])) (tl g 277 (te g 276 [([.c aI],.ti .i64,[.c aI])] []) (te g 277 [w2] [])))))) (tl g 298 (tl g 284 (tl g 281 (tl g 279 (te g 278 [([.c gU,.c gK,.z kV,.c aI],.t [],[.c gU,.c gK,.z kV,.c aI]),([.c gU,.c mF,.z kV,.c aI],.t [],[.c gU,.c mF,.z kV,.c aI])] []) (tl g 280 (te g 279 [([.c gK,.z lV,.c gU,.c aI],.t [],[.c gK,.z lV,.c gU,.c aI])] []) (te g 280 [([.c gU,.c gK,.c Am,.c aI],.t [],[.c gU,.c gK,.c Am,.c aI])] []))) (tl g 282 (te g 281 [w30] []) (tl g 283 (te g 282 [w30] []) (te g 283 [w2] [])))) (tl g 287 (tl g 285 (te g 284 [([.c mF,.z lV,.c gU,.c aI],.t [],[.c mF,.z lV,.c gU,.c aI])] []) (tl g 286 (te g 285 [w2] []) (te g 286 [([.c aI,.c gK,.z jS,.c Gq],.t [],[.c aI,.c gK,.z jS,.c Gq]),([.c aI,.c mF,.z jS,.c S62],.t [],[.c aI,.c mF,.z jS,.c S62]),([.c aI,.c mF,.z jS,.c Gq],.t [],[.c aI,.c mF,.z jS,.c Gq]),([.c aI,.c mF,.z jS,.c S63],.t [],[.c aI,.c mF,.z jS,.c S63]),([.c aI,.z jS,.c rU,.c Gq],.t [],[.c aI,.z jS,.c rU,.c Gq]),([.c aI,.z jS,.c rU,.c jb],.t [],[.c aI,.z jS,.c rU,.c jb]),([.c aI,.z jS,.c qZ,.c Gq],.t [],[.c aI,.z jS,.c qZ,.c Gq]),([.c aI,.c gK,.z jS,.c jb],.t [],[.c aI,.c gK,.z jS,.c jb]),([.c aI,.z jS,.c qZ,.c jb],.t [],[.c aI,.z jS,.c qZ,.c jb]),([.c aI,.c mF,.z jS,.c jb],.t [],[.c aI,.c mF,.z jS,.c jb])] []))) (tl g 289 (tl g 288 (te g 287 [([.z lV,.c rU,.c gU,.c aI],.t [],[.z lV,.c rU,.c gU,.c aI])] []) (te g 288 [w2] [])) (tl g 297 (te g 289 [w31] []) (te g 297 [w6] []))))) (tl g 311 (tl g 308 (tl g 299 (te g 298 [w2] []) (tl g 307 (te g 299 [w1] []) (te g 307 [([.c NM,.z kV,.c aI],.g S1,[.c NM,.z kV,.c aI]),([.c bY,.z kV,.c aI],.g S1,[.c bY,.z kV,.c aI])] []))) (tl g 309 (te g 308 [w32,w33] []) (tl g 310 (te g 309 [w32,w33] []) (te g 310 [w32,w33] [])))) (tl g 327 (tl g 320 (te g 311 [([.c NI,.c aI],.ti .i64,[.c NI,.c aI]),w31] []) (tl g 321 (te g 320 [([.c yj],.ti .i64,[.c yj])] []) (te g 321 [w14] []))) (tl g 329 (tl g 328 (te g 327 [([.z lU,.c bY,.c aI],.tl false 1,[.z lU,.c bY,.c aI])] []) (te g 328 [([.z lU,.c bY,.c aI],.tb,[.z lU,.c bY,.c aI])] [])) (tl g 335 (te g 329 [([.z lV,.c qZ,.c gU,.c aI],.t [],[.z lV,.c qZ,.c gU,.c aI])] []) (te g 335 [([.z lU,.c NM,.c aI],.t [],[.z lU,.c NM,.c aI]),([.z lU,.c bY,.c aI],.t [],[.z lU,.c bY,.c aI])] []))))))))
def d0:wO:=⟨[],[],[],[],[],[],[],[],[],[],[],[],false⟩
def jL (a0:List Nat):wO:=⟨a0,[],[],[],[],[],[],[],[],[],[],[],false⟩
def pZ2 (a0:List Nat) (a1:List Nat):wO:=⟨a0,a1,[],[],[],[],[],[],[],[],[],[],false⟩
def FO (a0:List Nat) (a1:List Nat) (a2:List Nat) (a3:List (Nat×List Nat)):wO:=⟨a0,a1,a2,a3,[],[],[],[],[],[],[],[],false⟩
def pZ5 (a0:List Nat) (a1:List Nat) (a2:List Nat) (a3:List (Nat×List Nat)) (a4:List (Nat×List Nat)):wO:=⟨a0,a1,a2,a3,a4,[],[],[],[],[],[],[],false⟩
def qx (a0:List Nat) (a1:List Nat) (a2:List Nat) (a3:List (Nat×List Nat)) (a4:List (Nat×List Nat)) (a5:List (Nat×List Nat)):wO:=⟨a0,a1,a2,a3,a4,a5,[],[],[],[],[],[],false⟩
def jl (a0:List Nat) (a1:List Nat) (a2:List Nat) (a3:List (Nat×List Nat)) (a4:List (Nat×List Nat)) (a5:List (Nat×List Nat)) (a6:List (Nat×List Nat)):wO:=⟨a0,a1,a2,a3,a4,a5,a6,[],[],[],[],[],false⟩
def kS (a0:List Nat) (a1:List Nat) (a2:List Nat) (a3:List (Nat×List Nat)) (a4:List (Nat×List Nat)) (a5:List (Nat×List Nat)) (a6:List (Nat×List Nat)) (a7:List Nat):wO:=⟨a0,a1,a2,a3,a4,a5,a6,a7,[],[],[],[],false⟩
def oJ (a0:List Nat) (a1:List Nat) (a2:List Nat) (a3:List (Nat×List Nat)) (a4:List (Nat×List Nat)) (a5:List (Nat×List Nat)) (a6:List (Nat×List Nat)) (a7:List Nat) (a8:List (List Nat×Bool)):wO:=⟨a0,a1,a2,a3,a4,a5,a6,a7,a8,[],[],[],false⟩
def bJD (a0:List Nat) (a1:List Nat) (a2:List Nat) (a3:List (Nat×List Nat)) (a4:List (Nat×List Nat)) (a5:List (Nat×List Nat)) (a6:List (Nat×List Nat)) (a7:List Nat) (a8:List (List Nat×Bool)) (a9:List (Nat×List Nat)):wO:=⟨a0,a1,a2,a3,a4,a5,a6,a7,a8,a9,[],[],false⟩
def Ku (a0:List Nat) (a1:List Nat) (a2:List Nat) (a3:List (Nat×List Nat)) (a4:List (Nat×List Nat)) (a5:List (Nat×List Nat)) (a6:List (Nat×List Nat)) (a7:List Nat) (a8:List (List Nat×Bool)) (a9:List (Nat×List Nat)) (a10:List Nat):wO:=⟨a0,a1,a2,a3,a4,a5,a6,a7,a8,a9,a10,[],false⟩
def jZ (a0:List Nat) (a1:List Nat) (a2:List Nat) (a3:List (Nat×List Nat)) (a4:List (Nat×List Nat)) (a5:List (Nat×List Nat)) (a6:List (Nat×List Nat)) (a7:List Nat) (a8:List (List Nat×Bool)) (a9:List (Nat×List Nat)) (a10:List Nat) (a11:List Nat):wO:=⟨a0,a1,a2,a3,a4,a5,a6,a7,a8,a9,a10,a11,false⟩
def bn:List Nat := [0,1]
def fK:List Nat := [0,0,0,4]
def lI:List Nat := [0,0,1]
def oK:List Nat := [0,1,7,8]
def qN:List Nat := [1,5,8,9,10]
def sJ:List Nat := [0,5,9,3,3,2,3]
def sK:List Nat := [0,1,1,1,0,0,1,4,8]
def xJ:List Nat := [1,8,9]
def zU:List Nat := [0,1,2]
def Ba:List Nat := [5,0,0,0]
def FV:List Nat := [0,2,0]
def Ia:List Nat := [0,1,5]
def Ib:List Nat := [0,1,2,3]
def Ic:List Nat := [0,1,5,7,8]
def Ky:List Nat := [0,1,5,7,8,9,10]
def Kz:List Nat := [0,2,3]
def PQ:List Nat := [0,0,0,0,0,7,3,4,3]
def PR:List Nat := [1,2,15,16,17]
def PS:List Nat := [0,6,7,8]
def PT:List Nat := [0,1,2,6,7]
def Ur:List Nat := [0,0,0,0,2,3,1]
def Us:List Nat := [0,1,5,6,8,9]
def Ut:List Nat := [0,0,0,0,0,0,4,5]
def a0B:List Nat := [2,3,27,28,29]
def a0C:List Nat := [2,3,4,5,30,31,32]
def a9E:List Nat := [1,5,6,7,33,34,35]
def a9F:List Nat := [0,1,5,39,40,41]
def a9G:List Nat := [1,8,63,64,65]
def a9H:List Nat := [1,2,3,22,23,24]
def a9I:List Nat := [1,2,3,6,46,47,48]
def a9J:List Nat := [1,2,3,6,8,9,46,47,48,70,71]
def a9K:List Nat := [1,2,3,6,111,112,113]
def a9L:List Nat := [1,2,3,6,12,13,111,112,113,130,131]
def a9M:List Nat := [2,3,6,168,169,170]
def a9N:List Nat := [2,3,5,27,28,29,44,45]
def a9O:List Nat := [2,3,72,73,74]
def a9P:List Nat := [2,3,10,86,87,91,92,93]
def a9Q:List Nat := [2,3,123,124,125]
def a9R:List Nat := [2,148,149,150]
def a9S:List Nat := [6,7,8,9,10,23,24,25]
def a9T:List Nat := [1,2,3,87,88,89]
def a9U:List Nat := [0,4,14,15,16]
def a9V:List Nat := [3,4,5,6,7,43,44]
def a9W:List Nat := [3,4,5,6,7,54,55]
def a9X:List Nat := [3,4,5,6,7,72,73,74]
def a9Y:List Nat := [3,4,5,6,7,11,12,13,72,73,74,126,127]
def a9Z:List Nat := [2,3,4,5,60,61,62]
def a9':List Nat := [2,3,5,97,98,99]
def aA0:List Nat := [3,5,59,60,61]
def a9B (g:FuncId):wO:=tl g 167 (tl g 83 (tl g 57 (tl g 30 (tl g 21 (tl g 17 (tl g 12 (te g 11 (kS [0,1,2,5,6,7,8,9,10,13,14,17,33,34,35] [52] [] [(0,PQ),(7,[1]),(33,[1])] [(4,[1,2]),(8,a9E),(11,[1,5,6,7,9,33,34,35]),(12,a9E),(13,[5,6,7])] [(7,a9E)] [(2,PQ)] [2]) d0) (tl g 15 (te g 12 (jl [1,2,3,4,5,6,7,10,11,12] [] [] [] [] [] [(1,sJ),(7,fK)]) d0) (te g 15 (jl [0,1,5,7,8,10,12,39,40,41,63,64,65] [] [] [(0,[1]),(39,[1]),(63,[1])] [(7,bn),(11,Ia),(12,Ia),(14,a9F),(17,[0,1,5,7,39,40,41]),(18,a9F),(19,Ia),(24,a9G),(27,a9G),(28,[8])] [(13,a9F),(23,a9G)] [(8,bn)]) d0))) (tl g 18 (te g 17 (kS [0,1,4,5,6,7] [] [] [(0,sJ)] [(5,[1]),(10,[6]),(12,[6])] [] [(1,sJ),(5,[5])] [1]) d0) (tl g 20 (te g 18 (jZ [0,1,3,4,5,6,7] [] [] [(0,sJ)] [] [] [(1,sJ),(3,[3]),(4,[1]),(5,[1]),(6,[1]),(7,[1])] [1] [] [(7,[9000003,9000004,9000005,9000006,9000007])] [] [9,12]) d0) (te g 20 (oJ [0,1,5,6,7,8] [11] [] [(5,[1])] [(5,[0,5,7,8]),(7,[0,5,7,8]),(8,[5])] [(4,[0,5,7,8])] [] [] [([1],false)]) d0)))) (tl g 26 (tl g 23 (te g 21 (jZ [0,1,4,5,6,7,8] [] [] [(0,[1])] [(8,[4])] [] [(4,fK)] [] [(fK,true),([],true),([],true),([],true)] [] [10] [10]) d0) (tl g 25 (te g 23 (kS Ib [] [] [(0,fK),(1,fK)] [] [] [(2,fK),(3,fK)] [2,3]) d0) (te g 25 (FO bn [] [] [(0,[1])]) d0))) (tl g 27 (te g 26 (qx [0,3,4,5,7,8] [] [] [] [(4,[0,7,8]),(9,[0,7,8]),(10,[0])] [(3,[0,7,8])]) d0) (tl g 28 (te g 27 (kS [0,1,2,4,6,7] [] [] [(0,fK)] [(4,[1,2]),(8,[2]),(11,[4])] [] [(2,fK)] [2]) d0) (te g 28 (kS [0,1,3,7,8] [] [] [(0,[1]),(1,fK)] [(4,[0,3]),(7,[0,3])] [] [(3,fK),(8,[5])] [3]) d0))))) (tl g 40 (tl g 35 (tl g 32 (te g 30 (jl [0,1,5,6,7,8,9,10,11,42] [] [] [] [(7,bn),(9,bn),(12,[0,6]),(15,[0,7]),(31,[0,7]),(36,[0,7,8]),(40,[7,8,9]),(42,[9])] [(39,[7,8,9])] [(9,bn)]) d0) (tl g 34 (te g 32 (kS bn [] [] [(0,PQ)] [(4,[1])] [] [(1,PQ)] [1]) d0) (te g 34 (jZ [0,1,2,3,4,5,6,7,8,9,10,11,12,13,14,15,16,22,23,24,46,47,48,70,71,111,112,113,130,131,168,169,170] [32,75,93,99,104,135,161,178] [] [(0,PQ),(6,[1]),(22,[7]),(46,[3]),(111,[4]),(168,[3])] [(5,a9H),(7,[1,2,3,4,5,22,23,24]),(8,a9H),(9,[1,2,3]),(12,a9I),(14,[1,2,3,6,7,8,46,47,48]),(17,a9J),(19,a9J),(20,[1,2,3,6,8,9,46,47,48]),(23,[1,2,3,6,9,46,47,48]),(24,a9I),(25,[1,2,3,6]),(27,a9K),(29,[1,2,3,6,11,12,111,112,113]),(32,a9L),(34,a9L),(35,[1,2,3,6,13,111,112,113]),(36,a9K),(37,[1,2,3,6]),(39,a9M),(41,[2,3,6,15,16,168,169,170]),(42,a9M),(43,[2,3])] [(4,a9H),(11,a9I),(16,a9J),(26,a9K),(31,a9L),(38,a9M)] [(1,PQ),(2,sJ),(3,sJ),(5,Ur),(9,lI),(13,[0,2])] [1] [(sJ,true)] [] [139,149] [146,186,196]) d0))) (tl g 36 (te g 35 (jL [0]) d0) (tl g 39 (te g 36 (jZ [0,2,3,4,5,6] [] [] [] [(7,[2,6]),(8,[2,6]),(10,[2,6]),(13,[2])] [(6,[2,6])] [(2,sJ),(6,lI)] [] [(sJ,true),([],true),([],true),([],true)] [] [8,48] [8]) d0) (te g 39 (oJ bn [] [] [] [] [] [] [] [([1],false)]) d0)))) (tl g 45 (tl g 41 (te g 40 (jl [0,2,3,4,5,6] [] [] [] [(5,[6]),(8,[2])] [] [(6,sJ)]) d0) (tl g 43 (te g 41 (jL bn) d0) (te g 43 (FO bn [] [] [(0,[1])]) d0))) (tl g 52 (tl g 46 (te g 45 (oJ [0] [] [] [(0,[3])] [(4,[0])] [] [] [] [([3],true)]) d0) (te g 46 (qx [0,3,5,10,11,12] [] [9] [(0,[5]),(10,[5])] [(4,[0]),(7,[3,10,11,12]),(16,[3,5,10,11,12]),(17,[3,10,11,12]),(18,[])] [(6,[3,10,11,12])]) d0)) (tl g 53 (te g 52 (jl bn [12] [] [] [] [] [(0,bn)]) d0) (te g 53 (jl [0] [] [] [] [] [] [(0,bn)]) d0)))))) (tl g 70 (tl g 63 (tl g 60 (tl g 58 (te g 57 (Ku [0,1,2,3,5,6,7,9,10,11,13,15,17,27,28,29,44,45,72,73,74,86,87,91,92,93,123,124,125,148,149,150] [] [] [(1,sJ),(11,[3]),(27,[5]),(72,[9]),(86,[3,3]),(91,[3]),(123,[2]),(148,[3])] [(6,a0B),(10,a9N),(13,a9N),(14,[2,3,5,27,28,29]),(17,a0B),(18,a0B),(19,[2,3]),(21,a9O),(23,a9O),(24,[2,3]),(26,[2,3,86,87]),(29,a9P),(35,a9P),(36,[2,3,86,87]),(37,[2,3]),(39,a9Q),(44,a9Q),(45,[2,3]),(47,a9R),(54,a9R)] [(5,a0B),(9,a9N),(20,a9O),(25,[2,3,86,87]),(28,a9P),(38,a9Q),(46,a9R)] [(0,[5]),(3,sJ),(9,sK),(13,lI),(15,[0,2]),(17,FV)] [3] [] [] [48,53,55,90,100,104]) d0) (tl g 59 (te g 58 (jl [0,5,6,7,8,9,10,12,23,24,25,67] [] [6] [(0,[5]),(23,[5])] [(5,[0]),(11,a9S),(15,[6,7,8,9,10,12,23,24,25]),(19,[6,7,8,10,12,23,24,25]),(28,a9S),(29,[6,10])] [(10,a9S)] [(6,bn)]) d0) (te g 59 (oJ Ky [14] [] [(0,[3]),(5,[1]),(8,[3])] [(5,qN),(7,qN),(8,[5])] [(4,qN)] [(7,lI)] [] [([1],false)]) d0))) (tl g 61 (te g 60 (kS bn [] [] [(0,lI)] [] [] [(1,lI)] [1]) d0) (tl g 62 (te g 61 (oJ Ky [14] [] [(0,[9]),(5,[1]),(8,[9])] [(5,qN),(7,qN),(8,[5])] [(4,qN)] [(7,sK)] [] [([1],false)]) d0) (te g 62 (kS bn [] [] [(0,sK)] [] [] [(1,sK)] [1]) d0)))) (tl g 66 (tl g 64 (te g 63 (oJ Ky [14] [] [(0,[2]),(5,[1]),(8,[2])] [(5,qN),(7,qN),(8,[5])] [(4,qN)] [(7,[0,2])] [] [([1],false)]) d0) (tl g 65 (te g 64 (kS bn [] [] [(0,[0,2])] [] [] [(1,[0,2])] [1]) d0) (te g 65 (oJ Ky [14] [] [(0,[3]),(5,[1]),(8,[3])] [(5,qN),(7,qN),(8,[5])] [(4,qN)] [(7,FV)] [] [([1],false)]) d0))) (tl g 68 (tl g 67 (te g 66 (kS bn [] [] [(0,FV)] [] [] [(1,FV)] [1]) d0) (te g 67 (Ku [0,4,5,6,7,8] [] [] [(0,[1]),(6,[1])] [(4,[6,7,8]),(8,[6,7,8]),(9,[])] [(3,[6,7,8])] [] [] [] [] [2000013]) d0)) (tl g 69 (te g 68 (jL [0]) d0) (te g 69 (pZ5 bn [] [] [] [(4,[])]) d0))))) (tl g 76 (tl g 73 (tl g 71 (te g 70 (jL [0]) d0) (tl g 72 (te g 71 (jL [0]) d0) (te g 72 (jL bn) d0))) (tl g 74 (te g 73 (qx Us [] [] [(0,[9])] [(4,xJ),(8,xJ),(9,[])] [(3,xJ)]) d0) (tl g 75 (te g 74 (kS Ib [] [] [] [] [] [] [3]) d0) (te g 75 (jL bn) d0)))) (tl g 79 (tl g 77 (te g 76 (pZ5 [0,3] [] [] [(0,[1])] [(5,[0,3])]) d0) (tl g 78 (te g 77 (jL bn) d0) (te g 78 (bJD [0,1,3] [] [] [(0,sK)] [] [] [(1,sK),(3,[1,0,0,1,4,8])] [1] [] [(3,[9000003])]) d0))) (tl g 81 (tl g 80 (te g 79 (jL bn) d0) (te g 80 (qx Us [] [] [(0,[3])] [(4,xJ),(8,xJ),(9,[])] [(3,xJ)]) d0)) (tl g 82 (te g 81 (kS Ib [] [] [] [] [] [] [3]) d0) (te g 82 (jL bn) d0))))))) (tl g 110 (tl g 95 (tl g 89 (tl g 86 (tl g 84 (te g 83 (jZ [0,1,3] [] [] [(3,[1])] [] [] [] [] [] [] [] [4,5,8,10,11,14]) d0) (tl g 85 (te g 84 (FO [0] [] [] [(0,[1])]) d0) (te g 85 (jL bn) d0))) (tl g 87 (te g 86 (qx Us [] [] [(0,[2])] [(4,xJ),(8,xJ),(9,[])] [(3,xJ)]) d0) (tl g 88 (te g 87 (kS Ib [] [] [] [] [] [] [3]) d0) (te g 88 (jL bn) d0)))) (tl g 92 (tl g 90 (te g 89 (jL bn) d0) (tl g 91 (te g 90 (jL bn) d0) (te g 91 (FO bn [] [] [(0,[2])]) d0))) (tl g 93 (te g 92 (kS bn [] [] [] [] [] [] [1]) d0) (tl g 94 (te g 93 (jL bn) d0) (te g 94 (qx Us [] [] [(0,[3])] [(4,xJ),(8,xJ),(9,[])] [(3,xJ)]) d0))))) (tl g 101 (tl g 98 (tl g 96 (te g 95 (kS Ib [] [] [] [] [] [] [3]) d0) (tl g 97 (te g 96 (jL bn) d0) (te g 97 (jL bn) d0))) (tl g 99 (te g 98 (kS [0,1,4,10,11,12] [] [] [(0,FV),(10,[2])] [(4,[1]),(6,[1,10,11,12]),(9,[1,4,10,11,12]),(11,[1,10,11,12]),(12,[1])] [(5,[1,10,11,12])] [(1,FV)] [1]) d0) (tl g 100 (te g 99 (oJ [0,2,3,4,5] [22] [] [] [(4,[0]),(10,[2,3,4,5])] [] [(2,[5])] [] [([5],false),([],true),([],true),([],true)]) d0) (te g 100 (FO [0,3,4,5,6] [] [] [(3,[5])]) d0)))) (tl g 104 (tl g 102 (te g 101 (oJ [0] [] [] [(0,[1])] [(4,[0])] [] [] [] [([1],true)]) d0) (tl g 103 (te g 102 (jZ [0,2,3,4] [] [] [] [(5,Kz)] [] [(0,lI),(2,fK),(3,fK),(4,fK)] [] [(fK,true)] [] [24] [21,22,1000003,1000004]) d0) (te g 103 (jl [0] [] [] [] [] [] [(0,Ba)]) d0))) (tl g 108 (tl g 106 (te g 104 (jl [0] [] [] [] [(6,[0])] [] [(0,Ba)]) d0) (te g 106 (jl [0,1,2,7,8,9,15,16,17] [] [] [(0,[4]),(1,[4]),(15,[4])] [(4,zU),(6,PR),(10,PR),(11,[])] [(5,PR)] [(8,fK),(9,fK)]) d0)) (tl g 109 (te g 108 (qx Ic [] [] [(0,[1])] [(4,oK),(7,oK),(8,[])] [(3,oK)]) d0) (te g 109 (kS [0,1,2,3,4,9,10,12,13,87,88,89] [] [] [(0,fK),(87,[4])] [(4,[1,2,3,4]),(14,[1,2,3,4]),(16,a9T),(20,a9T),(21,[])] [(15,a9T)] [(4,fK),(12,fK)] [4]) d0)))))) (tl g 129 (tl g 116 (tl g 113 (tl g 111 (te g 110 (jZ [0,1,3,5,6,7,9,10,11,26] [19] [] [(0,fK),(9,[4])] [(5,[1,3,9,10,11]),(9,[1,3,6,9,10,11]),(10,[1,3,9,10,11]),(11,[1,3]),(36,[])] [(4,[1,3,9,10,11])] [(1,fK),(3,[1]),(5,fK)] [1] [] [] [] [54,59,62]) d0) (tl g 112 (te g 111 (jL [0]) d0) (te g 112 (jL [0]) d0))) (tl g 114 (te g 113 ⟨[0,1,2,3,4,5,6,8,9,10],[],[],[(1,[1]),(2,fK)],[(6,[4,5,6,8]),(11,[4,5,6,8,9,10])],[],[(0,[5]),(5,[1]),(6,fK)],[5,6],[],[],[25,70],[38,45,64,66,68],true⟩ d0) (tl g 115 (te g 114 (qx [0,4,6,7,8,11,14,15,16] [20] [] [(0,[5]),(4,[1]),(8,[5]),(14,[5])] [(6,a9U),(8,a9U),(9,[0,4]),(13,[7])] [(5,a9U)]) d0) (te g 115 (jZ [0,1,12] [] [] [(0,fK)] [(4,[1]),(27,[])] [] [(1,fK)] [1] [] [] [] [3,7]) d0)))) (tl g 124 (tl g 117 (te g 116 (oJ [0] [] [] [] [] [] [(0,fK)] [] [(fK,true)]) d0) (tl g 123 (te g 117 (oJ [0] [] [] [] [] [] [(0,fK)] [] [(fK,true)]) d0) (te g 123 (FO bn [] [] [(0,[7])]) d0))) (tl g 126 (tl g 125 (te g 124 (kS bn [] [] [(0,Ur)] [] [] [(1,Ur)] [1]) d0) (te g 125 (jZ [0,1,3,4,5] [50] [] [(3,[5])] [(6,[1,3,4]),(10,[1,3,4,5]),(5,[1,3,4]),(11,[3])] [(4,[1,3,4])] [] [1] [([5],false)] [] [] [34,39,44]) d0)) (tl g 128 (te g 126 (jZ [0,1,3,4,5,6,7,8,9,10,11,12,13,14,43,44,54,55,72,73,74,126,127] [48,65,138,157] [] [(1,Ur),(12,[1]),(72,[3])] [(7,a9V),(9,a9V),(10,[3,4,5,6,7]),(12,a9W),(15,a9W),(16,[3,4,5,6,7]),(18,a9X),(20,[3,4,5,6,7,10,11,72,73,74]),(24,[3,4,5,6,7,11,12,13,72,73,74]),(26,a9Y),(29,a9Y),(30,[3,4,5,6,7,13,72,73,74]),(31,a9X),(32,[4,5,7])] [(6,a9V),(11,a9W),(17,a9X),(25,a9Y)] [(3,Ur),(4,sK),(5,sK),(7,[1,0,0,1,4,8]),(13,Ut)] [3] [(sK,true)] [] [] [17,22,33,38,97,102,105,109,1000001,1000003]) d0) (te g 128 (jl bn [] [] [] [] [] [(0,Ba)]) d0))))) (tl g 158 (tl g 132 (tl g 130 (te g 129 (jl [0] [] [] [] [(5,[0])] [] [(0,Ba)]) d0) (tl g 131 (te g 130 (jl [0,5] [] [] [] [] [] [(0,lI)]) d0) (te g 131 (jl [0,2] [] [] [] [(6,[0,2])] [] [(0,Ba)]) d0))) (tl g 133 (te g 132 (jZ [0,1,2,3,4,5,6,7] [] [6000008] [] [] [] [(0,lI),(1,sJ)] [] [] [] [56] [8,11,14,18,21,25,28,32,35,39,42,1000001,1000004]) d0) (tl g 139 (te g 133 (jZ [0,1,4] [] [] [] [(2,bn)] [] [(0,Ba)] [] [] [] [] [24,26,1000001]) d0) (te g 139 (jZ [0,1,5,12,13] [] [] [(0,[1]),(1,[1])] [(4,bn),(6,[0,1,12,13]),(9,[0,1,12,13]),(10,[])] [(5,[0,1,12,13])] [] [] [] [] [] [19,23]) d0)))) (tl g 162 (tl g 159 (te g 158 (qx Ic [] [] [(0,[1])] [(4,oK),(7,oK),(8,[])] [(3,oK)]) d0) (tl g 160 (te g 159 (qx [0,1,5,6,7,8,9] [] [] [(0,[1]),(7,[1])] [(4,[0,1,7,8,9]),(7,[0,1,5,6,7,8,9]),(9,[0,1,7,8,9]),(10,[])] [(3,[0,1,7,8,9])]) d0) (te g 160 (qx [0,3,4,8,9,10] [] [] [(0,[4]),(8,[4])] [(4,[0]),(6,[0,8,9,10]),(17,[0,8,9,10]),(18,[])] [(5,[0,8,9,10])]) d0))) (tl g 165 (tl g 164 (te g 162 (jl [0] [] [] [] [] [] [(0,bn)]) d0) (te g 164 (FO bn [] [] [(0,[1])]) d0)) (tl g 166 (te g 165 (jl [0,1,5,6,7,8] [16] [] [(1,[1]),(6,[1])] [(3,PS),(5,PS)] [(2,PS)] [(0,[5])]) d0) (te g 166 (jl [0,1,5,6,7,8] [16] [] [(1,[1]),(6,[1])] [(3,PS),(5,PS)] [(2,PS)] [(0,[5])]) d0)))))))) (tl g 229 (tl g 192 (tl g 179 (tl g 173 (tl g 170 (tl g 168 (te g 167 (jl bn [15] [] [] [(4,bn)] [] [(0,[5])]) d0) (tl g 169 (te g 168 (jZ [0,1,2,3,4,5,6,7,9,11,30,31,32,60,61,62,97,98,99] [] [] [(1,sK),(30,[1]),(60,[4]),(97,[8])] [(9,a0C),(13,[2,3,4,5,6,30,31,32]),(15,a0C),(16,a0C),(17,[2,3,4,5]),(19,a9Z),(28,a9Z),(29,[2,3,4,5]),(31,a9'),(36,[2,3,5,11,97,98,99]),(38,[2,3,5,11,97,98,99]),(40,a9'),(41,[2])] [(8,a0C),(18,a9Z),(30,a9')] [(0,[5]),(3,sK),(4,[1,0,0,1,4,8]),(5,[1]),(11,Ut)] [3] [] [] [123] [105,109,111,115,117,121]) d0) (te g 169 (kS Ib [] [] [(1,[1])] [] [] [(0,[5]),(3,[1])] [3]) d0))) (tl g 171 (te g 170 (jl [0,1,2,3,8,9,10] [] [] [] [(3,[0,2,3,9,10]),(6,[0,2,3,8,9,10]),(7,[0,2,3,9,10])] [(2,[0,2,3,9,10])] [(0,[5])]) d0) (tl g 172 (te g 171 (jZ zU [] [] [] [] [] [] [] [] [] [18] [10,16]) d0) (te g 172 (jZ zU [] [] [] [] [] [] [] [] [] [11,23] [10,21]) d0)))) (tl g 176 (tl g 174 (te g 173 (jL bn) d0) (tl g 175 (te g 174 (jl bn [11] [] [] [] [] [(0,bn)]) d0) (te g 175 (Ku [0] [] [4] [(0,[5])] [] [] [] [] [([5],false)] [(0,[1000002])] [5]) d0))) (tl g 177 (te g 176 (jL [0]) d0) (tl g 178 (te g 177 (qx [0,3,4,5,6,7] [] [] [(0,[1]),(5,[1])] [(4,[0,5,6,7]),(7,[0,3,4,5,6,7]),(9,[0,5,6,7]),(10,[])] [(3,[0,5,6,7])]) d0) (te g 178 (jL [0]) d0))))) (tl g 185 (tl g 182 (tl g 180 (te g 179 (jZ bn [] [] [] [] [] [] [] [] [] [] [4,6]) d0) (tl g 181 (te g 180 (oJ [0,3,4,5,6] [9] [] [(3,[1])] [(5,[3,5,6]),(7,[3,5,6]),(8,[3])] [(4,[3,5,6])] [] [] [([1],false)]) d0) (te g 181 (jL bn) d0))) (tl g 183 (te g 182 (jL [0]) d0) (tl g 184 (te g 183 (jL [0]) d0) (te g 184 (jL [0]) d0)))) (tl g 188 (tl g 186 (te g 185 (jL [0]) d0) (tl g 187 (te g 186 (FO bn [] [] [(0,[4])]) d0) (te g 187 (kS bn [] [] [] [] [] [] [1]) d0))) (tl g 190 (tl g 189 (te g 188 (jL bn) d0) (te g 189 (qx Us [] [] [(0,[8])] [(4,xJ),(8,xJ),(9,[])] [(3,xJ)]) d0)) (tl g 191 (te g 190 (jZ zU [] [] [] [] [] [] [] [] [] [] [5,7,10]) d0) (te g 191 (jZ [0,1,2,3,5,6,7,8,9,59,60,61] [] [] [(0,sK),(1,Ut),(59,[5])] [(5,[3,5]),(8,[3,5]),(10,aA0),(13,[3,5,7,8,59,60,61]),(15,[3,5,8,59,60,61]),(18,aA0),(19,[])] [(9,aA0)] [(2,sK),(3,Ut),(8,[0,0,0,0,4])] [2,3] [] [] [] [81,86]) d0)))))) (tl g 210 (tl g 203 (tl g 196 (tl g 193 (te g 192 (jL [0]) d0) (tl g 194 (te g 193 (qx Ic [] [] [(0,[2])] [(4,oK),(7,oK),(8,[])] [(3,oK)]) d0) (te g 194 (jL [0]) d0))) (tl g 197 (te g 196 (jZ [0,1,4,5,6,7,8,9] [] [38] [(9,[4])] [(4,[0,1,4]),(8,[0,1,4,5,6,7]),(12,[0,1,4,5,6,9])] [(5,[0,1,4,5])] [(0,lI),(4,fK),(5,fK)] [] [(fK,true)] [(12,[1000009])] [37,41] [33,1000003]) d0) (tl g 202 (te g 197 (jl Ia [] [] [] [(5,[5])] [] [(0,Ba)]) d0) (te g 202 (pZ5 [0,4] [] [] [] [(21,[])]) d0)))) (tl g 206 (tl g 204 (te g 203 (jL bn) d0) (tl g 205 (te g 204 (kS zU [] [] [] [] [] [] [2]) d0) (te g 205 (FO bn [] [] [(0,[1])]) d0))) (tl g 208 (tl g 207 (te g 206 (jL bn) d0) (te g 207 (jZ bn [] [] [(0,fK)] [(6,[1])] [] [(1,fK)] [1] [] [] [24] [4,8]) d0)) (tl g 209 (te g 208 (jZ [0,1,2,3,4] [] [] [] [] [] [] [] [] [] [15] [8,10,13]) d0) (te g 209 (qx [0,1,2,7,8,9,15,16,17] [] [] [(0,[5]),(1,[5]),(15,[5])] [(4,zU),(6,PR),(10,PR),(11,[])] [(5,PR)]) d0))))) (tl g 222 (tl g 218 (tl g 216 (te g 210 (kS Ib [] [] [] [] [] [] [2,3]) d0) (tl g 217 (te g 216 (qx Ic [] [] [(0,[7])] [(4,oK),(7,oK),(8,[])] [(3,oK)]) d0) (te g 217 (jZ [0,3,4,5,6] [32] [] [(0,[2]),(3,[4])] [(6,[0,3,4]),(5,[0,3,4]),(9,[3])] [(4,[0,3,4])] [] [] [([4],false)] [] [] [48]) d0))) (tl g 220 (te g 218 (oJ PT [] [] [(0,[1])] [] [] [(6,fK)] [] [(fK,true)]) d0) (tl g 221 (te g 220 (jl Kz [] [] [] [(5,[2,3])] [] [(0,Ba)]) d0) (te g 221 (jL bn) d0)))) (tl g 225 (tl g 223 (te g 222 (jZ [0,1,4,5] [49] [] [(5,[1])] [(6,[0,1,4])] [] [(0,lI),(1,sJ)] [] [] [] [] [19,22,25]) d0) (tl g 224 (te g 223 (jL bn) d0) (te g 224 (jZ [0,1,2,4,5] [81] [] [] [(8,[1,2,4,5]),(14,[1,2,4])] [(6,[1,2,4,5])] [(0,lI),(1,sJ),(4,sK)] [] [] [] [12] [4,6,10,1000001,1000003]) d0))) (tl g 227 (tl g 226 (te g 225 (Ku bn [] [] [] [] [] [] [] [] [] [7]) d0) (te g 226 (jZ [0,1,2,3,6] [43] [] [] [] [] [(0,lI),(1,sJ),(2,[3]),(6,lI)] [] [] [] [19] [6,7,11,16,1000001,1000003]) d0)) (tl g 228 (te g 227 (Ku bn [] [] [] [] [] [] [] [] [] [7]) d0) (te g 228 (jL bn) d0))))))) (tl g 278 (tl g 248 (tl g 242 (tl g 237 (tl g 230 (te g 229 (jZ [0,1,2,4] [33] [] [] [] [] [(0,lI),(1,sJ),(4,[0,2])] [] [] [] [11] [4,5,9,1000001,1000003]) d0) (tl g 231 (te g 230 (jL bn) d0) (te g 231 (jl [0,1,4,5,6] [45,67] [] [] [(6,[0,1,4]),(5,[0,1,4]),(10,[0,1,4])] [(4,[0,1,4,5])] [(0,lI),(1,sJ),(4,FV)]) d0))) (tl g 240 (te g 237 (kS zU [] [] [] [] [] [] [2]) d0) (tl g 241 (te g 240 (qx Ic [] [] [(0,[1])] [(4,oK),(7,oK),(8,[])] [(3,oK)]) d0) (te g 241 (oJ [0] [] [] [(0,[4])] [] [] [] [] [([1],true)]) d0)))) (tl g 245 (tl g 243 (te g 242 (jZ Ib [] [] [] [] [] [] [] [] [] [16,28] [12,14,27]) d0) (tl g 244 (te g 243 (jZ zU [] [] [] [] [] [] [] [] [] [10] [5,8]) d0) (te g 244 (jZ [0,1,5,6,7] [] [] [(0,[5])] [(5,Ia),(8,[0,1,5,6]),(7,[0,1,5,6]),(12,[0,5])] [(6,[0,1,5,6])] [] [] [([5],false)] [] [24,33] [10]) d0))) (tl g 246 (te g 245 (oJ [0] [] [] [(0,[5])] [(4,[0])] [] [] [] [([5],true)]) d0) (tl g 247 (te g 246 (kS bn [] [] [] [] [] [] [1]) d0) (te g 247 (qx Ic [] [] [(0,[4])] [(4,oK),(7,oK),(8,[])] [(3,oK)]) d0))))) (tl g 267 (tl g 256 (tl g 254 (te g 248 (kS [0,1,2,3,7,8] [] [] [(0,fK)] [(5,[2,7])] [] [(3,fK)] [3]) d0) (tl g 255 (te g 254 (Ku zU [] [] [] [(14,[1,2])] [] [(0,lI),(2,fK)] [] [(fK,true)] [] [72]) d0) (te g 255 (jl [0,1,7,8,9,10] [] [] [] [(5,[1,7])] [] [(0,lI)]) d0))) (tl g 257 (te g 256 (Ku Kz [] [] [(0,[4])] [(4,Kz),(3,Kz)] [(2,Kz)] [] [] [] [] [20,24,26,27]) d0) (tl g 258 (te g 257 (jl Ia [] [] [] [] [] [(0,Ba)]) d0) (te g 258 (qx Ic [] [] [(0,[1])] [(4,oK),(7,oK),(8,[])] [(3,oK)]) d0)))) (tl g 274 (tl g 272 (te g 267 (oJ [0,1,2,6,7,56] [] [] [] [(8,[6,7]),(9,PT),(14,PT),(15,PT),(17,PT),(23,PT)] [] [(0,[1,0,0]),(6,fK)] [] [(fK,true)]) d0) (tl g 273 (te g 272 (jl Ia [] [] [(1,[1])] [(5,[0])] [] [(0,lI)]) d0) (te g 273 (oJ Ky [14] [] [(0,[5]),(5,[1]),(8,[5])] [(5,qN),(7,qN),(8,[5])] [(4,qN)] [] [] [([1],false)]) d0))) (tl g 276 (tl g 275 (te g 274 (kS bn [] [] [] [] [] [] [1]) d0) (te g 275 (oJ zU [] [] [(1,[1])] [] [] [(0,lI)] [] [([1],false)]) d0)) (tl g 277 (te g 276 (jl [0,1,2,7,8,9,10] [] [] [] [(7,[0,1,2,7]),(11,[0,1,2,7,9]),(15,[0,10])] [] [(0,Ba)]) d0) (te g 277 (kS bn [] [] [(0,sK)] [] [] [(1,sK)] [1]) d0)))))) (tl g 298 (tl g 284 (tl g 281 (tl g 279 (te g 278 (jl bn [] [] [] [(4,[0])] [] [(0,lI)]) d0) (tl g 280 (te g 279 (jZ bn [3] [] [] [] [] [] [] [] [] [7] [4,6,1000000,1000001]) d0) (te g 280 (jZ [0,1,2,6] [11,65] [] [] [(5,[0,1,2,6]),(7,[0,1,6]),(9,[0])] [] [(0,lI),(1,sK)] [] [] [] [17] [16,1000001]) d0))) (tl g 282 (te g 281 (jl [0,1,4,5] [67] [] [] [(4,bn)] [] [(0,lI),(1,sK)]) d0) (tl g 283 (te g 282 (jZ [0,1,2,4] [66] [] [] [(7,[1,2,4]),(9,[1,2,4])] [] [(0,lI),(1,sK),(4,Ut)] [] [] [] [12,18,24] [7,11,13,17,19,23,1000001,1000003]) d0) (te g 283 (kS bn [] [] [(0,lI)] [] [] [(1,lI)] [1]) d0)))) (tl g 287 (tl g 285 (te g 284 (jZ bn [3] [] [] [] [] [] [] [] [] [8] [4,7,1000001,1000002]) d0) (tl g 286 (te g 285 (kS bn [] [] [(0,[0,2])] [] [] [(1,[0,2])] [1]) d0) (te g 286 (jl bn [] [] [] [(2,bn),(4,bn)] [(3,bn)] [(0,Ba)]) d0))) (tl g 289 (tl g 288 (te g 287 (pZ2 zU [16]) d0) (te g 288 (kS bn [] [] [(0,FV)] [] [] [(1,FV)] [1]) d0)) (tl g 297 (te g 289 (jl [0] [] [] [] [] [] [(0,lI)]) d0) (te g 297 (oJ Ky [14,21] [] [(0,[4]),(5,[1]),(8,[4])] [(5,qN),(7,qN),(8,[5])] [(4,qN)] [] [] [([1],true)]) d0))))) (tl g 311 (tl g 308 (tl g 299 (te g 298 (kS bn [] [] [] [] [] [] [1]) d0) (tl g 307 (te g 299 (qx Ic [] [] [(0,[5])] [(4,oK),(7,oK),(8,[])] [(3,oK)]) d0) (te g 307 ⟨[0,1,2,4],[],[],[],[(5,[1,2,4])],[],[(0,lI),(4,fK)],[],[(fK,true)],[],[],[],true⟩ d0))) (tl g 309 (te g 308 (oJ bn [] [] [] [] [] [(1,fK)] [] [(fK,true)]) d0) (tl g 310 (te g 309 (oJ bn [] [] [] [(4,bn)] [] [(1,fK)] [] [(fK,true)]) d0) (te g 310 (oJ zU [] [] [] [] [] [(1,fK),(2,fK)] [] [(fK,true)]) d0)))) (tl g 327 (tl g 320 (te g 311 (jl Ia [] [] [(1,[1])] [(5,[0,5])] [] [(0,lI)]) d0) (tl g 321 (te g 320 (jl [0,3] [] [] [] [(4,[0])] [] [(0,[1,0,0])]) d0) (te g 321 (oJ Kz [] [] [] [(5,[2,3])] [] [(2,fK)] [] [(fK,true)]) d0))) (tl g 329 (tl g 328 (te g 327 (oJ Ky [14] [] [(0,[1]),(5,[1]),(8,[1])] [(5,qN),(7,qN),(8,[5])] [(4,qN)] [] [] [([1],false)]) d0) (te g 328 (jL bn) d0)) (tl g 335 (te g 329 (jZ zU [19] [] [] [] [] [(2,[0,0,0,0,4])] [] [] [] [8] [2,3,4,1000000]) d0) (te g 335 (jL [0]) d0))))))))
noncomputable def SS:SE:=⟨Tryz.prog,a9B,VVt vvT,WWt wwT,CS⟩
theorem dO:SS.OK:=⟨aUL _,aUQ _⟩
abbrev cG (r:RS) (g:FuncId) (a:bTA) (K:RS.F r R):R:=jJ SS.CC g a fun p=>PY r p K
abbrev cH (r:RS) (o:List OS) (g:FuncId) (a:bTA) (h:aG) (K:RS.F r (di o)):R:=zq SS.CC g a h fun p h=>hv r o p h K
theorem cc {g:FuncId} {a:bTA} {h:aG} {v:R} (h0:SS.C0 g a h=none:=by rfl) (e:SS.run SS.CC SS.LL g a h=v:=by kernel_rfl):SS.CC g a h=v:=CCk dO h0 e
theorem ll {E:AE} {m0:Nat} {l:List Nat} {m:Nat} {x:Code} {K:KT} {Z:ASt} {v:R} (hm:m0<=m:=by decide) (hg:DT l m Z=true:=by kernel_rfl) (hP:SS.wp E=E:=by kernel_rfl) (e:chk (FP l m Z) (bG (SS.xe SS.CC SS.LL E m0) x (vz (fun Z'=>SS.LL E m0 l m x K (Z'.gc l m)) K) (Z.gc l m))=v:=by kernel_rfl):SS.LL E m0 l m x K Z=v:=LLk dO hm hg hP e
abbrev G0:=cG (.t [(false,[.S]),(false,[.I .i64])])
abbrev G1:=cG (.ti .i64)
abbrev G2:=cG (.ts)
abbrev G3:=cG (.tb)
abbrev G4:=cG (.tl false 1)
abbrev G6:=cG (.t [(false,[.I .i64]),(false,[.I .i64])])
abbrev G7:=cG (.tl true 1)
abbrev G8:=cG (.g S0)
abbrev G9:=cG (.t [(true,S0),(false,[.I .i64]),(false,[.I .i64]),(false,[.I .i64])])
abbrev Qb:=cG (.t [(false,[.S]),(false,[.I .i64]),(false,[.I .i64]),(false,[.I .i64])])
abbrev WT:=cG (.tl true 3)
abbrev aU:=cH (.t []) [.c gY]
abbrev G13:=cG (.t [(false,[.L false 5]),(false,[.I .i64]),(false,[.I .i64]),(false,[.I .i64])])
abbrev H14:=cH (.z (.pt 0 0)) [.c aI]
abbrev dw:=cH (.t []) [.c aI]
abbrev H17:=cH (.t [(false,[.I .i64]),(false,[.I .i64]),(false,[.I .i64])]) [.c aI]
abbrev H19:=cH (.ti .i64) [.c NJ]
abbrev rP:=cG (.g S1)
abbrev G21:=cG (.g S5)
abbrev MS:=cG (.tl false 5)
abbrev Qh:=cH (.tb) [.c dY,.c aI]
abbrev ji:=cH (.g lT) [.c aI]
abbrev Gh:=cH (.t []) [.c bY,.c iK,.c aI]
abbrev Af:=cH (.ts) [.c aI]
abbrev H28:=cH (.t []) [.c gY,.z kV,.c mD]
abbrev H29:=cH (.t []) [.c gY,.z kV,.c kz]
abbrev Md:=cH (.t []) [.c Am,.c NK]
abbrev H31:=cH (.ts) [.c Qs]
abbrev H32:=cH (.t [(false,[.I .i64]),(false,[.ni])]) [.c uK]
abbrev H33:=cH (.z (.ni)) [.c uK]
abbrev iU:=cH (.tb) [.c aI]
abbrev G37:=cG (.t [(false,[.I .i64]),(false,[.B])])
abbrev yc:=cH (.tb) [.c vC]
abbrev eQ:=cH (.t []) [.z lU,.c gY]
abbrev JJ:=cG (.tl false 4)
abbrev JL:=cH (.t []) [.z lV,.z jS,.c zk,.c iK,.c aI]
abbrev H44:=cH (.tb) [.c S7]
abbrev H45:=cH (.t []) [.c gY,.z kV,.c vC,.c S9]
abbrev H46:=cH (.t []) [.c gY,.z kV]
abbrev H47:=cH (.t []) [.z lV,.c mD,.c gY]
abbrev H48:=cH (.t []) [.z lV,.c kz,.c gY]
abbrev G49:=cG (.tl true 5)
abbrev H50:=cH (.o (.H 0 0 5)) [.a]
abbrev H51:=cH (.t []) [.c uK]
abbrev H53:=cH (.t []) [.a]
abbrev pg:=cH (.g S1) [.c yj]
abbrev H63:=cH (.ti .i64) [.c S7]
abbrev H64:=cH (.t []) [.z jS,.c vC,.c S9,.c gY]
abbrev N7:=cH (.ti .i64) [.c aI]
abbrev H79:=cH (.ti .i64) [.c yj]
abbrev H80:=cH (.t []) [.c gU,.c gK,.c Am,.c aI]
abbrev H81:=cH (.t []) [.c bY,.c gK,.c aI]
abbrev CU:=cH (.ts) [.c dY,.c aI]
abbrev H83:=cH (.t []) [.c gU,.c gK,.z kV,.c aI]
abbrev H84:=cH (.t []) [.c gU,.c mF,.z kV,.c aI]
abbrev Ah:=cH (.ti .i64) [.c dY,.c aI]
abbrev H86:=cH (.t []) [.c aI,.z jS,.c rU,.c jb]
abbrev H87:=cH (.tl false 1) [.c dY,.c aI]
abbrev H97:=cH (.t []) [.c aI,.c gK,.z jS,.c jb]
abbrev H98:=cH (.t []) [.c aI,.z jS,.c qZ,.c jb]
abbrev yf:=cH (.g S1) [.c dY,.c aI]
abbrev aCM:=cH (.t []) [.c aI,.c mF,.z jS,.c jb]
abbrev a2B:=cH (.t []) [.z lV,.c rU,.c gU,.c aI]
abbrev aCO:=cH (.tl false 1) [.z lU,.c bY,.c aI]
abbrev a2C:=cH (.t []) [.c gK,.z lV,.c gU,.c aI]
abbrev a2D:=cH (.t []) [.z lV,.c qZ,.c gU,.c aI]
abbrev a2E:=cH (.t []) [.c mF,.z lV,.c gU,.c aI]
abbrev Qd:=cH (.tb) [.z lU,.c bY,.c aI]
abbrev aCS:=cH (.t [(false,[.I .i64]),(false,[.B]),(false,[.B])]) [.c dY,.c aI]
abbrev MZ:=cH (.g S1) [.c bY,.z kV,.c aI]
abbrev Qe:=cH (.g S1) [.z lU,.c bY,.c aI]
abbrev Qg:=cH (.t []) [.z lU,.c bY,.c aI]
end
end Go.Proofs.YtcdceiloganlnaaGreatDoor.W
end

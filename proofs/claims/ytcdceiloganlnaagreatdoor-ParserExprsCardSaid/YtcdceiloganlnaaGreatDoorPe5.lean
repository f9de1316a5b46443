/- A part of the proof: PD17a, D52i, PD17p, QD16, QB16, QT16a, QL16, QC16a, QT16p, QC16b, QC16c, QT16q, QT16u, QC16d, QC16e, QT16s, QC16f, QPS16, QC16g, QC16h, QC16i, QC16j, QC16k, QC16l, QC16m, PD17c, W17i0. -/
import Derived.Test.YtcdceiloganlnaaGreatDoorPe4
import Derived.Shelf.Lay
import Derived.Shelf.Strings.Builder1
import Derived.Shelf.Strings.OnBuilder
import Derived.Shelf.Strconv.Itoa3
import Derived.Test.YtcdceiloganlnaaGreatDoorChecked
import Derived.Shelf.LaysM
import Derived.Shelf.Strings.Split
import Derived.Shelf.Strings.Search1
import Derived.Shelf.Strings.Shaped
import Derived.Shelf.Strings.Repeat
set_option linter.unusedVariables false
set_option linter.unusedSimpArgs false
set_option linter.unnecessarySimpa false
set_option linter.unusedSectionVars false
namespace Go.Proofs
open Go.Shelf
def Tryz.lays171_ren:Go.Shelf.Ren:=⟨fun|171=>35|243=>127|246=>219|283=>268|284=>269|285=>270|286=>271|129=>323|317=>322|318=>324|319=>325|320=>326|337=>341|338=>342|n=>n,fun|171=>305|53=>263|37=>117|173=>308|212=>336|51=>260|213=>337|46=>175|232=>347|233=>348|n=>n,fun|17=>1|18=>4|19=>5|n=>n⟩
theorem Tryz.lays171 : Lays.n171 Tryz.prog Tryz.lays171_ren:=by constructor<;>first|kernel_rfl|(intro w;kernel_rfl)
def Tryz.lays156_ren:Go.Shelf.Ren:=⟨fun|156=>15|165=>51|166=>52|169=>53|240=>162|241=>163|276=>238|277=>239|n=>n,fun|31=>34|72=>119|76=>123|70=>116|37=>117|75=>122|127=>223|164=>276|80=>125|n=>n,id⟩
theorem Tryz.lays156 : Lays.n156 Tryz.prog Tryz.lays156_ren:=by constructor<;>first|kernel_rfl|(intro w;kernel_rfl)
def Tryz.lays169_ren:Go.Shelf.Ren:=⟨fun|169=>53|n=>n,fun|70=>116|72=>119|37=>117|127=>223|n=>n,id⟩
theorem Tryz.lays169 : Lays.n169 Tryz.prog Tryz.lays169_ren:=by constructor<;>first|kernel_rfl|(intro w;kernel_rfl)
end Go.Proofs
namespace Go.Proofs.YtcdceiloganlnaaGreatDoor
open Go.RowKit Go.Shelf
theorem bx156 : Builder.Extra Tryz.prog Tryz.lays156_ren where
 sizeBuilder := by kernel_rfl
 liesBuilder := by kernel_rfl
 t5 := Tryz.underlying5
 a5 := Tryz.isAgg5
 z5 := Tryz.sizeOf5
 v5 := Tryz.zeroValue5
 infoByte := by kernel_rfl
 cellsByte := by kernel_rfl
 sizeByte := by kernel_rfl
 neB5 := by decide
theorem bx169 : Builder.Extra Tryz.prog Tryz.lays169_ren where
 sizeBuilder := by kernel_rfl
 liesBuilder := by kernel_rfl
 t5 := Tryz.underlying5
 a5 := Tryz.isAgg5
 z5 := Tryz.sizeOf5
 v5 := Tryz.zeroValue5
 infoByte := by kernel_rfl
 cellsByte := by kernel_rfl
 sizeByte := by kernel_rfl
 neB5 := by decide
theorem lays240 : Lays.n240 Tryz.prog Tryz.lays156_ren := { Tryz.lays156 with }
theorem itoa_small (i : Nat) (hi : i < 100) (w : World) : Calls Tryz.prog 35 #[.int .i64 i] w fun e w' => e = .returned (.string ⟨(Lib.decDigits i).toArray⟩) ∧ w' = w := Any.strconv_Itoa_small Tryz.lays171 i hi w
theorem join_run (bk o c : Nat) (xs : List ByteArray) (sep : ByteArray) (w : World) (hcells : ∀ (j : Nat) x, xs[j]? = some x → w.cell? ⟨bk, o + j, none⟩ = some (.string x)) (hbk : bk < w.heap.size) (hN : xs.length ≤ 140737488355328) (hcap : xs.length ≤ c)
 (hlen : (Lib.join (xs.map (·.data.toList)) sep.data.toList).length ≤ 140737488355328) :
 Calls Tryz.prog 15 #[.slice (some ⟨bk, o, none⟩) xs.length c, .string sep] w fun e w' => e = .returned (.string ⟨(Lib.join (xs.map (·.data.toList)) sep.data.toList).toArray⟩) ∧ Below w.heap.size w w' :=
 Any.strings_Join Tryz.lays156 bx156 bk o c xs sep w hcells hbk hN hcap hlen
theorem join_none (a : Option Addr) (c : Nat) (sep : ByteArray) (w : World) : Calls Tryz.prog 15 #[.slice a 0 c, .string sep] w fun e w' => e = .returned (.string ⟨#[]⟩) ∧ w' = w :=
 Any.strings_Join_none Tryz.lays156 bx156 a c sep w
theorem cc_used (b : Nat) (w : World) (h0 : w.cell? ⟨b, 0, none⟩ = some (.pointer (some ⟨b, 0, none⟩))) : Calls Tryz.prog 162 #[.pointer (some ⟨b, 0, none⟩)] w fun e w' => e = .returned (.tuple #[]) ∧ w' = w :=
 Any.Builder_copyCheck_used lays240 bx156.toX72 b w h0
section
variable {P : Program} {ρ : Ren}
set_option maxHeartbeats 1000000 in
set_option maxRecDepth 100000 in
theorem cc_fresh_at (L : Lays.n240 P ρ) (X : Builder.X72 P ρ) (T : TypeId) (b : Nat) (w : World) (h0 : w.cell? ⟨b, 0, none⟩ = some (.pointer none)) (hsh : w.shape? b = some (T, 2)) (hfz : w.frozen? ⟨b, 0, none⟩ = false)
 (hlies : liesAt P P.depth T (2 / P.cellsOf T) 0 (ρ.t 72) 1 = true) :
 Calls P (ρ.f 240) #[.pointer (some ⟨b, 0, none⟩)] w fun e w' => e = .returned (.tuple #[]) ∧ w' = w.setCell ⟨b, 0, none⟩ (.pointer (some ⟨b, 0, none⟩)) := by
 obtain ⟨j, hj, hjs⟩ := Option.map_eq_some_iff.1 X.sizeBuilder
 have mixed := L.mixed
 have t72 := L.t72; have a72 := L.a72; have z72 := L.z72; have v72 := L.v72; have u72 := run_underlying L.t72
 have t70 := L.t70; have a70 := L.a70; have z70 := L.z70; have v70 := L.v70; have u70 := run_underlying L.t70
 have t9 := L.t9; have a9 := L.a9; have z9 := L.z9; have v9 := L.v9; have u9 := run_underlying L.t9
 have t4 := L.t4; have a4 := L.a4; have z4 := L.z4; have v4 := L.v4; have u4 := run_underlying L.t4
 have t164 := L.t164; have a164 := L.a164; have z164 := L.z164; have v164 := L.v164; have u164 := run_underlying L.t164
 go_enter L.f240, Body.n240_ntmps ρ
 go_wp2
 rw [Lib.run_to_unsafe w ⟨b, 0, none⟩ L.t70 L.t164 hj (by rw [hjs]; decide) hsh (Nat.zero_lt_succ 1)]
 simp only [Result.andThen]
 rw [Oper.upon_value]
 go_wp2
 rw [run_callFunc_extern L.f276 (by kernel_rfl) (by kernel_rfl) (by kernel_rfl) (e := Extern.AbiNoEscape.same) (by kernel_rfl)]
 rw [Lib.run_noEscape]
 simp only [Result.andThen]
 rw [Oper.upon_value]
 go_wp2
 rw [Lib.run_from_unsafe w ⟨b, 0, none⟩ L.t164 L.t70 hj hsh hlies]
 simp only [Result.andThen]
 rw [Oper.upon_value]
 go_wp2
 go_end0
 exact ⟨rfl, rfl⟩
end
theorem cc_fresh (b : Nat) (w : World) (h0 : w.cell? ⟨b, 0, none⟩ = some (.pointer none)) (hsh : w.shape? b = some (119, 2)) (hfz : w.frozen? ⟨b, 0, none⟩ = false) :
 Calls Tryz.prog 162 #[.pointer (some ⟨b, 0, none⟩)] w fun e w' => e = .returned (.tuple #[]) ∧ w' = w.setCell ⟨b, 0, none⟩ (.pointer (some ⟨b, 0, none⟩)) :=
 cc_fresh_at lays240 bx156.toX72 119 b w h0 hsh hfz (by kernel_rfl)
end Go.Proofs.YtcdceiloganlnaaGreatDoor
namespace Go.Proofs
open Go.Shelf Go.RowKit Go.Sort Go.Lib
def Tryz.laysM171_ren:Go.Shelf.Ren:=⟨fun|171=>35|243=>127|246=>219|283=>268|284=>269|285=>270|286=>271|129=>323|317=>322|318=>324|319=>325|320=>326|337=>341|338=>342|n=>n,fun|171=>305|53=>263|37=>117|173=>308|212=>336|51=>260|213=>337|46=>175|232=>347|233=>348|n=>n,fun|17=>1|18=>4|19=>5|n=>n⟩
theorem Tryz.laysM171 : LaysM.n171 Tryz.prog Tryz.laysM171_ren:=by constructor<;>first|kernel_rfl|(intro w;kernel_rfl)|(constructor<;>first|kernel_rfl|(intro w;kernel_rfl))
namespace YtcdceiloganlnaaGreatDoor
section
variable {P : Program} {ρ : Ren}
theorem below_grown (w : World) (k : Nat) (os : Array Obj) : Below w.heap.size w (grow (w.drewN k) os) :=
 ⟨rfl, rfl, rfl, by show w.heap.size ≤ (w.heap ++ os).size; simp, fun i hi => by show (w.heap ++ os)[i]? = _; rw [Array.getElem?_append_left hi]⟩
def PowAt (P : Program) (ρ : Ren) (w : World) : Prop := ∀ i, i < 20 → w.cell? ⟨ρ.g 17, i, none⟩ = some (.int .u64 ((10 ^ i : Nat) : Int))
theorem PowAt.alloc {w : World} (h : PowAt P ρ w) (o : Obj) : PowAt P ρ (w.alloc o) := fun i hi => by
 have hb := World.block_lt_of_cell? _ _ (h i hi)
 rw [World.cell?_alloc_old _ _ _ (Nat.ne_of_lt hb)]; exact h i hi
set_option maxHeartbeats 2000000 in
set_option maxRecDepth 100000 in
theorem digits_run (L : LaysM.n284 P ρ) (u : Nat) (h1 : 1 ≤ u) (h2 : u < 18446744073709551616) (w : World) (htab : PowAt P ρ w) :
 Calls P (ρ.f 284) #[.int .u64 u] w fun e w' => e = .returned (.int .i64 (Lib.nDigits u)) ∧ w' = w := by
 have mixed := L.mixed
 have t53 := L.t53; have a53 := L.a53; have z53 := L.z53; have v53 := L.v53
 have t3 := L.t3; have a3 := L.a3; have z3 := L.z3; have v3 := L.v3
 have t212 := L.t212; have a212 := L.a212; have z212 := L.z212; have v212 := L.v212
 have t0 := L.t0; have a0 := L.a0; have z0 := L.z0; have v0 := L.v0
 have t4 := L.t4; have a4 := L.a4; have z4 := L.z4; have v4 := L.v4
 have e129 : ∀ args w, (callFunc (ρ.f 129) args).run P w = .ok (.enter (ρ.f 129) args) w := enters_of L.f129 (by kernel_rfl) rfl
 have e317 : ∀ args w, (callFunc (ρ.f 317) args).run P w = .ok (.enter (ρ.f 317) args) w := enters_of L.f317 (by kernel_rfl) rfl
 have e318 : ∀ args w, (callFunc (ρ.f 318) args).run P w = .ok (.enter (ρ.f 318) args) w := enters_of L.f318 (by kernel_rfl) rfl
 obtain ⟨hnd, h19⟩ := Lib.numDigits_eq u h1 h2
 have hL : Lib.bitLen u ≤ 64 := Lib.bitLen_le u 64 (Nat.le_refl _) h2
 have hcell := htab (Lib.l10 (Lib.bitLen u)) (by omega)
 have hto : ((u : Int)).toNat = u := by omega
 generalize hq : Lib.l10 (Lib.bitLen u) = q at hnd h19 hcell
 generalize hT : 10 ^ q = T at hnd hcell
 have h20 : q < 20 := by omega
 have Hnd := Lib.hid hnd
 clear hnd htab
 go_enter L.f284, Body.n284_ntmps ρ
 go_wp2_with (first
  | (go_at_fn (ρ.f 129); refine (Any.bits_Len64 { L with } _ _ (by omega) (by omega)).mono ?_; rintro e w' ⟨rfl, rfl⟩)
  | (go_at_fn (ρ.f 317); refine (Any.internal_strconv_log10Pow2 { L with } _ (by first | exact hL | (rw [hto]; exact hL)) _).mono ?_; rintro e w' ⟨rfl, rfl⟩)
  | (go_at_fn (ρ.f 318); refine (Any.internal_strconv_bool2_int { L with } _ _).mono ?_; rintro e w' ⟨rfl, rfl⟩))
 all_goals go_ret
 all_goals (
  refine ⟨?_, rfl⟩
  have hnd := Hnd.out
  congr 2
  split at hnd <;> simp_all <;> omega)
set_option maxHeartbeats 6400000 in
set_option maxRecDepth 100000 in
theorem format_run (L : LaysM.n246 P ρ) (u : Nat) (hu1 : 100 ≤ u) (hu : u < 9223372036854775808) (w : World) (htab : PowAt P ρ w) :
 Calls P (ρ.f 246) #[.int .i64 u, .int .i64 10] w fun e w' => e = .returned (.string ⟨(Lib.decDigits u).toArray⟩) ∧ Below w.heap.size w w' := by
 have mixed := L.mixed
 have t2 := L.t2; have a2 := L.a2; have z2 := L.z2; have v2 := L.v2
 have t3 := L.t3; have a3 := L.a3; have z3 := L.z3; have v3 := L.v3
 have t9 := L.t9; have a9 := L.a9; have z9 := L.z9; have v9 := L.v9
 have t4 := L.t4; have a4 := L.a4; have z4 := L.z4; have v4 := L.v4
 have t171 := L.t171; have a171 := L.a171; have z171 := L.z171; have v171 := L.v171
 have t0 := L.t0; have a0 := L.a0; have z0 := L.z0; have v0 := L.v0
 have t53 := L.t53; have a53 := L.a53; have z53 := L.z53; have v53 := L.v53
 have t37 := L.t37; have a37 := L.a37; have z37 := L.z37; have v37 := L.v37
 have t5 := L.t5; have a5 := L.a5; have z5 := L.z5; have v5 := L.v5
 have t173 := L.t173; have a173 := L.a173; have z173 := L.z173; have v173 := L.v173
 have e283 : ∀ args w, (callFunc (ρ.f 283) args).run P w = .ok (.enter (ρ.f 283) args) w := enters_of L.f283 (by kernel_rfl) rfl
 have e284 : ∀ args w, (callFunc (ρ.f 284) args).run P w = .ok (.enter (ρ.f 284) args) w := enters_of L.f284 (by kernel_rfl) rfl
 have e285 : ∀ args w, (callFunc (ρ.f 285) args).run P w = .ok (.enter (ρ.f 285) args) w := enters_of L.f285 (by kernel_rfl) rfl
 have hu64 : u < 18446744073709551616 := by omega
 have hnd20 : Lib.nDigits u ≤ 20 := by have := Lib.numDigits_eq u (by omega) hu64; split at this <;> omega
 have hb3 : Lib.nDigits u ≤ 23 := by omega
 have hal : P.arrayLen (ρ.t 171) = 24 := by simp [Program.arrayLen, L.t171]
 have hsl1 : ∀ W, (Instr.sliceAt (ρ.t 171) (.pointer (some ⟨w.heap.size, 0, none⟩)) (some (.int .i64 1)) (some (.int .i64 (1 + (Lib.nDigits u : Int)))) none).run P W = .ok (.slice (some ⟨w.heap.size, 1, none⟩) (Lib.nDigits u) 23) W := fun W => by
  rw [run_sliceAt_array_lh W (ρ.t 171) ⟨w.heap.size, 0, none⟩ (by simp [Program.arrayLen, Program.elem, L.t171]) .i64 .i64 1 (1 + (Lib.nDigits u : Int)) (by omega) (by omega) (by rw [hal]; omega)]
  go_simp
  omega
 have hH0 := Lib.holds_zero w (ρ.t 171) (Lib.nDigits u) (by omega)
 have hfmt := Any.internal_strconv_formatBase10 { L with } w.heap.size 1 23 u (Array.replicate (Lib.nDigits u) 0) (w.alloc (.cells Lib.zeros24 (ρ.t 171))) hH0 (by rw [Array.size_replicate]; exact Lib.lt_pow_nDigits u) hu64 (by rw [Array.size_replicate]; omega)
 rw [Array.size_replicate] at hfmt
 have HH0 := Lib.hid hH0
 clear hH0 hal
 go_enter L.f246, Body.n246_ntmps ρ
 go_wp2_with (first
  | (go_at_fn (ρ.f 284); refine (digits_run { L with } u (by omega) hu64 _ (htab.alloc _)).mono ?_; rintro e w' ⟨rfl, rfl⟩))
 go_at_fn (ρ.f 285)
 refine hfmt.mono ?_
 rintro e w' ⟨rfl, k, v', dk, rfl, hF⟩
 have hcv : (convert (ρ.t 37) (ρ.t 9) (.slice (some ⟨w.heap.size, 1, none⟩) (Lib.nDigits u) 23)).run P ((putRow (fun (b : UInt8) => Value.int .u8 (b.toNat : Int)) (w.alloc (.cells Lib.zeros24 (ρ.t 171))) w.heap.size 1 dk).drewN k) = .ok (.string ⟨(Lib.decDigits u).toArray⟩) ((putRow (fun (b : UInt8) => Value.int .u8 (b.toNat : Int)) (w.alloc (.cells Lib.zeros24 (ρ.t 171))) w.heap.size 1 dk).drewN k) := by
  have h := run_convert_bytes_back (P := P) ((putRow (fun (b : UInt8) => Value.int .u8 (b.toNat : Int)) (w.alloc (.cells Lib.zeros24 (ρ.t 171))) w.heap.size 1 dk).drewN k) (ρ.t 37) (ρ.t 9) (ρ.t 5) ⟨w.heap.size, 1, none⟩ 23 (Lib.decDigits u) L.t37 L.t5 L.t9 (fun j hj => by
   rw [Lib.row_is_numeral hF j hj, Lib.add_plain, World.cell?_drewN]
   exact cell?_putRow (fun (b : UInt8) => Value.int .u8 (b.toNat : Int)) _ w.heap.size 1 _ dk HH0.out (by rw [hF.size, Array.size_replicate]) j (by rw [hF.size]; rw [Lib.decDigits_length] at hj; exact hj))
  rw [Lib.decDigits_length] at h
  exact h
 go_wp2
 go_ret
 obtain ⟨os, eo⟩ := Lib.fin_pos w (.cells Lib.zeros24 (ρ.t 171)) dk k
 refine ⟨rfl, ?_⟩
 rw [eo]
 exact below_grown w k os
set_option maxRecDepth 100000 in
theorem itoaI_run (L : LaysM.n243 P ρ) (u : Nat) (hu1 : 100 ≤ u) (hu : u < 9223372036854775808) (w : World) (htab : PowAt P ρ w) :
 Calls P (ρ.f 243) #[.int .i64 u] w fun e w' => e = .returned (.string ⟨(Lib.decDigits u).toArray⟩) ∧ Below w.heap.size w w' := by
 have mixed := L.mixed
 have t3 := L.t3; have a3 := L.a3; have z3 := L.z3; have v3 := L.v3
 have t9 := L.t9; have a9 := L.a9; have z9 := L.z9; have v9 := L.v9
 have t2 := L.t2; have a2 := L.a2; have z2 := L.z2; have v2 := L.v2
 have e246 : ∀ args w, (callFunc (ρ.f 246) args).run P w = .ok (.enter (ρ.f 246) args) w := enters_of L.f246 (by kernel_rfl) rfl
 go_enter L.f243, Body.n243_ntmps ρ
 go_wp2_with (go_at_fn (ρ.f 246); refine (format_run { L with } u hu1 hu _ htab).mono ?_; rintro e w' ⟨rfl, hb⟩)
 go_ret
 exact ⟨rfl, hb⟩
set_option maxRecDepth 100000 in
theorem itoa_run (L : LaysM.n171 P ρ) (u : Nat) (hu1 : 100 ≤ u) (hu : u < 9223372036854775808) (w : World) (htab : PowAt P ρ w) :
 Calls P (ρ.f 171) #[.int .i64 u] w fun e w' => e = .returned (.string ⟨(Lib.decDigits u).toArray⟩) ∧ Below w.heap.size w w' := by
 have mixed := L.mixed
 have t3 := L.t3; have a3 := L.a3; have z3 := L.z3; have v3 := L.v3
 have t9 := L.t9; have a9 := L.a9; have z9 := L.z9; have v9 := L.v9
 have e243 : ∀ args w, (callFunc (ρ.f 243) args).run P w = .ok (.enter (ρ.f 243) args) w := enters_of L.f243 (by kernel_rfl) rfl
 go_enter L.f171, Body.n171_ntmps ρ
 go_wp2_with (go_at_fn (ρ.f 243); refine (itoaI_run { L with } u hu1 hu _ htab).mono ?_; rintro e w' ⟨rfl, hb⟩)
 go_ret
 exact ⟨rfl, hb⟩
end
end YtcdceiloganlnaaGreatDoor
end Go.Proofs
namespace Go.Proofs
open Go.Shelf
def Tryz.lays146_ren:Go.Shelf.Ren:=⟨fun|146=>39|221=>156|268=>234|138=>235|143=>157|195=>290|197=>291|218=>292|219=>236|260=>330|217=>293|225=>294|224=>295|267=>296|266=>331|314=>332|n=>n,fun|31=>34|105=>320|46=>175|119=>343|139=>346|138=>345|146=>261|51=>260|n=>n,fun|1=>0|3=>2|4=>3|n=>n⟩
theorem Tryz.lays146 : Lays.n146 Tryz.prog Tryz.lays146_ren:=by constructor<;>first|kernel_rfl|(intro w;kernel_rfl)
end Go.Proofs
namespace Go.Proofs.YtcdceiloganlnaaGreatDoor
open Go.RowKit Go.Shelf
def splitC (c : UInt8) : List UInt8 → List (List UInt8)
 | [] => [[]]
 | x :: l => if x = c then [] :: splitC c l else (x :: (splitC c l).headD []) :: (splitC c l).tail
theorem ixb_eq (c : UInt8) (l : List UInt8) : Lib.indexByte (c :: l) c = 0 := by simp [Lib.indexByte]
theorem ixb_no {b c : UInt8} {l : List UInt8} (h : b ≠ c) (hi : Lib.indexByte l c = -1) : Lib.indexByte (b :: l) c = -1 := by simp [Lib.indexByte, h, hi]
theorem ixb_at {b c : UInt8} {l : List UInt8} (h : b ≠ c) (hi : Lib.indexByte l c ≠ -1) : Lib.indexByte (b :: l) c = Lib.indexByte l c + 1 := by simp [Lib.indexByte, h, hi]
theorem splitK_zero (sep : List UInt8) (l : List UInt8) : Lib.splitK sep 0 0 l = [l] := rfl
theorem splitK_no {c : UInt8} {k : Nat} {l : List UInt8} (h : Lib.indexByte l c = -1) : Lib.splitK [c] 0 (k + 1) l = [l] := by rw [Lib.splitK, Lib.index_one, h]; rfl
theorem splitK_at {c : UInt8} {k i : Nat} {l : List UInt8} (h : Lib.indexByte l c = i) : Lib.splitK [c] 0 (k + 1) l = l.take i :: Lib.splitK [c] 0 k (l.drop (i + 1)) := by
 rw [Lib.splitK, Lib.index_one, h]
 have : ¬ ((i : Int) == -1) = true := fun e => by have := beq_iff_eq.1 e; omega
 rw [if_neg this]
 simp
theorem splitK_one (c : UInt8) : ∀ l : List UInt8, Lib.splitK [c] 0 (l.count c) l = splitC c l
 | [] => rfl
 | b :: l => by
  have ih := splitK_one c l
  by_cases h : b = c
  ·subst h
   rw [List.count_cons_self, splitK_at (i := 0) (ixb_eq b l), splitC, if_pos rfl, ← ih]
   rfl
  ·rw [List.count_cons_of_ne (by simpa using h), splitC, if_neg h]
   cases hk : l.count c with
   | zero =>
    rw [hk, splitK_zero] at ih
    rw [← ih]; rfl
   | succ k =>
    rw [hk] at ih
    by_cases hi : Lib.indexByte l c = -1
    ·rw [splitK_no hi] at ih
     rw [splitK_no (ixb_no h hi), ← ih]; rfl
    ·have h0 := Lib.indexByte_ge l c
     obtain ⟨i, he⟩ : ∃ i : Nat, Lib.indexByte l c = i := ⟨(Lib.indexByte l c).toNat, by omega⟩
     rw [splitK_at he] at ih
     rw [splitK_at (i := i + 1) (by rw [ixb_at h hi, he]; rfl), ← ih]
     rfl
theorem splitB_one (c : UInt8) (s : ByteArray) : Lib.splitB ⟨#[c]⟩ 0 (s.data.toList.count c) s = (splitC c s.data.toList).map fun l => ⟨l.toArray⟩ := by
 have h := Lib.splitB_data ⟨#[c]⟩ 0 (s.data.toList.count c) s
 rw [show (ByteArray.mk #[c]).data.toList = [c] from rfl, splitK_one] at h
 rw [← h, List.map_map]
 have : ∀ x : ByteArray, ((fun l : List UInt8 => (⟨l.toArray⟩ : ByteArray)) ∘ fun x => x.data.toList) x = x := fun x => by simp
 rw [show ((fun l : List UInt8 => (⟨l.toArray⟩ : ByteArray)) ∘ fun x => x.data.toList) = id from funext this, List.map_id]
section
variable {P : Program} {ρ : Ren}
set_option maxHeartbeats 1000000 in
theorem split_run (L : Lays.n146 P ρ) (hi9 : (P.info? (ρ.t 9)).map (fun i => (i.zero, i.size, i.bytes)) = some (some (.string ByteArray.empty), 1, 16)) (s : ByteArray) (c : UInt8) (n : Nat) (hc : Lib.countB s ⟨#[c]⟩ = n) (w : World) (hs : s.size < 4294967281) :
 Calls P (ρ.f 146) #[.string s, .string ⟨#[c]⟩] w fun e w' =>
  e = .returned (.slice (some ⟨w.heap.size, 0, none⟩) (n + 1) (n + 1)) ∧ w' = w.alloc (.cells ((Lib.splitB ⟨#[c]⟩ 0 (n) s).map Value.string).toArray (ρ.t 9)) := by
 have h1 : 1 ≤ (ByteArray.mk #[c]).size := Nat.le_refl 1
 have hle := Lib.countB_le ⟨#[c]⟩ h1 s.size s (Nat.le_refl _)
 have hlen := Lib.splitB_all ⟨#[c]⟩ h1 0 _ s rfl
 have k := Any.strings_genSplit_core { L with } hi9 s ⟨#[c]⟩ 0 (-1) (Lib.countB s ⟨#[c]⟩ + 1) w hs h1 (Nat.zero_le _)
  (fun x d _ => (Any.strings_Index_one { L with } x c _).mono fun e w' ⟨h1, h2⟩ => ⟨by rw [h1, ← Lib.index_one], h2⟩)
  ((Any.strings_Count_one { L with } s c w).mono fun e w' ⟨h1, h2⟩ => ⟨by rw [h1]; show _ = Ending.returned (Value.int .i64 ((Lib.count s.data.toList [c] : Nat) : Int)); rw [Lib.count_one]; rfl, h2⟩) (by decide) (by decide) (by rw [if_pos (by decide)]; omega)
 rw [Nat.add_sub_cancel, hlen] at k
 have e2 : Lib.cellsOf (Lib.splitB ⟨#[c]⟩ 0 (Lib.countB s ⟨#[c]⟩) s) (Lib.countB s ⟨#[c]⟩ + 1) = ((Lib.splitB ⟨#[c]⟩ 0 (Lib.countB s ⟨#[c]⟩) s).map Value.string).toArray := by rw [← hlen]; exact Lib.cellsOf_full _
 rw [e2, hc] at k
 have t3 := L.t3; have t9 := L.t9; have t31 := L.t31
 have a3 := L.a3; have a9 := L.a9; have a31 := L.a31
 have z3 := L.z3; have v3 := L.v3; have z9 := L.z9; have v9 := L.v9; have z31 := L.z31; have v31 := L.v31
 have e221 : ∀ args w, (callFunc (ρ.f 221) args).run P w = .ok (.enter (ρ.f 221) args) w := enters_of L.f221 (by kernel_rfl) rfl
 go_enter L.f146, Body.n146_ntmps ρ
 go_wp2_with (go_at_fn (ρ.f 221); refine k.mono ?_; rintro e w' ⟨rfl, hw⟩; rw [hw])
 go_ret
 exact ⟨rfl, rfl⟩
end
def strsL (l : List (List UInt8)) : List PV := l.map fun x => .str ⟨x.toArray⟩
theorem ev_split (s : ByteArray) (c : UInt8) (hs : s.size < 4294967281) : Ev Tryz.prog 39 [.str s, .str ⟨#[c]⟩] [] (.sl false 1 (strsL (splitC c s.data.toList))) [] := by
 refine Ev.of_calls (by kernel_rfl) rfl rfl fun M w vals hmem hv => ?_
 obtain ⟨u1, us, e1, r1, hv⟩ := reps_cons.1 hv
 obtain ⟨u2, us, rfl, r2, hv⟩ := reps_cons.1 hv
 rw [reps_nil] at hv; subst hv
 have : vals = #[.string s, .string ⟨#[c]⟩] := by rw [← Array.toList_inj, e1, rep_str.1 r1, rep_str.1 r2]
 subst this
 refine (split_run Tryz.lays146 (by kernel_rfl) s c _ (Lib.count_one c _) w hs).mono ?_
 rintro e w' ⟨rfl, rfl⟩
 refine ⟨_, rfl, ?_, (Below.refl _ _).alloc (Nat.le_refl _) _⟩
 have hl : (splitC c s.data.toList).length = s.data.toList.count c + 1 := by
  have h := congrArg List.length (splitB_one c s)
  rw [List.length_map] at h
  rw [← h]
  have := Lib.splitB_all ⟨#[c]⟩ (Nat.le_refl 1) 0 (s.data.toList.count c) s (Lib.count_one c _)
  exact this
 refine rep_sl.2 ⟨_, _, by rw [show (strsL (splitC c s.data.toList)).length = s.data.toList.count c + 1 by simp [strsL, hl]], by simp [strsL, hl], fun e he => ?_, fun h => absurd h (by decide), fun _ => ⟨_, _, rfl, ?_⟩⟩
 ·obtain ⟨x, _, rfl⟩ := List.mem_map.1 he; rfl
 ·rw [splitB_one]
  have key : ∀ (l : List (List UInt8)) (vs : List Value) (o : Nat), (∀ j, j < l.length → vs[o + j]? = (l[j]?).map fun x => Value.string ⟨x.toArray⟩) → Locs (news M w.heap.size (w.alloc (.cells vs.toArray (Tryz.lays146_ren.t 9)))) [] 1 (strsL l) w.heap.size o := by
   intro l
   induction l with
   | nil => intro vs o _; exact locs_nil
   | cons x l ih =>
    intro vs o h
    refine locs_cons.2 ⟨(loc_one rfl (fun _ h => by cases h)).2 ⟨.string ⟨x.toArray⟩, ?_, rep_str.2 rfl⟩, ih vs (o + 1) fun j hj => ?_⟩
    ·have h0 := h 0 (by simp)
     simp only [Nat.add_zero, List.getElem?_cons_zero, Option.map_some] at h0
     exact news_new hmem (Nat.le_refl _) (by rw [World.cell?_alloc_new]; simpa using h0) rfl
    ·have := h (j + 1) (by simp; omega)
     rw [show o + 1 + j = o + (j + 1) by omega, this]; simp
  exact key _ _ 0 fun j hj => by simp [List.getElem?_map, Function.comp_def]
end Go.Proofs.YtcdceiloganlnaaGreatDoor
namespace Go.Proofs
open Go.Shelf
def Tryz.lays217_ren:Go.Shelf.Ren:=⟨fun|217=>293|266=>331|n=>n,id,id⟩
theorem Tryz.lays217 : Lays.n217 Tryz.prog Tryz.lays217_ren:=by constructor<;>first|kernel_rfl|(intro w;kernel_rfl)
end Go.Proofs
namespace Go.Proofs.YtcdceiloganlnaaGreatDoor
open Go.RowKit Go.Shelf
theorem idx89 (s : ByteArray) (c : Int) (w : World) : Calls Tryz.prog 293 #[.string s, .int .u8 c] w fun e w' => e = .returned (.int .i64 (Lib.indexByte s.data.toList c.toNat.toUInt8)) ∧ w' = w := Any.stringslite_IndexByte Tryz.lays217 s c w
def C16 : Cal := fun g args h => match g, args with
 | 293, [.str s, .int .u8 c] => some (.int .i64 (Lib.indexByte s.data.toList c.toNat.toUInt8), h)
 | _, _ => none
theorem ev_still {P : Program} {g : FuncId} {args : List PV} {r : PV} {v : Value} (hc : callable P g = true) (hr : ∀ M B, Rep M B r v) (ho : r.own = false)
 (h : ∀ (M : Mem) (B : Blk) (w : World) (vals : Array Value), Reps M B args vals.toList → Calls P g vals w fun e w' => e = .returned v ∧ w' = w) (hh : Objs) : Ev P g args hh r hh := by
 refine ⟨hc, fun out M B w vals hmem hheap hcnt hnew hv => (h M B w vals hv).mono ?_⟩
 rintro e w' ⟨rfl, rfl⟩
 refine ⟨v, M, B, rfl, hmem, MLe.refl _ _, Fr.refl _ _ _, hheap, hr M B, tl_no ho, fun b _ => ?_, fun b => ?_, fun b hb => ?_⟩
 ·rw [ownV_no ho]; exact Nat.le_refl _
 ·rw [ownV_no ho]; exact hcnt b
 ·rw [ownV_no ho]; exact hnew b hb
theorem C16_ok : calOK Tryz.prog C16 := by
 intro g args h r h' hv
 unfold C16 at hv
 split at hv
 ·rename_i s c
  injection hv with hv; injection hv with h1 h2; subst h1; subst h2
  refine ev_still (v := .int .i64 (Lib.indexByte s.data.toList c.toNat.toUInt8)) (by kernel_rfl) (fun _ _ => rep_int.2 rfl) rfl (fun M B w vals hv => ?_) h
  obtain ⟨u1, us, e1, r1, hv⟩ := reps_cons.1 hv
  obtain ⟨u2, us, rfl, r2, hv⟩ := reps_cons.1 hv
  rw [reps_nil] at hv
  subst hv
  rw [rep_str] at r1; rw [rep_int] at r2
  subst r1; subst r2
  have : vals = #[.string s, .int .u8 c] := by rw [← Array.toList_inj]; exact e1
  rw [this]
  exact idx89 s c w
 ·cases hv
end Go.Proofs.YtcdceiloganlnaaGreatDoor
namespace Go.Proofs.YtcdceiloganlnaaGreatDoor
open Go.RowKit
set_option maxRecDepth 1000000
def v7 (p : PV) (K : Int → Int → Bool → Int → R) : R := match p with | .agg [.int .i64 x0, .int .i64 x1, .bool x2, .int .u8 x3] => K x0 x1 x2 x3 | _ => none
theorem v7_ok (p : PV) : (∀ K : PV → R, v7 p (fun x0 x1 x2 x3 => K (.agg [.int .i64 x0, .int .i64 x1, .bool x2, .int .u8 x3])) = K p) ∨ (∀ K : PV → R, v7 p (fun x0 x1 x2 x3 => K (.agg [.int .i64 x0, .int .i64 x1, .bool x2, .int .u8 x3])) = none) := by
 unfold v7; split
 ·exact .inl fun _ => rfl
 ·exact .inr fun _ => rfl
@[simp] theorem v7_mk (x0 : Int) (x1 : Int) (x2 : Bool) (x3 : Int) (K : Int → Int → Bool → Int → R) : v7 (.agg [.int .i64 x0, .int .i64 x1, .bool x2, .int .u8 x3]) K = K x0 x1 x2 x3 := rfl
def v13 (p : PV) (K : ByteArray → Int → R) : R := match p with | .agg [.str x0, .int .u64 x1] => K x0 x1 | _ => none
theorem v13_ok (p : PV) : (∀ K : PV → R, v13 p (fun x0 x1 => K (.agg [.str x0, .int .u64 x1])) = K p) ∨ (∀ K : PV → R, v13 p (fun x0 x1 => K (.agg [.str x0, .int .u64 x1])) = none) := by
 unfold v13; split
 ·exact .inl fun _ => rfl
 ·exact .inr fun _ => rfl
@[simp] theorem v13_mk (x0 : ByteArray) (x1 : Int) (K : ByteArray → Int → R) : v13 (.agg [.str x0, .int .u64 x1]) K = K x0 x1 := rfl
def v18 (p : PV) (K : PV → R) : R := match p with | .agg [x0] => K x0 | _ => none
theorem v18_ok (p : PV) : (∀ K : PV → R, v18 p (fun x0 => K (.agg [x0])) = K p) ∨ (∀ K : PV → R, v18 p (fun x0 => K (.agg [x0])) = none) := by
 unfold v18; split
 ·exact .inl fun _ => rfl
 ·exact .inr fun _ => rfl
@[simp] theorem v18_mk (x0 : PV) (K : PV → R) : v18 (.agg [x0]) K = K x0 := rfl
def v27 (p : PV) (K : ByteArray → List PV → List PV → List PV → List PV → List PV → List PV → R) : R := match p with | .agg [.str x0, .sl false 5 x1, .sl false 9 x2, .sl false 3 x3, .sl false 3 x4, .sl false 2 x5, .sl false 3 x6] => K x0 x1 x2 x3 x4 x5 x6 | _ => none
theorem v27_ok (p : PV) : (∀ K : PV → R, v27 p (fun x0 x1 x2 x3 x4 x5 x6 => K (.agg [.str x0, .sl false 5 x1, .sl false 9 x2, .sl false 3 x3, .sl false 3 x4, .sl false 2 x5, .sl false 3 x6])) = K p) ∨ (∀ K : PV → R, v27 p (fun x0 x1 x2 x3 x4 x5 x6 => K (.agg [.str x0, .sl false 5 x1, .sl false 9 x2, .sl false 3 x3, .sl false 3 x4, .sl false 2 x5, .sl false 3 x6])) = none) := by
 unfold v27; split
 ·exact .inl fun _ => rfl
 ·exact .inr fun _ => rfl
@[simp] theorem v27_mk (x0 : ByteArray) (x1 : List PV) (x2 : List PV) (x3 : List PV) (x4 : List PV) (x5 : List PV) (x6 : List PV) (K : ByteArray → List PV → List PV → List PV → List PV → List PV → List PV → R) : v27 (.agg [.str x0, .sl false 5 x1, .sl false 9 x2, .sl false 3 x3, .sl false 3 x4, .sl false 2 x5, .sl false 3 x6]) K = K x0 x1 x2 x3 x4 x5 x6 := rfl
def v41 (p : PV) (K : Int → Int → Int → List PV → R) : R := match p with | .agg [.int .i64 x0, .int .i64 x1, .int .i64 x2, .sl false 4 x3] => K x0 x1 x2 x3 | _ => none
theorem v41_ok (p : PV) : (∀ K : PV → R, v41 p (fun x0 x1 x2 x3 => K (.agg [.int .i64 x0, .int .i64 x1, .int .i64 x2, .sl false 4 x3])) = K p) ∨ (∀ K : PV → R, v41 p (fun x0 x1 x2 x3 => K (.agg [.int .i64 x0, .int .i64 x1, .int .i64 x2, .sl false 4 x3])) = none) := by
 unfold v41; split
 ·exact .inl fun _ => rfl
 ·exact .inr fun _ => rfl
@[simp] theorem v41_mk (x0 : Int) (x1 : Int) (x2 : Int) (x3 : List PV) (K : Int → Int → Int → List PV → R) : v41 (.agg [.int .i64 x0, .int .i64 x1, .int .i64 x2, .sl false 4 x3]) K = K x0 x1 x2 x3 := rfl
def v57 (p : PV) (K : Int → Int → Int → Int → Int → R) : R := match p with | .agg [.int .u8 x0, .int .u8 x1, .int .u8 x2, .int .u8 x3, .int .u8 x4] => K x0 x1 x2 x3 x4 | _ => none
theorem v57_ok (p : PV) : (∀ K : PV → R, v57 p (fun x0 x1 x2 x3 x4 => K (.agg [.int .u8 x0, .int .u8 x1, .int .u8 x2, .int .u8 x3, .int .u8 x4])) = K p) ∨ (∀ K : PV → R, v57 p (fun x0 x1 x2 x3 x4 => K (.agg [.int .u8 x0, .int .u8 x1, .int .u8 x2, .int .u8 x3, .int .u8 x4])) = none) := by
 unfold v57; split
 ·exact .inl fun _ => rfl
 ·exact .inr fun _ => rfl
@[simp] theorem v57_mk (x0 : Int) (x1 : Int) (x2 : Int) (x3 : Int) (x4 : Int) (K : Int → Int → Int → Int → Int → R) : v57 (.agg [.int .u8 x0, .int .u8 x1, .int .u8 x2, .int .u8 x3, .int .u8 x4]) K = K x0 x1 x2 x3 x4 := rfl
def v63 (p : PV) (K : Int → Int → Int → Int → Int → List PV → List PV → List PV → List PV → R) : R := match p with | .agg [.int .u8 x0, .int .u8 x1, .int .u8 x2, .int .u8 x3, .int .u8 x4, .sl false 7 x5, .sl false 3 x6, .sl false 4 x7, .sl false 3 x8] => K x0 x1 x2 x3 x4 x5 x6 x7 x8 | _ => none
theorem v63_ok (p : PV) : (∀ K : PV → R, v63 p (fun x0 x1 x2 x3 x4 x5 x6 x7 x8 => K (.agg [.int .u8 x0, .int .u8 x1, .int .u8 x2, .int .u8 x3, .int .u8 x4, .sl false 7 x5, .sl false 3 x6, .sl false 4 x7, .sl false 3 x8])) = K p) ∨ (∀ K : PV → R, v63 p (fun x0 x1 x2 x3 x4 x5 x6 x7 x8 => K (.agg [.int .u8 x0, .int .u8 x1, .int .u8 x2, .int .u8 x3, .int .u8 x4, .sl false 7 x5, .sl false 3 x6, .sl false 4 x7, .sl false 3 x8])) = none) := by
 unfold v63; split
 ·exact .inl fun _ => rfl
 ·exact .inr fun _ => rfl
@[simp] theorem v63_mk (x0 : Int) (x1 : Int) (x2 : Int) (x3 : Int) (x4 : Int) (x5 : List PV) (x6 : List PV) (x7 : List PV) (x8 : List PV) (K : Int → Int → Int → Int → Int → List PV → List PV → List PV → List PV → R) : v63 (.agg [.int .u8 x0, .int .u8 x1, .int .u8 x2, .int .u8 x3, .int .u8 x4, .sl false 7 x5, .sl false 3 x6, .sl false 4 x7, .sl false 3 x8]) K = K x0 x1 x2 x3 x4 x5 x6 x7 x8 := rfl
def v66 (p : PV) (K : Int → Int → Int → R) : R := match p with | .agg [.int .u16 x0, .int .u16 x1, .int .u8 x2] => K x0 x1 x2 | _ => none
theorem v66_ok (p : PV) : (∀ K : PV → R, v66 p (fun x0 x1 x2 => K (.agg [.int .u16 x0, .int .u16 x1, .int .u8 x2])) = K p) ∨ (∀ K : PV → R, v66 p (fun x0 x1 x2 => K (.agg [.int .u16 x0, .int .u16 x1, .int .u8 x2])) = none) := by
 unfold v66; split
 ·exact .inl fun _ => rfl
 ·exact .inr fun _ => rfl
@[simp] theorem v66_mk (x0 : Int) (x1 : Int) (x2 : Int) (K : Int → Int → Int → R) : v66 (.agg [.int .u16 x0, .int .u16 x1, .int .u8 x2]) K = K x0 x1 x2 := rfl
def v81 (p : PV) (K : ByteArray → Bool → Bool → Bool → Int → R) : R := match p with | .agg [.str x0, .bool x1, .bool x2, .bool x3, .int .i64 x4] => K x0 x1 x2 x3 x4 | _ => none
theorem v81_ok (p : PV) : (∀ K : PV → R, v81 p (fun x0 x1 x2 x3 x4 => K (.agg [.str x0, .bool x1, .bool x2, .bool x3, .int .i64 x4])) = K p) ∨ (∀ K : PV → R, v81 p (fun x0 x1 x2 x3 x4 => K (.agg [.str x0, .bool x1, .bool x2, .bool x3, .int .i64 x4])) = none) := by
 unfold v81; split
 ·exact .inl fun _ => rfl
 ·exact .inr fun _ => rfl
@[simp] theorem v81_mk (x0 : ByteArray) (x1 : Bool) (x2 : Bool) (x3 : Bool) (x4 : Int) (K : ByteArray → Bool → Bool → Bool → Int → R) : v81 (.agg [.str x0, .bool x1, .bool x2, .bool x3, .int .i64 x4]) K = K x0 x1 x2 x3 x4 := rfl
def v86 (p : PV) (K : List PV → Int → Int → List PV → List PV → List PV → R) : R := match p with | .agg [.sl false 1 x0, .int .i64 x1, .int .i64 x2, .sl false 1 x3, .sl false 4 x4, .sl false 8 x5] => K x0 x1 x2 x3 x4 x5 | _ => none
theorem v86_ok (p : PV) : (∀ K : PV → R, v86 p (fun x0 x1 x2 x3 x4 x5 => K (.agg [.sl false 1 x0, .int .i64 x1, .int .i64 x2, .sl false 1 x3, .sl false 4 x4, .sl false 8 x5])) = K p) ∨ (∀ K : PV → R, v86 p (fun x0 x1 x2 x3 x4 x5 => K (.agg [.sl false 1 x0, .int .i64 x1, .int .i64 x2, .sl false 1 x3, .sl false 4 x4, .sl false 8 x5])) = none) := by
 unfold v86; split
 ·exact .inl fun _ => rfl
 ·exact .inr fun _ => rfl
@[simp] theorem v86_mk (x0 : List PV) (x1 : Int) (x2 : Int) (x3 : List PV) (x4 : List PV) (x5 : List PV) (K : List PV → Int → Int → List PV → List PV → List PV → R) : v86 (.agg [.sl false 1 x0, .int .i64 x1, .int .i64 x2, .sl false 1 x3, .sl false 4 x4, .sl false 8 x5]) K = K x0 x1 x2 x3 x4 x5 := rfl
def v88 (p : PV) (K : ByteArray → List PV → List PV → List PV → Int → Int → List PV → List PV → List PV → R) : R := match p with | .agg [.str x0, .sl false 1 x1, .sl false 1 x2, .sl false 1 x3, .int .i64 x4, .int .i64 x5, .sl false 1 x6, .sl false 4 x7, .sl false 8 x8] => K x0 x1 x2 x3 x4 x5 x6 x7 x8 | _ => none
theorem v88_ok (p : PV) : (∀ K : PV → R, v88 p (fun x0 x1 x2 x3 x4 x5 x6 x7 x8 => K (.agg [.str x0, .sl false 1 x1, .sl false 1 x2, .sl false 1 x3, .int .i64 x4, .int .i64 x5, .sl false 1 x6, .sl false 4 x7, .sl false 8 x8])) = K p) ∨ (∀ K : PV → R, v88 p (fun x0 x1 x2 x3 x4 x5 x6 x7 x8 => K (.agg [.str x0, .sl false 1 x1, .sl false 1 x2, .sl false 1 x3, .int .i64 x4, .int .i64 x5, .sl false 1 x6, .sl false 4 x7, .sl false 8 x8])) = none) := by
 unfold v88; split
 ·exact .inl fun _ => rfl
 ·exact .inr fun _ => rfl
@[simp] theorem v88_mk (x0 : ByteArray) (x1 : List PV) (x2 : List PV) (x3 : List PV) (x4 : Int) (x5 : Int) (x6 : List PV) (x7 : List PV) (x8 : List PV) (K : ByteArray → List PV → List PV → List PV → Int → Int → List PV → List PV → List PV → R) : v88 (.agg [.str x0, .sl false 1 x1, .sl false 1 x2, .sl false 1 x3, .int .i64 x4, .int .i64 x5, .sl false 1 x6, .sl false 4 x7, .sl false 8 x8]) K = K x0 x1 x2 x3 x4 x5 x6 x7 x8 := rfl
def v93 (p : PV) (K : ByteArray → Int → Int → Int → R) : R := match p with | .agg [.str x0, .int .i64 x1, .int .i64 x2, .int .i64 x3] => K x0 x1 x2 x3 | _ => none
theorem v93_ok (p : PV) : (∀ K : PV → R, v93 p (fun x0 x1 x2 x3 => K (.agg [.str x0, .int .i64 x1, .int .i64 x2, .int .i64 x3])) = K p) ∨ (∀ K : PV → R, v93 p (fun x0 x1 x2 x3 => K (.agg [.str x0, .int .i64 x1, .int .i64 x2, .int .i64 x3])) = none) := by
 unfold v93; split
 ·exact .inl fun _ => rfl
 ·exact .inr fun _ => rfl
@[simp] theorem v93_mk (x0 : ByteArray) (x1 : Int) (x2 : Int) (x3 : Int) (K : ByteArray → Int → Int → Int → R) : v93 (.agg [.str x0, .int .i64 x1, .int .i64 x2, .int .i64 x3]) K = K x0 x1 x2 x3 := rfl
def v96 (p : PV) (K : Int → Int → Int → Int → Int → Int → List PV → List PV → R) : R := match p with | .agg [.int .i64 x0, .int .i64 x1, .int .i64 x2, .int .i64 x3, .int .i64 x4, .int .i64 x5, .sl false 4 x6, .sl false 5 x7] => K x0 x1 x2 x3 x4 x5 x6 x7 | _ => none
theorem v96_ok (p : PV) : (∀ K : PV → R, v96 p (fun x0 x1 x2 x3 x4 x5 x6 x7 => K (.agg [.int .i64 x0, .int .i64 x1, .int .i64 x2, .int .i64 x3, .int .i64 x4, .int .i64 x5, .sl false 4 x6, .sl false 5 x7])) = K p) ∨ (∀ K : PV → R, v96 p (fun x0 x1 x2 x3 x4 x5 x6 x7 => K (.agg [.int .i64 x0, .int .i64 x1, .int .i64 x2, .int .i64 x3, .int .i64 x4, .int .i64 x5, .sl false 4 x6, .sl false 5 x7])) = none) := by
 unfold v96; split
 ·exact .inl fun _ => rfl
 ·exact .inr fun _ => rfl
@[simp] theorem v96_mk (x0 : Int) (x1 : Int) (x2 : Int) (x3 : Int) (x4 : Int) (x5 : Int) (x6 : List PV) (x7 : List PV) (K : Int → Int → Int → Int → Int → Int → List PV → List PV → R) : v96 (.agg [.int .i64 x0, .int .i64 x1, .int .i64 x2, .int .i64 x3, .int .i64 x4, .int .i64 x5, .sl false 4 x6, .sl false 5 x7]) K = K x0 x1 x2 x3 x4 x5 x6 x7 := rfl
def v98 (p : PV) (K : Int → Int → Int → Int → List PV → R) : R := match p with | .agg [.int .i64 x0, .int .i64 x1, .int .i64 x2, .int .i64 x3, .sl false 4 x4] => K x0 x1 x2 x3 x4 | _ => none
theorem v98_ok (p : PV) : (∀ K : PV → R, v98 p (fun x0 x1 x2 x3 x4 => K (.agg [.int .i64 x0, .int .i64 x1, .int .i64 x2, .int .i64 x3, .sl false 4 x4])) = K p) ∨ (∀ K : PV → R, v98 p (fun x0 x1 x2 x3 x4 => K (.agg [.int .i64 x0, .int .i64 x1, .int .i64 x2, .int .i64 x3, .sl false 4 x4])) = none) := by
 unfold v98; split
 ·exact .inl fun _ => rfl
 ·exact .inr fun _ => rfl
@[simp] theorem v98_mk (x0 : Int) (x1 : Int) (x2 : Int) (x3 : Int) (x4 : List PV) (K : Int → Int → Int → Int → List PV → R) : v98 (.agg [.int .i64 x0, .int .i64 x1, .int .i64 x2, .int .i64 x3, .sl false 4 x4]) K = K x0 x1 x2 x3 x4 := rfl
def v101 (p : PV) (K : ByteArray → ByteArray → List PV → R) : R := match p with | .agg [.str x0, .str x1, .sl false 1 x2] => K x0 x1 x2 | _ => none
theorem v101_ok (p : PV) : (∀ K : PV → R, v101 p (fun x0 x1 x2 => K (.agg [.str x0, .str x1, .sl false 1 x2])) = K p) ∨ (∀ K : PV → R, v101 p (fun x0 x1 x2 => K (.agg [.str x0, .str x1, .sl false 1 x2])) = none) := by
 unfold v101; split
 ·exact .inl fun _ => rfl
 ·exact .inr fun _ => rfl
@[simp] theorem v101_mk (x0 : ByteArray) (x1 : ByteArray) (x2 : List PV) (K : ByteArray → ByteArray → List PV → R) : v101 (.agg [.str x0, .str x1, .sl false 1 x2]) K = K x0 x1 x2 := rfl
def v104 (p : PV) (K : ByteArray → List PV → R) : R := match p with | .agg [.str x0, .sl false 2 x1] => K x0 x1 | _ => none
theorem v104_ok (p : PV) : (∀ K : PV → R, v104 p (fun x0 x1 => K (.agg [.str x0, .sl false 2 x1])) = K p) ∨ (∀ K : PV → R, v104 p (fun x0 x1 => K (.agg [.str x0, .sl false 2 x1])) = none) := by
 unfold v104; split
 ·exact .inl fun _ => rfl
 ·exact .inr fun _ => rfl
@[simp] theorem v104_mk (x0 : ByteArray) (x1 : List PV) (K : ByteArray → List PV → R) : v104 (.agg [.str x0, .sl false 2 x1]) K = K x0 x1 := rfl
def v106 (p : PV) (K : ByteArray → ByteArray → R) : R := match p with | .agg [.str x0, .str x1] => K x0 x1 | _ => none
theorem v106_ok (p : PV) : (∀ K : PV → R, v106 p (fun x0 x1 => K (.agg [.str x0, .str x1])) = K p) ∨ (∀ K : PV → R, v106 p (fun x0 x1 => K (.agg [.str x0, .str x1])) = none) := by
 unfold v106; split
 ·exact .inl fun _ => rfl
 ·exact .inr fun _ => rfl
@[simp] theorem v106_mk (x0 : ByteArray) (x1 : ByteArray) (K : ByteArray → ByteArray → R) : v106 (.agg [.str x0, .str x1]) K = K x0 x1 := rfl
def v109 (p : PV) (K : ByteArray → List PV → Int → R) : R := match p with | .agg [.str x0, .sl false 2 x1, .int .i64 x2] => K x0 x1 x2 | _ => none
theorem v109_ok (p : PV) : (∀ K : PV → R, v109 p (fun x0 x1 x2 => K (.agg [.str x0, .sl false 2 x1, .int .i64 x2])) = K p) ∨ (∀ K : PV → R, v109 p (fun x0 x1 x2 => K (.agg [.str x0, .sl false 2 x1, .int .i64 x2])) = none) := by
 unfold v109; split
 ·exact .inl fun _ => rfl
 ·exact .inr fun _ => rfl
@[simp] theorem v109_mk (x0 : ByteArray) (x1 : List PV) (x2 : Int) (K : ByteArray → List PV → Int → R) : v109 (.agg [.str x0, .sl false 2 x1, .int .i64 x2]) K = K x0 x1 x2 := rfl
def v111 (p : PV) (K : ByteArray → Int → R) : R := match p with | .agg [.str x0, .int .i64 x1] => K x0 x1 | _ => none
theorem v111_ok (p : PV) : (∀ K : PV → R, v111 p (fun x0 x1 => K (.agg [.str x0, .int .i64 x1])) = K p) ∨ (∀ K : PV → R, v111 p (fun x0 x1 => K (.agg [.str x0, .int .i64 x1])) = none) := by
 unfold v111; split
 ·exact .inl fun _ => rfl
 ·exact .inr fun _ => rfl
@[simp] theorem v111_mk (x0 : ByteArray) (x1 : Int) (K : ByteArray → Int → R) : v111 (.agg [.str x0, .int .i64 x1]) K = K x0 x1 := rfl
def v118 (p : PV) (K : PV → List PV → R) : R := match p with | .agg [x0, .sl false 1 x1] => K x0 x1 | _ => none
theorem v118_ok (p : PV) : (∀ K : PV → R, v118 p (fun x0 x1 => K (.agg [x0, .sl false 1 x1])) = K p) ∨ (∀ K : PV → R, v118 p (fun x0 x1 => K (.agg [x0, .sl false 1 x1])) = none) := by
 unfold v118; split
 ·exact .inl fun _ => rfl
 ·exact .inr fun _ => rfl
@[simp] theorem v118_mk (x0 : PV) (x1 : List PV) (K : PV → List PV → R) : v118 (.agg [x0, .sl false 1 x1]) K = K x0 x1 := rfl
def v131 (p : PV) (K : List PV → R) : R := match p with | .agg [.sl false 5 x0] => K x0 | _ => none
theorem v131_ok (p : PV) : (∀ K : PV → R, v131 p (fun x0 => K (.agg [.sl false 5 x0])) = K p) ∨ (∀ K : PV → R, v131 p (fun x0 => K (.agg [.sl false 5 x0])) = none) := by
 unfold v131; split
 ·exact .inl fun _ => rfl
 ·exact .inr fun _ => rfl
@[simp] theorem v131_mk (x0 : List PV) (K : List PV → R) : v131 (.agg [.sl false 5 x0]) K = K x0 := rfl
def v161 (p : PV) (K : PV → Int → List PV → R) : R := match p with | .agg [x0, .int .i64 x1, .sl false 1 x2] => K x0 x1 x2 | _ => none
theorem v161_ok (p : PV) : (∀ K : PV → R, v161 p (fun x0 x1 x2 => K (.agg [x0, .int .i64 x1, .sl false 1 x2])) = K p) ∨ (∀ K : PV → R, v161 p (fun x0 x1 x2 => K (.agg [x0, .int .i64 x1, .sl false 1 x2])) = none) := by
 unfold v161; split
 ·exact .inl fun _ => rfl
 ·exact .inr fun _ => rfl
@[simp] theorem v161_mk (x0 : PV) (x1 : Int) (x2 : List PV) (K : PV → Int → List PV → R) : v161 (.agg [x0, .int .i64 x1, .sl false 1 x2]) K = K x0 x1 x2 := rfl
def v167 (p : PV) (K : PV → ByteArray → List PV → List PV → List PV → List PV → List PV → List PV → List PV → Int → R) : R := match p with | .agg [x0, .str x1, .sl false 5 x2, .sl false 9 x3, .sl false 3 x4, .sl false 3 x5, .sl false 2 x6, .sl false 3 x7, .sl false 1 x8, .int .i64 x9] => K x0 x1 x2 x3 x4 x5 x6 x7 x8 x9 | _ => none
theorem v167_ok (p : PV) : (∀ K : PV → R, v167 p (fun x0 x1 x2 x3 x4 x5 x6 x7 x8 x9 => K (.agg [x0, .str x1, .sl false 5 x2, .sl false 9 x3, .sl false 3 x4, .sl false 3 x5, .sl false 2 x6, .sl false 3 x7, .sl false 1 x8, .int .i64 x9])) = K p) ∨ (∀ K : PV → R, v167 p (fun x0 x1 x2 x3 x4 x5 x6 x7 x8 x9 => K (.agg [x0, .str x1, .sl false 5 x2, .sl false 9 x3, .sl false 3 x4, .sl false 3 x5, .sl false 2 x6, .sl false 3 x7, .sl false 1 x8, .int .i64 x9])) = none) := by
 unfold v167; split
 ·exact .inl fun _ => rfl
 ·exact .inr fun _ => rfl
@[simp] theorem v167_mk (x0 : PV) (x1 : ByteArray) (x2 : List PV) (x3 : List PV) (x4 : List PV) (x5 : List PV) (x6 : List PV) (x7 : List PV) (x8 : List PV) (x9 : Int) (K : PV → ByteArray → List PV → List PV → List PV → List PV → List PV → List PV → List PV → Int → R) : v167 (.agg [x0, .str x1, .sl false 5 x2, .sl false 9 x3, .sl false 3 x4, .sl false 3 x5, .sl false 2 x6, .sl false 3 x7, .sl false 1 x8, .int .i64 x9]) K = K x0 x1 x2 x3 x4 x5 x6 x7 x8 x9 := rfl
def v181 (p : PV) (K : Int → Int → Int → Int → List PV → List PV → List PV → R) : R := match p with | .agg [.int .u8 x0, .int .u8 x1, .int .u8 x2, .int .u8 x3, .sl false 2 x4, .sl false 3 x5, .sl false 1 x6] => K x0 x1 x2 x3 x4 x5 x6 | _ => none
theorem v181_ok (p : PV) : (∀ K : PV → R, v181 p (fun x0 x1 x2 x3 x4 x5 x6 => K (.agg [.int .u8 x0, .int .u8 x1, .int .u8 x2, .int .u8 x3, .sl false 2 x4, .sl false 3 x5, .sl false 1 x6])) = K p) ∨ (∀ K : PV → R, v181 p (fun x0 x1 x2 x3 x4 x5 x6 => K (.agg [.int .u8 x0, .int .u8 x1, .int .u8 x2, .int .u8 x3, .sl false 2 x4, .sl false 3 x5, .sl false 1 x6])) = none) := by
 unfold v181; split
 ·exact .inl fun _ => rfl
 ·exact .inr fun _ => rfl
@[simp] theorem v181_mk (x0 : Int) (x1 : Int) (x2 : Int) (x3 : Int) (x4 : List PV) (x5 : List PV) (x6 : List PV) (K : Int → Int → Int → Int → List PV → List PV → List PV → R) : v181 (.agg [.int .u8 x0, .int .u8 x1, .int .u8 x2, .int .u8 x3, .sl false 2 x4, .sl false 3 x5, .sl false 1 x6]) K = K x0 x1 x2 x3 x4 x5 x6 := rfl
def v186 (p : PV) (K : Int → Int → Int → R) : R := match p with | .agg [.int .u8 x0, .int .u8 x1, .int .u8 x2] => K x0 x1 x2 | _ => none
theorem v186_ok (p : PV) : (∀ K : PV → R, v186 p (fun x0 x1 x2 => K (.agg [.int .u8 x0, .int .u8 x1, .int .u8 x2])) = K p) ∨ (∀ K : PV → R, v186 p (fun x0 x1 x2 => K (.agg [.int .u8 x0, .int .u8 x1, .int .u8 x2])) = none) := by
 unfold v186; split
 ·exact .inl fun _ => rfl
 ·exact .inr fun _ => rfl
@[simp] theorem v186_mk (x0 : Int) (x1 : Int) (x2 : Int) (K : Int → Int → Int → R) : v186 (.agg [.int .u8 x0, .int .u8 x1, .int .u8 x2]) K = K x0 x1 x2 := rfl
def v187 (p : PV) (K : Int → Int → Int → Int → R) : R := match p with | .agg [.int .u8 x0, .int .u8 x1, .int .u8 x2, .int .u8 x3] => K x0 x1 x2 x3 | _ => none
theorem v187_ok (p : PV) : (∀ K : PV → R, v187 p (fun x0 x1 x2 x3 => K (.agg [.int .u8 x0, .int .u8 x1, .int .u8 x2, .int .u8 x3])) = K p) ∨ (∀ K : PV → R, v187 p (fun x0 x1 x2 x3 => K (.agg [.int .u8 x0, .int .u8 x1, .int .u8 x2, .int .u8 x3])) = none) := by
 unfold v187; split
 ·exact .inl fun _ => rfl
 ·exact .inr fun _ => rfl
@[simp] theorem v187_mk (x0 : Int) (x1 : Int) (x2 : Int) (x3 : Int) (K : Int → Int → Int → Int → R) : v187 (.agg [.int .u8 x0, .int .u8 x1, .int .u8 x2, .int .u8 x3]) K = K x0 x1 x2 x3 := rfl
def v189 (p : PV) (K : Int → Int → Int → R) : R := match p with | .agg [.int .i8 x0, .int .i8 x1, .int .i8 x2] => K x0 x1 x2 | _ => none
theorem v189_ok (p : PV) : (∀ K : PV → R, v189 p (fun x0 x1 x2 => K (.agg [.int .i8 x0, .int .i8 x1, .int .i8 x2])) = K p) ∨ (∀ K : PV → R, v189 p (fun x0 x1 x2 => K (.agg [.int .i8 x0, .int .i8 x1, .int .i8 x2])) = none) := by
 unfold v189; split
 ·exact .inl fun _ => rfl
 ·exact .inr fun _ => rfl
@[simp] theorem v189_mk (x0 : Int) (x1 : Int) (x2 : Int) (K : Int → Int → Int → R) : v189 (.agg [.int .i8 x0, .int .i8 x1, .int .i8 x2]) K = K x0 x1 x2 := rfl
def v191 (p : PV) (K : Int → ByteArray → Int → Int → Int → R) : R := match p with | .agg [.int .i64 x0, .str x1, .int .i64 x2, .int .i64 x3, .int .i64 x4] => K x0 x1 x2 x3 x4 | _ => none
theorem v191_ok (p : PV) : (∀ K : PV → R, v191 p (fun x0 x1 x2 x3 x4 => K (.agg [.int .i64 x0, .str x1, .int .i64 x2, .int .i64 x3, .int .i64 x4])) = K p) ∨ (∀ K : PV → R, v191 p (fun x0 x1 x2 x3 x4 => K (.agg [.int .i64 x0, .str x1, .int .i64 x2, .int .i64 x3, .int .i64 x4])) = none) := by
 unfold v191; split
 ·exact .inl fun _ => rfl
 ·exact .inr fun _ => rfl
@[simp] theorem v191_mk (x0 : Int) (x1 : ByteArray) (x2 : Int) (x3 : Int) (x4 : Int) (K : Int → ByteArray → Int → Int → Int → R) : v191 (.agg [.int .i64 x0, .str x1, .int .i64 x2, .int .i64 x3, .int .i64 x4]) K = K x0 x1 x2 x3 x4 := rfl
def v227 (p : PV) (K : Bool → Bool → Bool → R) : R := match p with | .agg [.bool x0, .bool x1, .bool x2] => K x0 x1 x2 | _ => none
theorem v227_ok (p : PV) : (∀ K : PV → R, v227 p (fun x0 x1 x2 => K (.agg [.bool x0, .bool x1, .bool x2])) = K p) ∨ (∀ K : PV → R, v227 p (fun x0 x1 x2 => K (.agg [.bool x0, .bool x1, .bool x2])) = none) := by
 unfold v227; split
 ·exact .inl fun _ => rfl
 ·exact .inr fun _ => rfl
@[simp] theorem v227_mk (x0 : Bool) (x1 : Bool) (x2 : Bool) (K : Bool → Bool → Bool → R) : v227 (.agg [.bool x0, .bool x1, .bool x2]) K = K x0 x1 x2 := rfl
def v228 (p : PV) (K : ByteArray → ByteArray → ByteArray → R) : R := match p with | .agg [.str x0, .str x1, .str x2] => K x0 x1 x2 | _ => none
theorem v228_ok (p : PV) : (∀ K : PV → R, v228 p (fun x0 x1 x2 => K (.agg [.str x0, .str x1, .str x2])) = K p) ∨ (∀ K : PV → R, v228 p (fun x0 x1 x2 => K (.agg [.str x0, .str x1, .str x2])) = none) := by
 unfold v228; split
 ·exact .inl fun _ => rfl
 ·exact .inr fun _ => rfl
@[simp] theorem v228_mk (x0 : ByteArray) (x1 : ByteArray) (x2 : ByteArray) (K : ByteArray → ByteArray → ByteArray → R) : v228 (.agg [.str x0, .str x1, .str x2]) K = K x0 x1 x2 := rfl
def v230 (p : PV) (K : List PV → List PV → R) : R := match p with | .agg [.sl false 3 x0, .sl false 3 x1] => K x0 x1 | _ => none
theorem v230_ok (p : PV) : (∀ K : PV → R, v230 p (fun x0 x1 => K (.agg [.sl false 3 x0, .sl false 3 x1])) = K p) ∨ (∀ K : PV → R, v230 p (fun x0 x1 => K (.agg [.sl false 3 x0, .sl false 3 x1])) = none) := by
 unfold v230; split
 ·exact .inl fun _ => rfl
 ·exact .inr fun _ => rfl
@[simp] theorem v230_mk (x0 : List PV) (x1 : List PV) (K : List PV → List PV → R) : v230 (.agg [.sl false 3 x0, .sl false 3 x1]) K = K x0 x1 := rfl
def v231 (p : PV) (K : ByteArray → ByteArray → R) : R := match p with | .agg [.str x0, .str x1] => K x0 x1 | _ => none
theorem v231_ok (p : PV) : (∀ K : PV → R, v231 p (fun x0 x1 => K (.agg [.str x0, .str x1])) = K p) ∨ (∀ K : PV → R, v231 p (fun x0 x1 => K (.agg [.str x0, .str x1])) = none) := by
 unfold v231; split
 ·exact .inl fun _ => rfl
 ·exact .inr fun _ => rfl
@[simp] theorem v231_mk (x0 : ByteArray) (x1 : ByteArray) (K : ByteArray → ByteArray → R) : v231 (.agg [.str x0, .str x1]) K = K x0 x1 := rfl
def v247 (p : PV) (K : List PV → Int → Int → Int → R) : R := match p with | .agg [.sl false 5 x0, .int .i64 x1, .int .i64 x2, .int .i64 x3] => K x0 x1 x2 x3 | _ => none
theorem v247_ok (p : PV) : (∀ K : PV → R, v247 p (fun x0 x1 x2 x3 => K (.agg [.sl false 5 x0, .int .i64 x1, .int .i64 x2, .int .i64 x3])) = K p) ∨ (∀ K : PV → R, v247 p (fun x0 x1 x2 x3 => K (.agg [.sl false 5 x0, .int .i64 x1, .int .i64 x2, .int .i64 x3])) = none) := by
 unfold v247; split
 ·exact .inl fun _ => rfl
 ·exact .inr fun _ => rfl
@[simp] theorem v247_mk (x0 : List PV) (x1 : Int) (x2 : Int) (x3 : Int) (K : List PV → Int → Int → Int → R) : v247 (.agg [.sl false 5 x0, .int .i64 x1, .int .i64 x2, .int .i64 x3]) K = K x0 x1 x2 x3 := rfl
def v270 (p : PV) (K : Int → Int → PV → R) : R := match p with | .agg [.int .i64 x0, .int .i64 x1, x2] => K x0 x1 x2 | _ => none
theorem v270_ok (p : PV) : (∀ K : PV → R, v270 p (fun x0 x1 x2 => K (.agg [.int .i64 x0, .int .i64 x1, x2])) = K p) ∨ (∀ K : PV → R, v270 p (fun x0 x1 x2 => K (.agg [.int .i64 x0, .int .i64 x1, x2])) = none) := by
 unfold v270; split
 ·exact .inl fun _ => rfl
 ·exact .inr fun _ => rfl
@[simp] theorem v270_mk (x0 : Int) (x1 : Int) (x2 : PV) (K : Int → Int → PV → R) : v270 (.agg [.int .i64 x0, .int .i64 x1, x2]) K = K x0 x1 x2 := rfl
def v291 (p : PV) (K : PV → PV → R) : R := match p with | .agg [x0, x1] => K x0 x1 | _ => none
theorem v291_ok (p : PV) : (∀ K : PV → R, v291 p (fun x0 x1 => K (.agg [x0, x1])) = K p) ∨ (∀ K : PV → R, v291 p (fun x0 x1 => K (.agg [x0, x1])) = none) := by
 unfold v291; split
 ·exact .inl fun _ => rfl
 ·exact .inr fun _ => rfl
@[simp] theorem v291_mk (x0 : PV) (x1 : PV) (K : PV → PV → R) : v291 (.agg [x0, x1]) K = K x0 x1 := rfl
def v300 (p : PV) (K : Int → Int → R) : R := match p with | .agg [.int .i8 x0, .int .i8 x1] => K x0 x1 | _ => none
theorem v300_ok (p : PV) : (∀ K : PV → R, v300 p (fun x0 x1 => K (.agg [.int .i8 x0, .int .i8 x1])) = K p) ∨ (∀ K : PV → R, v300 p (fun x0 x1 => K (.agg [.int .i8 x0, .int .i8 x1])) = none) := by
 unfold v300; split
 ·exact .inl fun _ => rfl
 ·exact .inr fun _ => rfl
@[simp] theorem v300_mk (x0 : Int) (x1 : Int) (K : Int → Int → R) : v300 (.agg [.int .i8 x0, .int .i8 x1]) K = K x0 x1 := rfl
def v302 (p : PV) (K : List PV → Int → Int → R) : R := match p with | .agg [.sl false 1 x0, .int .i64 x1, .int .i64 x2] => K x0 x1 x2 | _ => none
theorem v302_ok (p : PV) : (∀ K : PV → R, v302 p (fun x0 x1 x2 => K (.agg [.sl false 1 x0, .int .i64 x1, .int .i64 x2])) = K p) ∨ (∀ K : PV → R, v302 p (fun x0 x1 x2 => K (.agg [.sl false 1 x0, .int .i64 x1, .int .i64 x2])) = none) := by
 unfold v302; split
 ·exact .inl fun _ => rfl
 ·exact .inr fun _ => rfl
@[simp] theorem v302_mk (x0 : List PV) (x1 : Int) (x2 : Int) (K : List PV → Int → Int → R) : v302 (.agg [.sl false 1 x0, .int .i64 x1, .int .i64 x2]) K = K x0 x1 x2 := rfl
def v330 (p : PV) (K : Int → Int → Bool → R) : R := match p with | .agg [.int .i64 x0, .int .i64 x1, .bool x2] => K x0 x1 x2 | _ => none
theorem v330_ok (p : PV) : (∀ K : PV → R, v330 p (fun x0 x1 x2 => K (.agg [.int .i64 x0, .int .i64 x1, .bool x2])) = K p) ∨ (∀ K : PV → R, v330 p (fun x0 x1 x2 => K (.agg [.int .i64 x0, .int .i64 x1, .bool x2])) = none) := by
 unfold v330; split
 ·exact .inl fun _ => rfl
 ·exact .inr fun _ => rfl
@[simp] theorem v330_mk (x0 : Int) (x1 : Int) (x2 : Bool) (K : Int → Int → Bool → R) : v330 (.agg [.int .i64 x0, .int .i64 x1, .bool x2]) K = K x0 x1 x2 := rfl
def v344 (p : PV) (K : Int → Int → R) : R := match p with | .agg [.int .u8 x0, .int .u8 x1] => K x0 x1 | _ => none
theorem v344_ok (p : PV) : (∀ K : PV → R, v344 p (fun x0 x1 => K (.agg [.int .u8 x0, .int .u8 x1])) = K p) ∨ (∀ K : PV → R, v344 p (fun x0 x1 => K (.agg [.int .u8 x0, .int .u8 x1])) = none) := by
 unfold v344; split
 ·exact .inl fun _ => rfl
 ·exact .inr fun _ => rfl
@[simp] theorem v344_mk (x0 : Int) (x1 : Int) (K : Int → Int → R) : v344 (.agg [.int .u8 x0, .int .u8 x1]) K = K x0 x1 := rfl
def v349 (p : PV) (K : PV → PV → PV → ByteArray → R) : R := match p with | .agg [x0, x1, x2, .str x3] => K x0 x1 x2 x3 | _ => none
theorem v349_ok (p : PV) : (∀ K : PV → R, v349 p (fun x0 x1 x2 x3 => K (.agg [x0, x1, x2, .str x3])) = K p) ∨ (∀ K : PV → R, v349 p (fun x0 x1 x2 x3 => K (.agg [x0, x1, x2, .str x3])) = none) := by
 unfold v349; split
 ·exact .inl fun _ => rfl
 ·exact .inr fun _ => rfl
@[simp] theorem v349_mk (x0 : PV) (x1 : PV) (x2 : PV) (x3 : ByteArray) (K : PV → PV → PV → ByteArray → R) : v349 (.agg [x0, x1, x2, .str x3]) K = K x0 x1 x2 x3 := rfl
def v351 (p : PV) (K : R) : R := match p with | .agg [] => K | _ => none
theorem v351_ok (p : PV) : (∀ K : PV → R, v351 p (K (.agg [])) = K p) ∨ (∀ K : PV → R, v351 p (K (.agg [])) = none) := by
 unfold v351; split
 ·exact .inl fun _ => rfl
 ·exact .inr fun _ => rfl
def v352 (p : PV) (K : R) : R := match p with | .agg [] => K | _ => none
theorem v352_ok (p : PV) : (∀ K : PV → R, v352 p (K (.agg [])) = K p) ∨ (∀ K : PV → R, v352 p (K (.agg [])) = none) := by
 unfold v352; split
 ·exact .inl fun _ => rfl
 ·exact .inr fun _ => rfl
def v359 (p : PV) (K : Int → Int → Int → Int → Int → Int → Int → PV → PV → Int → Int → R) : R := match p with | .agg [.int .u64 x0, .int .u64 x1, .int .u32 x2, .int .u8 x3, .int .u8 x4, .int .u8 x5, .int .u8 x6, x7, x8, .int .i32 x9, .int .i32 x10] => K x0 x1 x2 x3 x4 x5 x6 x7 x8 x9 x10 | _ => none
theorem v359_ok (p : PV) : (∀ K : PV → R, v359 p (fun x0 x1 x2 x3 x4 x5 x6 x7 x8 x9 x10 => K (.agg [.int .u64 x0, .int .u64 x1, .int .u32 x2, .int .u8 x3, .int .u8 x4, .int .u8 x5, .int .u8 x6, x7, x8, .int .i32 x9, .int .i32 x10])) = K p) ∨ (∀ K : PV → R, v359 p (fun x0 x1 x2 x3 x4 x5 x6 x7 x8 x9 x10 => K (.agg [.int .u64 x0, .int .u64 x1, .int .u32 x2, .int .u8 x3, .int .u8 x4, .int .u8 x5, .int .u8 x6, x7, x8, .int .i32 x9, .int .i32 x10])) = none) := by
 unfold v359; split
 ·exact .inl fun _ => rfl
 ·exact .inr fun _ => rfl
@[simp] theorem v359_mk (x0 : Int) (x1 : Int) (x2 : Int) (x3 : Int) (x4 : Int) (x5 : Int) (x6 : Int) (x7 : PV) (x8 : PV) (x9 : Int) (x10 : Int) (K : Int → Int → Int → Int → Int → Int → Int → PV → PV → Int → Int → R) : v359 (.agg [.int .u64 x0, .int .u64 x1, .int .u32 x2, .int .u8 x3, .int .u8 x4, .int .u8 x5, .int .u8 x6, x7, x8, .int .i32 x9, .int .i32 x10]) K = K x0 x1 x2 x3 x4 x5 x6 x7 x8 x9 x10 := rfl
def VVp9 (t : TypeId) (p : PV) (K : PV → R) : R :=
 bsel (Nat.beq t 349) (v349 p fun p1 p2 p3 s4 => K (.agg [p1, p2, p3, .str s4]))
  (bsel (Nat.beq t 350) (v349 p fun p1 p2 p3 s4 => K (.agg [p1, p2, p3, .str s4]))
  (bsel (Nat.beq t 351) (v351 p (K (.agg [])))
  (bsel (Nat.beq t 352) (v352 p (K (.agg [])))
  (bsel (Nat.beq t 353) (v352 p (K (.agg [])))
  (bsel (Nat.beq t 354) (vI .u8 p fun n1 => K (.int .u8 n1))
  (bsel (Nat.beq t 355) (vI .u8 p fun n1 => K (.int .u8 n1))
  (bsel (Nat.beq t 357) (vI .i32 p fun n1 => K (.int .i32 n1))
  (bsel (Nat.beq t 358) (vI .i32 p fun n1 => K (.int .i32 n1))
  (bsel (Nat.beq t 359) (v359 p fun n1 n2 n3 n4 n5 n6 n7 p8 p9 n10 n11 => K (.agg [.int .u64 n1, .int .u64 n2, .int .u32 n3, .int .u8 n4, .int .u8 n5, .int .u8 n6, .int .u8 n7, p8, p9, .int .i32 n10, .int .i32 n11]))
  (bsel (Nat.beq t 360) (v359 p fun n1 n2 n3 n4 n5 n6 n7 p8 p9 n10 n11 => K (.agg [.int .u64 n1, .int .u64 n2, .int .u32 n3, .int .u8 n4, .int .u8 n5, .int .u8 n6, .int .u8 n7, p8, p9, .int .i32 n10, .int .i32 n11]))
  (K p)))))))))))
theorem VVp9_ok (t : TypeId) (p : PV) : (∀ K : PV → R, VVp9 t p K = K p) ∨ (∀ K : PV → R, VVp9 t p K = none) :=
 view_bsel (v349_ok p) (view_bsel (v349_ok p) (view_bsel (v351_ok p) (view_bsel (v352_ok p) (view_bsel (v352_ok p) (view_bsel (vI_ok .u8 p) (view_bsel (vI_ok .u8 p) (view_bsel (vI_ok .i32 p) (view_bsel (vI_ok .i32 p) (view_bsel (v359_ok p) (view_bsel (v359_ok p) (.inl fun _ => rfl)))))))))))
def VVp8 (t : TypeId) (p : PV) (K : PV → R) : R :=
 bsel (Nat.beq t 260) (vI .u32 p fun n1 => K (.int .u32 n1))
  (bsel (Nat.beq t 263) (vI .u64 p fun n1 => K (.int .u64 n1))
  (bsel (Nat.beq t 270) (v270 p fun n1 n2 p3 => K (.agg [.int .i64 n1, .int .i64 n2, p3]))
  (bsel (Nat.beq t 288) (vL false 2 p fun l1 => K (.sl false 2 l1))
  (bsel (Nat.beq t 291) (v291 p fun p1 p2 => K (.agg [p1, p2]))
  (bsel (Nat.beq t 292) (v291 p fun p1 p2 => K (.agg [p1, p2]))
  (bsel (Nat.beq t 300) (v300 p fun n1 n2 => K (.agg [.int .i8 n1, .int .i8 n2]))
  (bsel (Nat.beq t 302) (v302 p fun l1 n2 n3 => K (.agg [.sl false 1 l1, .int .i64 n2, .int .i64 n3]))
  (bsel (Nat.beq t 303) (v302 p fun l1 n2 n3 => K (.agg [.sl false 1 l1, .int .i64 n2, .int .i64 n3]))
  (bsel (Nat.beq t 330) (v330 p fun n1 n2 b3 => K (.agg [.int .i64 n1, .int .i64 n2, .bool b3]))
  (bsel (Nat.beq t 344) (v344 p fun n1 n2 => K (.agg [.int .u8 n1, .int .u8 n2]))
  (bsel (Nat.beq t 345) (v344 p fun n1 n2 => K (.agg [.int .u8 n1, .int .u8 n2]))
  (VVp9 t p K))))))))))))
theorem VVp8_ok (t : TypeId) (p : PV) : (∀ K : PV → R, VVp8 t p K = K p) ∨ (∀ K : PV → R, VVp8 t p K = none) :=
 view_bsel (vI_ok .u32 p) (view_bsel (vI_ok .u64 p) (view_bsel (v270_ok p) (view_bsel (vL_ok false 2 p) (view_bsel (v291_ok p) (view_bsel (v291_ok p) (view_bsel (v300_ok p) (view_bsel (v302_ok p) (view_bsel (v302_ok p) (view_bsel (v330_ok p) (view_bsel (v344_ok p) (view_bsel (v344_ok p) (VVp9_ok t p))))))))))))
def VVp7 (t : TypeId) (p : PV) (K : PV → R) : R :=
 bsel (Nat.beq t 188) (vI .i8 p fun n1 => K (.int .i8 n1))
  (bsel (Nat.beq t 189) (v189 p fun n1 n2 n3 => K (.agg [.int .i8 n1, .int .i8 n2, .int .i8 n3]))
  (bsel (Nat.beq t 191) (v191 p fun n1 s2 n3 n4 n5 => K (.agg [.int .i64 n1, .str s2, .int .i64 n3, .int .i64 n4, .int .i64 n5]))
  (bsel (Nat.beq t 192) (v191 p fun n1 s2 n3 n4 n5 => K (.agg [.int .i64 n1, .str s2, .int .i64 n3, .int .i64 n4, .int .i64 n5]))
  (bsel (Nat.beq t 219) (vL false 1 p fun l1 => K (.sl false 1 l1))
  (bsel (Nat.beq t 227) (v227 p fun b1 b2 b3 => K (.agg [.bool b1, .bool b2, .bool b3]))
  (bsel (Nat.beq t 228) (v228 p fun s1 s2 s3 => K (.agg [.str s1, .str s2, .str s3]))
  (bsel (Nat.beq t 230) (v230 p fun l1 l2 => K (.agg [.sl false 3 l1, .sl false 3 l2]))
  (bsel (Nat.beq t 231) (v231 p fun s1 s2 => K (.agg [.str s1, .str s2]))
  (bsel (Nat.beq t 236) (vL false 1 p fun l1 => K (.sl false 1 l1))
  (bsel (Nat.beq t 247) (v247 p fun l1 n2 n3 n4 => K (.agg [.sl false 5 l1, .int .i64 n2, .int .i64 n3, .int .i64 n4]))
  (bsel (Nat.beq t 248) (v247 p fun l1 n2 n3 n4 => K (.agg [.sl false 5 l1, .int .i64 n2, .int .i64 n3, .int .i64 n4]))
  (VVp8 t p K))))))))))))
theorem VVp7_ok (t : TypeId) (p : PV) : (∀ K : PV → R, VVp7 t p K = K p) ∨ (∀ K : PV → R, VVp7 t p K = none) :=
 view_bsel (vI_ok .i8 p) (view_bsel (v189_ok p) (view_bsel (v191_ok p) (view_bsel (v191_ok p) (view_bsel (vL_ok false 1 p) (view_bsel (v227_ok p) (view_bsel (v228_ok p) (view_bsel (v230_ok p) (view_bsel (v231_ok p) (view_bsel (vL_ok false 1 p) (view_bsel (v247_ok p) (view_bsel (v247_ok p) (VVp8_ok t p))))))))))))
def VVp6 (t : TypeId) (p : PV) (K : PV → R) : R :=
 bsel (Nat.beq t 131) (v131 p fun l1 => K (.agg [.sl false 5 l1]))
  (bsel (Nat.beq t 132) (v131 p fun l1 => K (.agg [.sl false 5 l1]))
  (bsel (Nat.beq t 161) (v161 p fun p1 n2 l3 => K (.agg [p1, .int .i64 n2, .sl false 1 l3]))
  (bsel (Nat.beq t 162) (v161 p fun p1 n2 l3 => K (.agg [p1, .int .i64 n2, .sl false 1 l3]))
  (bsel (Nat.beq t 167) (v167 p fun p1 s2 l3 l4 l5 l6 l7 l8 l9 n10 => K (.agg [p1, .str s2, .sl false 5 l3, .sl false 9 l4, .sl false 3 l5, .sl false 3 l6, .sl false 2 l7, .sl false 3 l8, .sl false 1 l9, .int .i64 n10]))
  (bsel (Nat.beq t 168) (v167 p fun p1 s2 l3 l4 l5 l6 l7 l8 l9 n10 => K (.agg [p1, .str s2, .sl false 5 l3, .sl false 9 l4, .sl false 3 l5, .sl false 3 l6, .sl false 2 l7, .sl false 3 l8, .sl false 1 l9, .int .i64 n10]))
  (bsel (Nat.beq t 175) (vI .u64 p fun n1 => K (.int .u64 n1))
  (bsel (Nat.beq t 180) (vL false 2 p fun l1 => K (.sl false 2 l1))
  (bsel (Nat.beq t 181) (v181 p fun n1 n2 n3 n4 l5 l6 l7 => K (.agg [.int .u8 n1, .int .u8 n2, .int .u8 n3, .int .u8 n4, .sl false 2 l5, .sl false 3 l6, .sl false 1 l7]))
  (bsel (Nat.beq t 182) (v181 p fun n1 n2 n3 n4 l5 l6 l7 => K (.agg [.int .u8 n1, .int .u8 n2, .int .u8 n3, .int .u8 n4, .sl false 2 l5, .sl false 3 l6, .sl false 1 l7]))
  (bsel (Nat.beq t 186) (v186 p fun n1 n2 n3 => K (.agg [.int .u8 n1, .int .u8 n2, .int .u8 n3]))
  (bsel (Nat.beq t 187) (v187 p fun n1 n2 n3 n4 => K (.agg [.int .u8 n1, .int .u8 n2, .int .u8 n3, .int .u8 n4]))
  (VVp7 t p K))))))))))))
theorem VVp6_ok (t : TypeId) (p : PV) : (∀ K : PV → R, VVp6 t p K = K p) ∨ (∀ K : PV → R, VVp6 t p K = none) :=
 view_bsel (v131_ok p) (view_bsel (v131_ok p) (view_bsel (v161_ok p) (view_bsel (v161_ok p) (view_bsel (v167_ok p) (view_bsel (v167_ok p) (view_bsel (vI_ok .u64 p) (view_bsel (vL_ok false 2 p) (view_bsel (v181_ok p) (view_bsel (v181_ok p) (view_bsel (v186_ok p) (view_bsel (v187_ok p) (VVp7_ok t p))))))))))))
def VVp5 (t : TypeId) (p : PV) (K : PV → R) : R :=
 bsel (Nat.beq t 106) (v106 p fun s1 s2 => K (.agg [.str s1, .str s2]))
  (bsel (Nat.beq t 107) (v106 p fun s1 s2 => K (.agg [.str s1, .str s2]))
  (bsel (Nat.beq t 108) (vL false 2 p fun l1 => K (.sl false 2 l1))
  (bsel (Nat.beq t 109) (v109 p fun s1 l2 n3 => K (.agg [.str s1, .sl false 2 l2, .int .i64 n3]))
  (bsel (Nat.beq t 110) (v109 p fun s1 l2 n3 => K (.agg [.str s1, .sl false 2 l2, .int .i64 n3]))
  (bsel (Nat.beq t 111) (v111 p fun s1 n2 => K (.agg [.str s1, .int .i64 n2]))
  (bsel (Nat.beq t 112) (v111 p fun s1 n2 => K (.agg [.str s1, .int .i64 n2]))
  (bsel (Nat.beq t 117) (vL false 1 p fun l1 => K (.sl false 1 l1))
  (bsel (Nat.beq t 118) (v118 p fun p1 l2 => K (.agg [p1, .sl false 1 l2]))
  (bsel (Nat.beq t 119) (v118 p fun p1 l2 => K (.agg [p1, .sl false 1 l2]))
  (bsel (Nat.beq t 126) (vL false 1 p fun l1 => K (.sl false 1 l1))
  (bsel (Nat.beq t 130) (vL false 5 p fun l1 => K (.sl false 5 l1))
  (VVp6 t p K))))))))))))
theorem VVp5_ok (t : TypeId) (p : PV) : (∀ K : PV → R, VVp5 t p K = K p) ∨ (∀ K : PV → R, VVp5 t p K = none) :=
 view_bsel (v106_ok p) (view_bsel (v106_ok p) (view_bsel (vL_ok false 2 p) (view_bsel (v109_ok p) (view_bsel (v109_ok p) (view_bsel (v111_ok p) (view_bsel (v111_ok p) (view_bsel (vL_ok false 1 p) (view_bsel (v118_ok p) (view_bsel (v118_ok p) (view_bsel (vL_ok false 1 p) (view_bsel (vL_ok false 5 p) (VVp6_ok t p))))))))))))
def VVp4 (t : TypeId) (p : PV) (K : PV → R) : R :=
 bsel (Nat.beq t 93) (v93 p fun s1 n2 n3 n4 => K (.agg [.str s1, .int .i64 n2, .int .i64 n3, .int .i64 n4]))
  (bsel (Nat.beq t 94) (v93 p fun s1 n2 n3 n4 => K (.agg [.str s1, .int .i64 n2, .int .i64 n3, .int .i64 n4]))
  (bsel (Nat.beq t 95) (vL false 5 p fun l1 => K (.sl false 5 l1))
  (bsel (Nat.beq t 96) (v96 p fun n1 n2 n3 n4 n5 n6 l7 l8 => K (.agg [.int .i64 n1, .int .i64 n2, .int .i64 n3, .int .i64 n4, .int .i64 n5, .int .i64 n6, .sl false 4 l7, .sl false 5 l8]))
  (bsel (Nat.beq t 97) (v96 p fun n1 n2 n3 n4 n5 n6 l7 l8 => K (.agg [.int .i64 n1, .int .i64 n2, .int .i64 n3, .int .i64 n4, .int .i64 n5, .int .i64 n6, .sl false 4 l7, .sl false 5 l8]))
  (bsel (Nat.beq t 98) (v98 p fun n1 n2 n3 n4 l5 => K (.agg [.int .i64 n1, .int .i64 n2, .int .i64 n3, .int .i64 n4, .sl false 4 l5]))
  (bsel (Nat.beq t 99) (v98 p fun n1 n2 n3 n4 l5 => K (.agg [.int .i64 n1, .int .i64 n2, .int .i64 n3, .int .i64 n4, .sl false 4 l5]))
  (bsel (Nat.beq t 101) (v101 p fun s1 s2 l3 => K (.agg [.str s1, .str s2, .sl false 1 l3]))
  (bsel (Nat.beq t 102) (v101 p fun s1 s2 l3 => K (.agg [.str s1, .str s2, .sl false 1 l3]))
  (bsel (Nat.beq t 103) (vL false 2 p fun l1 => K (.sl false 2 l1))
  (bsel (Nat.beq t 104) (v104 p fun s1 l2 => K (.agg [.str s1, .sl false 2 l2]))
  (bsel (Nat.beq t 105) (v104 p fun s1 l2 => K (.agg [.str s1, .sl false 2 l2]))
  (VVp5 t p K))))))))))))
theorem VVp4_ok (t : TypeId) (p : PV) : (∀ K : PV → R, VVp4 t p K = K p) ∨ (∀ K : PV → R, VVp4 t p K = none) :=
 view_bsel (v93_ok p) (view_bsel (v93_ok p) (view_bsel (vL_ok false 5 p) (view_bsel (v96_ok p) (view_bsel (v96_ok p) (view_bsel (v98_ok p) (view_bsel (v98_ok p) (view_bsel (v101_ok p) (view_bsel (v101_ok p) (view_bsel (vL_ok false 2 p) (view_bsel (v104_ok p) (view_bsel (v104_ok p) (VVp5_ok t p))))))))))))
def VVp3 (t : TypeId) (p : PV) (K : PV → R) : R :=
 bsel (Nat.beq t 65) (vI .u16 p fun n1 => K (.int .u16 n1))
  (bsel (Nat.beq t 66) (v66 p fun n1 n2 n3 => K (.agg [.int .u16 n1, .int .u16 n2, .int .u8 n3]))
  (bsel (Nat.beq t 67) (v66 p fun n1 n2 n3 => K (.agg [.int .u16 n1, .int .u16 n2, .int .u8 n3]))
  (bsel (Nat.beq t 81) (v81 p fun s1 b2 b3 b4 n5 => K (.agg [.str s1, .bool b2, .bool b3, .bool b4, .int .i64 n5]))
  (bsel (Nat.beq t 82) (v81 p fun s1 b2 b3 b4 n5 => K (.agg [.str s1, .bool b2, .bool b3, .bool b4, .int .i64 n5]))
  (bsel (Nat.beq t 83) (vL false 1 p fun l1 => K (.sl false 1 l1))
  (bsel (Nat.beq t 84) (vL false 4 p fun l1 => K (.sl false 4 l1))
  (bsel (Nat.beq t 85) (vL false 8 p fun l1 => K (.sl false 8 l1))
  (bsel (Nat.beq t 86) (v86 p fun l1 n2 n3 l4 l5 l6 => K (.agg [.sl false 1 l1, .int .i64 n2, .int .i64 n3, .sl false 1 l4, .sl false 4 l5, .sl false 8 l6]))
  (bsel (Nat.beq t 87) (v86 p fun l1 n2 n3 l4 l5 l6 => K (.agg [.sl false 1 l1, .int .i64 n2, .int .i64 n3, .sl false 1 l4, .sl false 4 l5, .sl false 8 l6]))
  (bsel (Nat.beq t 88) (v88 p fun s1 l2 l3 l4 n5 n6 l7 l8 l9 => K (.agg [.str s1, .sl false 1 l2, .sl false 1 l3, .sl false 1 l4, .int .i64 n5, .int .i64 n6, .sl false 1 l7, .sl false 4 l8, .sl false 8 l9]))
  (bsel (Nat.beq t 89) (v88 p fun s1 l2 l3 l4 n5 n6 l7 l8 l9 => K (.agg [.str s1, .sl false 1 l2, .sl false 1 l3, .sl false 1 l4, .int .i64 n5, .int .i64 n6, .sl false 1 l7, .sl false 4 l8, .sl false 8 l9]))
  (VVp4 t p K))))))))))))
theorem VVp3_ok (t : TypeId) (p : PV) : (∀ K : PV → R, VVp3 t p K = K p) ∨ (∀ K : PV → R, VVp3 t p K = none) :=
 view_bsel (vI_ok .u16 p) (view_bsel (v66_ok p) (view_bsel (v66_ok p) (view_bsel (v81_ok p) (view_bsel (v81_ok p) (view_bsel (vL_ok false 1 p) (view_bsel (vL_ok false 4 p) (view_bsel (vL_ok false 8 p) (view_bsel (v86_ok p) (view_bsel (v86_ok p) (view_bsel (v88_ok p) (view_bsel (v88_ok p) (VVp4_ok t p))))))))))))
def VVp2 (t : TypeId) (p : PV) (K : PV → R) : R :=
 bsel (Nat.beq t 34) (vL false 1 p fun l1 => K (.sl false 1 l1))
  (bsel (Nat.beq t 40) (vL false 4 p fun l1 => K (.sl false 4 l1))
  (bsel (Nat.beq t 41) (v41 p fun n1 n2 n3 l4 => K (.agg [.int .i64 n1, .int .i64 n2, .int .i64 n3, .sl false 4 l4]))
  (bsel (Nat.beq t 42) (v41 p fun n1 n2 n3 l4 => K (.agg [.int .i64 n1, .int .i64 n2, .int .i64 n3, .sl false 4 l4]))
  (bsel (Nat.beq t 57) (v57 p fun n1 n2 n3 n4 n5 => K (.agg [.int .u8 n1, .int .u8 n2, .int .u8 n3, .int .u8 n4, .int .u8 n5]))
  (bsel (Nat.beq t 58) (v57 p fun n1 n2 n3 n4 n5 => K (.agg [.int .u8 n1, .int .u8 n2, .int .u8 n3, .int .u8 n4, .int .u8 n5]))
  (bsel (Nat.beq t 59) (vL false 7 p fun l1 => K (.sl false 7 l1))
  (bsel (Nat.beq t 60) (vL false 3 p fun l1 => K (.sl false 3 l1))
  (bsel (Nat.beq t 61) (vL false 4 p fun l1 => K (.sl false 4 l1))
  (bsel (Nat.beq t 62) (vL false 3 p fun l1 => K (.sl false 3 l1))
  (bsel (Nat.beq t 63) (v63 p fun n1 n2 n3 n4 n5 l6 l7 l8 l9 => K (.agg [.int .u8 n1, .int .u8 n2, .int .u8 n3, .int .u8 n4, .int .u8 n5, .sl false 7 l6, .sl false 3 l7, .sl false 4 l8, .sl false 3 l9]))
  (bsel (Nat.beq t 64) (v63 p fun n1 n2 n3 n4 n5 l6 l7 l8 l9 => K (.agg [.int .u8 n1, .int .u8 n2, .int .u8 n3, .int .u8 n4, .int .u8 n5, .sl false 7 l6, .sl false 3 l7, .sl false 4 l8, .sl false 3 l9]))
  (VVp3 t p K))))))))))))
theorem VVp2_ok (t : TypeId) (p : PV) : (∀ K : PV → R, VVp2 t p K = K p) ∨ (∀ K : PV → R, VVp2 t p K = none) :=
 view_bsel (vL_ok false 1 p) (view_bsel (vL_ok false 4 p) (view_bsel (v41_ok p) (view_bsel (v41_ok p) (view_bsel (v57_ok p) (view_bsel (v57_ok p) (view_bsel (vL_ok false 7 p) (view_bsel (vL_ok false 3 p) (view_bsel (vL_ok false 4 p) (view_bsel (vL_ok false 3 p) (view_bsel (v63_ok p) (view_bsel (v63_ok p) (VVp3_ok t p))))))))))))
def VVp1 (t : TypeId) (p : PV) (K : PV → R) : R :=
 bsel (Nat.beq t 14) (v13 p fun s1 n2 => K (.agg [.str s1, .int .u64 n2]))
  (bsel (Nat.beq t 18) (v18 p fun p1 => K (.agg [p1]))
  (bsel (Nat.beq t 19) (v18 p fun p1 => K (.agg [p1]))
  (bsel (Nat.beq t 21) (vI .i32 p fun n1 => K (.int .i32 n1))
  (bsel (Nat.beq t 22) (vL false 5 p fun l1 => K (.sl false 5 l1))
  (bsel (Nat.beq t 23) (vL false 9 p fun l1 => K (.sl false 9 l1))
  (bsel (Nat.beq t 24) (vL false 3 p fun l1 => K (.sl false 3 l1))
  (bsel (Nat.beq t 25) (vL false 2 p fun l1 => K (.sl false 2 l1))
  (bsel (Nat.beq t 26) (vL false 3 p fun l1 => K (.sl false 3 l1))
  (bsel (Nat.beq t 27) (v27 p fun s1 l2 l3 l4 l5 l6 l7 => K (.agg [.str s1, .sl false 5 l2, .sl false 9 l3, .sl false 3 l4, .sl false 3 l5, .sl false 2 l6, .sl false 3 l7]))
  (bsel (Nat.beq t 28) (v27 p fun s1 l2 l3 l4 l5 l6 l7 => K (.agg [.str s1, .sl false 5 l2, .sl false 9 l3, .sl false 3 l4, .sl false 3 l5, .sl false 2 l6, .sl false 3 l7]))
  (bsel (Nat.beq t 31) (vI .i64 p fun n1 => K (.int .i64 n1))
  (VVp2 t p K))))))))))))
theorem VVp1_ok (t : TypeId) (p : PV) : (∀ K : PV → R, VVp1 t p K = K p) ∨ (∀ K : PV → R, VVp1 t p K = none) :=
 view_bsel (v13_ok p) (view_bsel (v18_ok p) (view_bsel (v18_ok p) (view_bsel (vI_ok .i32 p) (view_bsel (vL_ok false 5 p) (view_bsel (vL_ok false 9 p) (view_bsel (vL_ok false 3 p) (view_bsel (vL_ok false 2 p) (view_bsel (vL_ok false 3 p) (view_bsel (v27_ok p) (view_bsel (v27_ok p) (view_bsel (vI_ok .i64 p) (VVp2_ok t p))))))))))))
def VVp0 (t : TypeId) (p : PV) (K : PV → R) : R :=
 bsel (Nat.beq t 2) (vI .i64 p fun n1 => K (.int .i64 n1))
  (bsel (Nat.beq t 3) (vI .i64 p fun n1 => K (.int .i64 n1))
  (bsel (Nat.beq t 4) (vB p fun b1 => K (.bool b1))
  (bsel (Nat.beq t 5) (vI .u8 p fun n1 => K (.int .u8 n1))
  (bsel (Nat.beq t 6) (vI .u8 p fun n1 => K (.int .u8 n1))
  (bsel (Nat.beq t 7) (v7 p fun n1 n2 b3 n4 => K (.agg [.int .i64 n1, .int .i64 n2, .bool b3, .int .u8 n4]))
  (bsel (Nat.beq t 8) (v7 p fun n1 n2 b3 n4 => K (.agg [.int .i64 n1, .int .i64 n2, .bool b3, .int .u8 n4]))
  (bsel (Nat.beq t 9) (vS p fun s1 => K (.str s1))
  (bsel (Nat.beq t 10) (vS p fun s1 => K (.str s1))
  (bsel (Nat.beq t 11) (vS p fun s1 => K (.str s1))
  (bsel (Nat.beq t 12) (vI .u64 p fun n1 => K (.int .u64 n1))
  (bsel (Nat.beq t 13) (v13 p fun s1 n2 => K (.agg [.str s1, .int .u64 n2]))
  (VVp1 t p K))))))))))))
theorem VVp0_ok (t : TypeId) (p : PV) : (∀ K : PV → R, VVp0 t p K = K p) ∨ (∀ K : PV → R, VVp0 t p K = none) :=
 view_bsel (vI_ok .i64 p) (view_bsel (vI_ok .i64 p) (view_bsel (vB_ok p) (view_bsel (vI_ok .u8 p) (view_bsel (vI_ok .u8 p) (view_bsel (v7_ok p) (view_bsel (v7_ok p) (view_bsel (vS_ok p) (view_bsel (vS_ok p) (view_bsel (vS_ok p) (view_bsel (vI_ok .u64 p) (view_bsel (v13_ok p) (VVp1_ok t p))))))))))))
def VV : TypeId → PV → (PV → R) → R := VVp0
theorem VV_ok : viewOK VV := VVp0_ok
def w_130_3_3_3 (p : PV) (K : List PV → Int → Int → Int → R) : R := match p with | .tuple [.sl false 5 l1, .int .i64 n2, .int .i64 n3, .int .i64 n4] => K l1 n2 n3 n4 | _ => none
theorem w_130_3_3_3_ok (p : PV) (h : Objs) : (∀ K : PV → Objs → R, w_130_3_3_3 p (fun l1 n2 n3 n4 => K (.tuple [.sl false 5 l1, .int .i64 n2, .int .i64 n3, .int .i64 n4]) h) = K p h) ∨ (∀ K : PV → Objs → R, w_130_3_3_3 p (fun l1 n2 n3 n4 => K (.tuple [.sl false 5 l1, .int .i64 n2, .int .i64 n3, .int .i64 n4]) h) = none) := by
 unfold w_130_3_3_3; split
 ·exact .inl fun _ => rfl
 ·exact .inr fun _ => rfl
@[simp] theorem w_130_3_3_3_mk (l1 : List PV) (n2 : Int) (n3 : Int) (n4 : Int) (K : List PV → Int → Int → Int → R) : w_130_3_3_3 (.tuple [.sl false 5 l1, .int .i64 n2, .int .i64 n3, .int .i64 n4]) K = K l1 n2 n3 n4 := rfl
def w_191_3 (p : PV) (K : Int → ByteArray → Int → Int → Int → Int → R) : R := match p with | .tuple [.agg [.int .i64 n1, .str s2, .int .i64 n3, .int .i64 n4, .int .i64 n5], .int .i64 n6] => K n1 s2 n3 n4 n5 n6 | _ => none
theorem w_191_3_ok (p : PV) (h : Objs) : (∀ K : PV → Objs → R, w_191_3 p (fun n1 s2 n3 n4 n5 n6 => K (.tuple [.agg [.int .i64 n1, .str s2, .int .i64 n3, .int .i64 n4, .int .i64 n5], .int .i64 n6]) h) = K p h) ∨ (∀ K : PV → Objs → R, w_191_3 p (fun n1 s2 n3 n4 n5 n6 => K (.tuple [.agg [.int .i64 n1, .str s2, .int .i64 n3, .int .i64 n4, .int .i64 n5], .int .i64 n6]) h) = none) := by
 unfold w_191_3; split
 ·exact .inl fun _ => rfl
 ·exact .inr fun _ => rfl
@[simp] theorem w_191_3_mk (n1 : Int) (s2 : ByteArray) (n3 : Int) (n4 : Int) (n5 : Int) (n6 : Int) (K : Int → ByteArray → Int → Int → Int → Int → R) : w_191_3 (.tuple [.agg [.int .i64 n1, .str s2, .int .i64 n3, .int .i64 n4, .int .i64 n5], .int .i64 n6]) K = K n1 s2 n3 n4 n5 n6 := rfl
def h251_0 (p : PV) (h : Objs) (K : Int → ByteArray → Int → Int → Int → Int → Int → Int → R) : R := match p, h with | .agg [.int .i64 n1, .str s2, .int .i64 n3, .int .i64 n4, .int .i64 n5], [some [.int .i64 n6], some [.int .i64 n7], some [.int .i64 n8]] => K n1 s2 n3 n4 n5 n6 n7 n8 | _, _ => none
theorem h251_0_ok (p : PV) (h : Objs) : (∀ K : PV → Objs → R, h251_0 p h (fun n1 s2 n3 n4 n5 n6 n7 n8 => K (.agg [.int .i64 n1, .str s2, .int .i64 n3, .int .i64 n4, .int .i64 n5]) [some [.int .i64 n6], some [.int .i64 n7], some [.int .i64 n8]]) = K p h) ∨ (∀ K : PV → Objs → R, h251_0 p h (fun n1 s2 n3 n4 n5 n6 n7 n8 => K (.agg [.int .i64 n1, .str s2, .int .i64 n3, .int .i64 n4, .int .i64 n5]) [some [.int .i64 n6], some [.int .i64 n7], some [.int .i64 n8]]) = none) := by
 unfold h251_0; split
 ·exact .inl fun _ => rfl
 ·exact .inr fun _ => rfl
@[simp] theorem h251_0_mk (n1 : Int) (s2 : ByteArray) (n3 : Int) (n4 : Int) (n5 : Int) (n6 : Int) (n7 : Int) (n8 : Int) (K : Int → ByteArray → Int → Int → Int → Int → Int → Int → R) : h251_0 (.agg [.int .i64 n1, .str s2, .int .i64 n3, .int .i64 n4, .int .i64 n5]) [some [.int .i64 n6], some [.int .i64 n7], some [.int .i64 n8]] K = K n1 s2 n3 n4 n5 n6 n7 n8 := rfl
def WW251 (h0 : Objs) (r : PV) (h : Objs) (K : PV → Objs → R) : R := match h0 with
 | [some [.int .i64 _], some [.int .i64 _], some [.int .i64 _]] => h251_0 r h (fun n1 s2 n3 n4 n5 n6 n7 n8 => K (.agg [.int .i64 n1, .str s2, .int .i64 n3, .int .i64 n4, .int .i64 n5]) [some [.int .i64 n6], some [.int .i64 n7], some [.int .i64 n8]])
 | [] => v191 r fun n1 s2 n3 n4 n5 => K (.agg [.int .i64 n1, .str s2, .int .i64 n3, .int .i64 n4, .int .i64 n5]) h
 | _ => K r h
theorem WW251_ok (h0 : Objs) (r : PV) (h : Objs) : (∀ K : PV → Objs → R, WW251 h0 r h K = K r h) ∨ (∀ K : PV → Objs → R, WW251 h0 r h K = none) := by
 unfold WW251; split
 ·exact h251_0_ok r h
 ·exact one_ok (v191_ok r) h
 ·exact .inl fun _ => rfl
def WWp1 (g : FuncId) (h0 : Objs) (r : PV) (h : Objs) (K : PV → Objs → R) : R :=
 bsel (Nat.beq g 303) (vB r fun b1 => K (.bool b1) h)
  (bsel (Nat.beq g 304) (w_191_3 r fun n1 s2 n3 n4 n5 n6 => K (.tuple [.agg [.int .i64 n1, .str s2, .int .i64 n3, .int .i64 n4, .int .i64 n5], .int .i64 n6]) h)
  (bsel (Nat.beq g 305) (vB r fun b1 => K (.bool b1) h)
  (bsel (Nat.beq g 306) (w_191_3 r fun n1 s2 n3 n4 n5 n6 => K (.tuple [.agg [.int .i64 n1, .str s2, .int .i64 n3, .int .i64 n4, .int .i64 n5], .int .i64 n6]) h)
  (bsel (Nat.beq g 333) (vS r fun s1 => K (.str s1) h)
  (bsel (Nat.beq g 334) (vB r fun b1 => K (.bool b1) h)
  (K r h))))))
theorem WWp1_ok (g : FuncId) (h0 : Objs) (r : PV) (h : Objs) : (∀ K : PV → Objs → R, WWp1 g h0 r h K = K r h) ∨ (∀ K : PV → Objs → R, WWp1 g h0 r h K = none) :=
 out_bsel (one_ok (vB_ok r) h) (out_bsel (w_191_3_ok r h) (out_bsel (one_ok (vB_ok r) h) (out_bsel (w_191_3_ok r h) (out_bsel (one_ok (vS_ok r) h) (out_bsel (one_ok (vB_ok r) h) (.inl fun _ => rfl))))))
def WWp0 (g : FuncId) (h0 : Objs) (r : PV) (h : Objs) (K : PV → Objs → R) : R :=
 bsel (Nat.beq g 99) (w_130_3_3_3 r fun l1 n2 n3 n4 => K (.tuple [.sl false 5 l1, .int .i64 n2, .int .i64 n3, .int .i64 n4]) h)
  (bsel (Nat.beq g 120) (vB r fun b1 => K (.bool b1) h)
  (bsel (Nat.beq g 213) (vB r fun b1 => K (.bool b1) h)
  (bsel (Nat.beq g 249) (w0 r (K (.tuple []) h))
  (bsel (Nat.beq g 250) (vI .i64 r fun n1 => K (.int .i64 n1) h)
  (bsel (Nat.beq g 251) (WW251 h0 r h K)
  (bsel (Nat.beq g 252) (w_191_3 r fun n1 s2 n3 n4 n5 n6 => K (.tuple [.agg [.int .i64 n1, .str s2, .int .i64 n3, .int .i64 n4, .int .i64 n5], .int .i64 n6]) h)
  (bsel (Nat.beq g 253) (vL false 2 r fun l1 => K (.sl false 2 l1) h)
  (bsel (Nat.beq g 293) (vI .i64 r fun n1 => K (.int .i64 n1) h)
  (bsel (Nat.beq g 300) (vB r fun b1 => K (.bool b1) h)
  (bsel (Nat.beq g 301) (vI .i64 r fun n1 => K (.int .i64 n1) h)
  (bsel (Nat.beq g 302) (vL false 1 r fun l1 => K (.sl false 1 l1) h)
  (WWp1 g h0 r h K))))))))))))
theorem WWp0_ok (g : FuncId) (h0 : Objs) (r : PV) (h : Objs) : (∀ K : PV → Objs → R, WWp0 g h0 r h K = K r h) ∨ (∀ K : PV → Objs → R, WWp0 g h0 r h K = none) :=
 out_bsel (w_130_3_3_3_ok r h) (out_bsel (one_ok (vB_ok r) h) (out_bsel (one_ok (vB_ok r) h) (out_bsel (w0_ok r h) (out_bsel (one_ok (vI_ok .i64 r) h) (out_bsel (WW251_ok h0 r h) (out_bsel (w_191_3_ok r h) (out_bsel (one_ok (vL_ok false 2 r) h) (out_bsel (one_ok (vI_ok .i64 r) h) (out_bsel (one_ok (vB_ok r) h) (out_bsel (one_ok (vI_ok .i64 r) h) (out_bsel (one_ok (vL_ok false 1 r) h) (WWp1_ok g h0 r h))))))))))))
def WW : FuncId → Objs → PV → Objs → (PV → Objs → R) → R := WWp0
theorem WW_ok : outOK WW := WWp0_ok
def prmT (g : FuncId) : Prm := match g with
 | 99 => ⟨[0, 2, 3, 4, 5], [22], [], [], [(4, [0]), (10, [2, 3, 4, 5])], [], [(2, [5])], [], [([5], false), ([], true), ([], true), ([], true)], [], [], [], false⟩
 | 120 => ⟨[0, 1], [], [], [], [], [], [], [], [], [], [], [], false⟩
 | 195 => ⟨[0, 1], [], [], [], [], [], [], [1], [], [], [], [], false⟩
 | 213 => ⟨[0, 1], [], [], [], [], [], [], [], [], [], [], [], false⟩
 | 249 => ⟨[0, 1, 3, 4, 5, 6, 7, 8, 9, 11, 12, 13, 47, 48, 49], [], [], [(47, [2])], [(2, [0, 1, 3, 4, 5]), (6, [0, 1, 3, 4, 5, 6, 7]), (5, [0, 1, 3, 4, 5, 6, 7]), (8, [0, 1, 3, 4, 5, 6]), (12, [0, 1, 3, 4, 5, 8]), (15, [0, 1, 3, 4, 5, 8, 9, 47, 48, 49]), (18, [0, 1, 3, 4, 5, 8, 9, 47, 48, 49]), (19, [0, 1, 3, 4, 5, 8, 9]), (21, [0, 1, 3, 4, 5, 12])], [(2, [0, 1, 3, 4, 5]), (4, [0, 1, 3, 4, 5, 6, 7]), (14, [0, 1, 3, 4, 5, 8, 9, 47, 48, 49])], [], [], [], [], [], [], false⟩
 | 250 => ⟨[0, 3, 4], [], [], [], [(5, [0, 3]), (11, [0, 3, 4]), (12, [3])], [(3, [0, 3])], [], [], [], [], [], [], false⟩
 | 251 => ⟨[0, 1, 2, 3, 4, 5], [], [], [], [], [], [], [], [], [], [], [6, 7, 8, 1000000, 1000001, 1000002], false⟩
 | 252 => ⟨[0, 2, 5, 6, 7, 8], [], [], [(6, [1])], [(4, [0, 2, 6, 7, 8]), (7, [0, 2, 6, 7, 8]), (8, [2])], [(3, [0, 2, 6, 7, 8])], [], [], [], [], [], [], false⟩
 | 253 => ⟨[], [], [], [], [], [], [], [], [([2], false)], [], [], [], false⟩
 | 293 => ⟨[0, 1], [], [], [], [], [], [], [], [], [], [], [], false⟩
 | 300 => ⟨[0], [], [], [], [], [], [], [], [], [], [], [], false⟩
 | 301 => ⟨[0, 1], [], [], [], [], [], [], [], [], [], [], [], false⟩
 | 302 => ⟨[], [], [], [], [], [], [], [], [([1], false)], [], [], [], false⟩
 | 303 => ⟨[0], [], [], [], [], [], [], [], [], [], [], [], false⟩
 | 304 => ⟨[0, 2, 4], [], [], [], [(5, [2, 4])], [], [], [], [], [], [], [], false⟩
 | 305 => ⟨[0], [], [], [], [], [], [], [], [], [], [], [], false⟩
 | 306 => ⟨[0, 2, 4, 5, 6, 27, 28], [], [], [], [(5, [2, 4]), (8, [2, 4, 5, 27, 28]), (12, [2, 4, 5, 27, 28]), (13, [2, 4, 5])], [(7, [2, 4, 5, 27, 28])], [], [], [], [], [], [], false⟩
 | 333 => ⟨[0, 1, 5, 7, 8], [], [], [], [(4, [0, 1, 7, 8]), (7, [0, 1, 7, 8]), (8, [0])], [(3, [0, 1, 7, 8])], [], [], [], [], [], [], false⟩
 | 334 => ⟨[0], [], [], [], [], [], [], [], [], [], [], [], false⟩
 | _ => ⟨[], [], [], [], [], [], [], [], [], [], [], [], false⟩
noncomputable def SS : SE := ⟨Tryz.prog, prmT, VV, WW, C16⟩
theorem SS_ok : SS.OK := ⟨VV_ok, WW_ok⟩
end Go.Proofs.YtcdceiloganlnaaGreatDoor
namespace Go.Proofs.YtcdceiloganlnaaGreatDoor
open Go.RowKit
set_option maxRecDepth 1000000
noncomputable def g250_c : Code := bodyOf Tryz.f250
noncomputable def g250_E : AE := SS.ae 250 34
noncomputable def g250_X : XE := SS.xe SS.CC SS.LL g250_E 0
noncomputable def g250_K0 : AX → ASt → R := retK SS.P Tryz.f250.results.toList (SS.prm 250).ro 0 []
noncomputable def g250_c1 : Code := Code.sub [true, true, true] g250_c
noncomputable def g250_K1 : AX → ASt → R := thenK (joinX g250_E 0 g250_c1 (exK g250_X g250_c1 g250_K0)) g250_K0
noncomputable def g250_K2 : AX → ASt → R := blkK 0 g250_K1
noncomputable def g250_c2 : Code := Code.sub [true, true, false, false, false] g250_c
noncomputable def g250_L3 (x0 : ByteArray) (x3 : Int) : R := SS.LL g250_E 0 [0, 3] 0 g250_c2 g250_K2 ⟨[(0, .str x0), (3, .int .i64 x3)], []⟩
theorem g250_L3_eq (x0 : ByteArray) (x3 : Int) : g250_L3 x0 x3 =
 bsel (decide (x3 < (x0.size : Int))) (byteX x0 x3 fun c1 => clX SS.CC 300 [.int .u8 c1] fun r3 => vB r3 fun b2 => bsel b2 (g250_L3 x0 (IntKind.i64.wrap (x3 + 1))) (chk (decide (0 ≤ x3) && decide (x3 ≤ (x0.size : Int))) (clX SS.CC 120 [.str (x0.extract x3.toNat x0.size), .str ⟨#[47, 47]⟩] fun r5 => vB r5 fun b4 => bsel b4 (chk (decide (0 ≤ x3) && decide (x3 ≤ (x0.size : Int))) (clX SS.CC 301 [.str (x0.extract x3.toNat x0.size), .int .u8 10] fun r7 => vI .i64 r7 fun n6 => bsel (decide (n6 < 0)) (some (.int .i64 (x0.size : Int), [])) (g250_L3 x0 (IntKind.i64.wrap (x3 + n6))))) (some (.int .i64 x3, []))))) (some (.int .i64 x3, [])) := (LL_eq SS_ok (by decide) (by kernel_rfl) (by kernel_rfl)).trans (by kernel_rfl)
theorem g250_eq (a0 : ByteArray) : SS.CC 250 [.str a0] [] =
 g250_L3 a0 0 := (CC_run SS_ok rfl).trans (by kernel_rfl)
noncomputable def g252_c : Code := bodyOf Tryz.f252
noncomputable def g252_E : AE := SS.ae 252 19
noncomputable def g252_X : XE := SS.xe SS.CC SS.LL g252_E 0
noncomputable def g252_K0 : AX → ASt → R := retK SS.P Tryz.f252.results.toList (SS.prm 252).ro 0 []
noncomputable def g252_c1 : Code := Code.sub [true, true] g252_c
noncomputable def g252_K1 : AX → ASt → R := thenK (joinX g252_E 0 g252_c1 (exK g252_X g252_c1 g252_K0)) g252_K0
noncomputable def g252_K2 : AX → ASt → R := blkK 0 g252_K1
noncomputable def g252_c2 : Code := Code.sub [true, false, true, false, false] g252_c
noncomputable def g252_L3 (x0 : ByteArray) (x6 : List PV) (x8 : Int) : R := SS.LL g252_E 0 [0, 2, 6, 7, 8] 1 g252_c2 g252_K2 ⟨[(0, .str x0), (2, .ptr 0 0), (6, .sl false 1 x6), (7, .int .i64 (x6.length : Int)), (8, .int .i64 x8)], [some [.int .i64 0, .str ⟨#[]⟩, .int .i64 0, .int .i64 0, .int .i64 0]]⟩
theorem g252_L3_eq (x0 : ByteArray) (x6 : List PV) (x8 : Int) : g252_L3 x0 x6 x8 =
 bsel (decide (x8 < (x6.length : Int))) (lgetX x6 x8 fun e1 => vS e1 fun s2 => clX SS.CC 120 [.str x0, .str s2] fun r4 => vB r4 fun b3 => bsel b3 (some (.tuple [.agg [.int .i64 3, .str s2, .int .i64 0, .int .i64 0, .int .i64 0], .int .i64 0], [])) (g252_L3 x0 x6 (IntKind.i64.wrap (x8 + 1)))) (some (.tuple [.agg [.int .i64 0, .str ⟨#[]⟩, .int .i64 0, .int .i64 0, .int .i64 0], .int .i64 14], [])) := (LL_eq SS_ok (by decide) (by kernel_rfl) (by kernel_rfl)).trans (by kernel_rfl)
theorem g252_eq (a0 : ByteArray) : SS.CC 252 [.str a0] [] =
 clX SS.CC 302 [] fun r2 => vL false 1 r2 fun l1 => g252_L3 a0 l1 0 := (CC_run SS_ok rfl).trans (by kernel_rfl)
theorem g304_eq (a0 : ByteArray) : SS.CC 304 [.str a0] [] =
 clX SS.CC 333 [.str a0, .func (.func 334) [] []] fun r2 => vS r2 fun s1 => bsel (decide (32 < (s1.size : Int))) (some (.tuple [.agg [.int .i64 0, .str ⟨#[]⟩, .int .i64 0, .int .i64 0, .int .i64 0], .int .i64 15], [])) (some (.tuple [.agg [.int .i64 1, .str s1, .int .i64 0, .int .i64 0, .int .i64 0], .int .i64 0], [])) := (CC_run SS_ok rfl).trans (by kernel_rfl)
noncomputable def g306_c : Code := bodyOf Tryz.f306
noncomputable def g306_E : AE := SS.ae 306 46
noncomputable def g306_X : XE := SS.xe SS.CC SS.LL g306_E 0
noncomputable def g306_K0 : AX → ASt → R := retK SS.P Tryz.f306.results.toList (SS.prm 306).ro 0 []
noncomputable def g306_c1 : Code := Code.sub [true, true, true] g306_c
noncomputable def g306_c2 : Code := Code.sub [true, true, true, true, true] g306_c
noncomputable def g306_K1 : AX → ASt → R := thenK (joinX g306_E 0 g306_c2 (exK g306_X g306_c2 g306_K0)) g306_K0
noncomputable def g306_K2 : AX → ASt → R := blkK 0 g306_K1
noncomputable def g306_c3 : Code := Code.sub [true, true, true, true, false, true, false, false] g306_c
noncomputable def g306_J5 (x4 : ByteArray) : R := exK g306_X g306_c1 g306_K0 ⟨[(2, .ptr 0 0), (4, .str x4)], [some [.int .i64 0, .str ⟨#[]⟩, .int .i64 0, .int .i64 0, .int .i64 0]]⟩
noncomputable def g306_L7 (x4 : ByteArray) (x5 : Int) (x28 : Int) : R := SS.LL g306_E 0 [2, 4, 5, 27, 28] 1 g306_c3 g306_K2 ⟨[(2, .ptr 0 0), (4, .str x4), (5, .int .i64 x5), (27, .int .i64 (x4.size : Int)), (28, .int .i64 x28)], [some [.int .i64 0, .str ⟨#[]⟩, .int .i64 0, .int .i64 0, .int .i64 0]]⟩
theorem g306_J5_eq (x4 : ByteArray) : g306_J5 x4 =
 g306_L7 x4 0 0 := by kernel_rfl
theorem g306_L7_eq (x4 : ByteArray) (x5 : Int) (x28 : Int) : g306_L7 x4 x5 x28 =
 bsel (decide (x28 < (x4.size : Int))) (byteX x4 x28 fun c1 => bsel (decide (65536 < (IntKind.i64.wrap ((IntKind.i64.wrap (10 * x5)) + (IntKind.i64.wrap (IntKind.u8.wrap (c1 - 48))))))) (some (.tuple [.agg [.int .i64 0, .str ⟨#[]⟩, .int .i64 0, .int .i64 0, .int .i64 0], .int .i64 2], [])) (g306_L7 x4 (IntKind.i64.wrap ((IntKind.i64.wrap (10 * x5)) + (IntKind.i64.wrap (IntKind.u8.wrap (c1 - 48))))) (IntKind.i64.wrap (x28 + 1)))) (some (.tuple [.agg [.int .i64 2, .str x4, .int .i64 x5, .int .i64 0, .int .i64 0], .int .i64 0], [])) := (LL_eq SS_ok (by decide) (by kernel_rfl) (by kernel_rfl)).trans (by kernel_rfl)
theorem g306_eq (a0 : ByteArray) : SS.CC 306 [.str a0] [] =
 clX SS.CC 333 [.str a0, .func (.func 305) [] []] fun r2 => vS r2 fun s1 => clX SS.CC 333 [.str a0, .func (.func 334) [] []] fun r4 => vS r4 fun s3 => bsel (decide ((s1.size : Int) < (s3.size : Int))) (some (.tuple [.agg [.int .i64 0, .str ⟨#[]⟩, .int .i64 0, .int .i64 0, .int .i64 0], .int .i64 6], [])) (bsel (decide (1 < (s1.size : Int))) (byteX s1 0 fun c5 => bsel (c5 == 48) (some (.tuple [.agg [.int .i64 0, .str ⟨#[]⟩, .int .i64 0, .int .i64 0, .int .i64 0], .int .i64 6], [])) (g306_J5 s1)) (g306_J5 s1)) := (CC_run SS_ok rfl).trans (by kernel_rfl)
theorem g253_eq : SS.CC 253 [] [] =
 some (.sl false 2 [.agg [.func (.func 303) [] [], .func (.func 304) [] []], .agg [.func (.func 305) [] [], .func (.func 306) [] []]], []) := (CC_run SS_ok rfl).trans (by kernel_rfl)
theorem g300_eq (a0 : Int) : SS.CC 300 [.int .u8 a0] [] =
 bsel (a0 == 32) (some (.bool true, [])) (bsel (a0 == 9) (some (.bool true, [])) (bsel (a0 == 13) (some (.bool true, [])) (some (.bool (a0 == 10), [])))) := (CC_run SS_ok rfl).trans (by kernel_rfl)
theorem g120_eq (a0 : ByteArray) (a1 : ByteArray) : SS.CC 120 [.str a0, .str a1] [] =
 clX SS.CC 213 [.str a0, .str a1] fun r2 => vB r2 fun b1 => some (.bool b1, []) := (CC_run SS_ok rfl).trans (by kernel_rfl)
theorem g301_eq (a0 : ByteArray) (a1 : Int) : SS.CC 301 [.str a0, .int .u8 a1] [] =
 clX SS.CC 293 [.str a0, .int .u8 a1] fun r2 => vI .i64 r2 fun n1 => some (.int .i64 n1, []) := (CC_run SS_ok rfl).trans (by kernel_rfl)
theorem g302_eq : SS.CC 302 [] [] =
 some (.sl false 1 [.str ⟨#[45, 62]⟩, .str ⟨#[58, 61]⟩, .str ⟨#[61, 61]⟩, .str ⟨#[33, 61]⟩, .str ⟨#[60, 61]⟩, .str ⟨#[62, 61]⟩, .str ⟨#[46, 46]⟩, .str ⟨#[38, 38]⟩, .str ⟨#[124, 124]⟩, .str ⟨#[123]⟩, .str ⟨#[125]⟩, .str ⟨#[40]⟩, .str ⟨#[41]⟩, .str ⟨#[91]⟩, .str ⟨#[93]⟩, .str ⟨#[44]⟩, .str ⟨#[59]⟩, .str ⟨#[58]⟩, .str ⟨#[61]⟩, .str ⟨#[60]⟩, .str ⟨#[62]⟩, .str ⟨#[43]⟩, .str ⟨#[45]⟩, .str ⟨#[42]⟩, .str ⟨#[33]⟩, .str ⟨#[63]⟩], []) := (CC_run SS_ok rfl).trans (by kernel_rfl)
noncomputable def g333_c : Code := bodyOf Tryz.f333
noncomputable def g333_E : AE := SS.ae 333 22
noncomputable def g333_X : XE := SS.xe SS.CC SS.LL g333_E 0
noncomputable def g333_K0 : AX → ASt → R := retK SS.P Tryz.f333.results.toList (SS.prm 333).ro 0 []
noncomputable def g333_c1 : Code := Code.sub [true, true] g333_c
noncomputable def g333_K1 : AX → ASt → R := thenK (joinX g333_E 0 g333_c1 (exK g333_X g333_c1 g333_K0)) g333_K0
noncomputable def g333_K2 : AX → ASt → R := blkK 0 g333_K1
noncomputable def g333_c2 : Code := Code.sub [true, false, true, false, false] g333_c
noncomputable def g333_L3 (x0 : ByteArray) (x8 : Int) : R := SS.LL g333_E 0 [0, 1, 7, 8] 0 g333_c2 g333_K2 ⟨[(0, .str x0), (1, .func (.func 334) [] []), (7, .int .i64 (x0.size : Int)), (8, .int .i64 x8)], []⟩
theorem g333_L3_eq (x0 : ByteArray) (x8 : Int) : g333_L3 x0 x8 =
 bsel (decide (x8 < (x0.size : Int))) (byteX x0 x8 fun c1 => clX SS.CC 334 [.int .u8 c1] fun r3 => vB r3 fun b2 => bsel (!b2) (chk (decide (0 ≤ x8) && decide (x8 ≤ (x0.size : Int))) (some (.str (x0.extract 0 x8.toNat), []))) (g333_L3 x0 (IntKind.i64.wrap (x8 + 1)))) (some (.str x0, [])) := (LL_eq SS_ok (by decide) (by kernel_rfl) (by kernel_rfl)).trans (by kernel_rfl)
theorem g333_eq (a0 : ByteArray) : SS.CC 333 [.str a0, .func (.func 334) [] []] [] =
 g333_L3 a0 0 := (CC_run SS_ok rfl).trans (by kernel_rfl)
noncomputable def g333_1i_c : Code := bodyOf Tryz.f333
noncomputable def g333_1i_E : AE := SS.ae 333 22
noncomputable def g333_1i_X : XE := SS.xe SS.CC SS.LL g333_1i_E 0
noncomputable def g333_1i_K0 : AX → ASt → R := retK SS.P Tryz.f333.results.toList (SS.prm 333).ro 0 []
noncomputable def g333_1i_c1 : Code := Code.sub [true, true] g333_1i_c
noncomputable def g333_1i_K1 : AX → ASt → R := thenK (joinX g333_1i_E 0 g333_1i_c1 (exK g333_1i_X g333_1i_c1 g333_1i_K0)) g333_1i_K0
noncomputable def g333_1i_K2 : AX → ASt → R := blkK 0 g333_1i_K1
noncomputable def g333_1i_c2 : Code := Code.sub [true, false, true, false, false] g333_1i_c
noncomputable def g333_1i_L3 (x0 : ByteArray) (x8 : Int) : R := SS.LL g333_1i_E 0 [0, 1, 7, 8] 0 g333_1i_c2 g333_1i_K2 ⟨[(0, .str x0), (1, .func (.func 305) [] []), (7, .int .i64 (x0.size : Int)), (8, .int .i64 x8)], []⟩
theorem g333_1i_L3_eq (x0 : ByteArray) (x8 : Int) : g333_1i_L3 x0 x8 =
 bsel (decide (x8 < (x0.size : Int))) (byteX x0 x8 fun c1 => clX SS.CC 305 [.int .u8 c1] fun r3 => vB r3 fun b2 => bsel (!b2) (chk (decide (0 ≤ x8) && decide (x8 ≤ (x0.size : Int))) (some (.str (x0.extract 0 x8.toNat), []))) (g333_1i_L3 x0 (IntKind.i64.wrap (x8 + 1)))) (some (.str x0, [])) := (LL_eq SS_ok (by decide) (by kernel_rfl) (by kernel_rfl)).trans (by kernel_rfl)
theorem g333_1i_eq (a0 : ByteArray) : SS.CC 333 [.str a0, .func (.func 305) [] []] [] =
 g333_1i_L3 a0 0 := (CC_run SS_ok rfl).trans (by kernel_rfl)
theorem g213_eq (a0 : ByteArray) (a1 : ByteArray) : SS.CC 213 [.str a0, .str a1] [] =
 bsel (decide ((a1.size : Int) ≤ (a0.size : Int))) (chk (decide (0 ≤ (a1.size : Int)) && decide ((a1.size : Int) ≤ (a0.size : Int))) (some (.bool ((a0.extract 0 (a1.size : Int).toNat).toList == a1.toList), []))) (some (.bool false, [])) := (CC_run SS_ok rfl).trans (by kernel_rfl)
theorem g334_eq (a0 : Int) : SS.CC 334 [.int .u8 a0] [] =
 clX SS.CC 303 [.int .u8 a0] fun r2 => vB r2 fun b1 => bsel b1 (some (.bool true, [])) (clX SS.CC 305 [.int .u8 a0] fun r4 => vB r4 fun b3 => some (.bool b3, [])) := (CC_run SS_ok rfl).trans (by kernel_rfl)
theorem g305_eq (a0 : Int) : SS.CC 305 [.int .u8 a0] [] =
 bsel (decide (48 ≤ a0)) (some (.bool (decide (a0 ≤ 57)), [])) (some (.bool false, [])) := (CC_run SS_ok rfl).trans (by kernel_rfl)
theorem g303_eq (a0 : Int) : SS.CC 303 [.int .u8 a0] [] =
 bsel (decide (97 ≤ a0)) (bsel (decide (a0 ≤ 122)) (some (.bool true, [])) (bsel (decide (65 ≤ a0)) (bsel (decide (a0 ≤ 90)) (some (.bool true, [])) (some (.bool (a0 == 95), []))) (some (.bool (a0 == 95), [])))) (bsel (decide (65 ≤ a0)) (bsel (decide (a0 ≤ 90)) (some (.bool true, [])) (some (.bool (a0 == 95), []))) (some (.bool (a0 == 95), []))) := (CC_run SS_ok rfl).trans (by kernel_rfl)
theorem g251_eq (a0 : Int) (a0_1 : ByteArray) (a0_2 : Int) (a0_3 : Int) (a0_4 : Int) (h0_0 : Int) (h1_0 : Int) (h2_0 : Int) : SS.CC 251 [.agg [.int .i64 a0, .str a0_1, .int .i64 a0_2, .int .i64 a0_3, .int .i64 a0_4], .ptr 0 0, .ptr 1 0, .ptr 2 0] [some [.int .i64 h0_0], some [.int .i64 h1_0], some [.int .i64 h2_0]] =
 some (.agg [.int .i64 a0, .str a0_1, .int .i64 a0_2, .int .i64 h0_0, .int .i64 (IntKind.i64.wrap ((IntKind.i64.wrap (h1_0 - h2_0)) + 1))], [some [.int .i64 h0_0], some [.int .i64 h1_0], some [.int .i64 h2_0]]) := (show SS.CC 251 [.agg [.int .i64 a0, .str a0_1, .int .i64 a0_2, .int .i64 a0_3, .int .i64 a0_4], .ptr 0 0, .ptr 1 0, .ptr 2 0] [some [.int .i64 h0_0], some [.int .i64 h1_0], some [.int .i64 h2_0]] = agR (agR (some (.agg [.int .i64 a0, .str a0_1, .int .i64 a0_2, .int .i64 h0_0, .int .i64 (IntKind.i64.wrap ((IntKind.i64.wrap (h1_0 - h2_0)) + 1))], [some [.int .i64 h0_0], some [.int .i64 h1_0], some [.int .i64 h2_0]])) (some (.agg [.int .i64 a0, .str a0_1, .int .i64 a0_2, .int .i64 h0_0, .int .i64 (IntKind.i64.wrap ((IntKind.i64.wrap (h1_0 - h2_0)) + 1))], [some [.int .i64 h0_0], some [.int .i64 h1_0], some [.int .i64 h2_0]]))) (agR (agR (some (.agg [.int .i64 a0, .str a0_1, .int .i64 a0_2, .int .i64 h0_0, .int .i64 (IntKind.i64.wrap ((IntKind.i64.wrap (h1_0 - h2_0)) + 1))], [some [.int .i64 h0_0], some [.int .i64 h1_0], some [.int .i64 h2_0]])) (some (.agg [.int .i64 a0, .str a0_1, .int .i64 a0_2, .int .i64 h0_0, .int .i64 (IntKind.i64.wrap ((IntKind.i64.wrap (h1_0 - h2_0)) + 1))], [some [.int .i64 h0_0], some [.int .i64 h1_0], some [.int .i64 h2_0]]))) (some (.agg [.int .i64 a0, .str a0_1, .int .i64 a0_2, .int .i64 h0_0, .int .i64 (IntKind.i64.wrap ((IntKind.i64.wrap (h1_0 - h2_0)) + 1))], [some [.int .i64 h0_0], some [.int .i64 h1_0], some [.int .i64 h2_0]]))) from (CC_run SS_ok rfl).trans (by kernel_rfl)).trans (by simp only [agR_self])
end Go.Proofs.YtcdceiloganlnaaGreatDoor
namespace Go.Proofs.YtcdceiloganlnaaGreatDoor
open Go.RowKit
abbrev Ret (p : PV) : R := some (p, [])
theorem decT {p : Prop} [Decidable p] (h : p) : decide p = true := by simp [h]
theorem decF {p : Prop} [Decidable p] (h : ¬ p) : decide p = false := by simp [h]
def bs (l : List UInt8) : ByteArray := ⟨l.toArray⟩
@[simp] theorem bs_size (l : List UInt8) : (bs l).size = l.length := by simp [bs, ByteArray.size]
theorem bs_get (l : List UInt8) (i : Nat) : (bs l)[i]? = l[i]? := by
 by_cases h : i < l.length
 ·rw [List.getElem?_eq_getElem h]
  have : i < (bs l).size := by simpa using h
  rw [getElem?_pos (bs l) i this]
  rfl
 ·rw [List.getElem?_eq_none (by omega), getElem?_neg (bs l) i (by simpa using h)]
theorem bs_toList (l : List UInt8) : (bs l).toList = l := by
 rw [ByteArray.toList_eq]
 rfl
theorem bs_extract (l : List UInt8) (a b : Nat) : (bs l).extract a b = bs ((l.drop a).take (b - a)) := by
 apply ByteArray.ext
 rw [ByteArray.data_extract]
 simp [bs, List.extract]
theorem bs_data (s : ByteArray) : bs s.data.toList = s := by
 apply ByteArray.ext
 simp [bs]
def isLet (n : Nat) : Bool := (decide (97 ≤ n) && decide (n ≤ 122)) || ((decide (65 ≤ n) && decide (n ≤ 90)) || n == 95)
def isDig (n : Nat) : Bool := decide (48 ≤ n) && decide (n ≤ 57)
def isW (n : Nat) : Bool := isLet n || isDig n
def isBl (n : Nat) : Bool := n == 32 || (n == 9 || (n == 13 || n == 10))
theorem beqN (n k : Nat) : ((n : Int) == (k : Int)) = (n == k) := by
 rw [Bool.eq_iff_iff, beq_iff_eq, beq_iff_eq]; omega
theorem leN (k n : Nat) : decide ((k : Int) ≤ (n : Int)) = decide (k ≤ n) := by
 by_cases h : k ≤ n
 ·rw [decT h, decT (by omega)]
 ·rw [decF h, decF (by omega)]
theorem c78 (n : Nat) : SS.CC 303 [.int .u8 n] [] = Ret (.bool (isLet n)) := by
 rw [g303_eq, show decide ((97 : Int) ≤ n) = decide (97 ≤ n) from leN 97 n, show decide ((n : Int) ≤ 122) = decide (n ≤ 122) from leN n 122, show decide ((65 : Int) ≤ n) = decide (65 ≤ n) from leN 65 n, show decide ((n : Int) ≤ 90) = decide (n ≤ 90) from leN n 90,
  show ((n : Int) == 95) = (n == 95) from beqN n 95]
 simp only [bsel_ite, isLet]
 cases decide (97 ≤ n) <;> cases decide (n ≤ 122) <;> cases decide (65 ≤ n) <;> cases decide (n ≤ 90) <;> rfl
theorem c80 (n : Nat) : SS.CC 305 [.int .u8 n] [] = Ret (.bool (isDig n)) := by
 rw [g305_eq, show decide ((48 : Int) ≤ n) = decide (48 ≤ n) from leN 48 n, show decide ((n : Int) ≤ 57) = decide (n ≤ 57) from leN n 57]
 simp only [bsel_ite, isDig]
 cases decide (48 ≤ n) <;> cases decide (n ≤ 57) <;> rfl
theorem c91 (n : Nat) : SS.CC 334 [.int .u8 n] [] = Ret (.bool (isW n)) := by
 rw [g334_eq, clX_of (c78 n), vB_mk, clX_of (c80 n), vB_mk, bsel_ite, isW]
 cases isLet n <;> rfl
theorem c75 (n : Nat) : SS.CC 300 [.int .u8 n] [] = Ret (.bool (isBl n)) := by
 rw [g300_eq, show ((n : Int) == 32) = (n == 32) from beqN n 32, show ((n : Int) == 9) = (n == 9) from beqN n 9, show ((n : Int) == 13) = (n == 13) from beqN n 13, show ((n : Int) == 10) = (n == 10) from beqN n 10]
 simp only [bsel_ite, isBl]
 cases n == 32 <;> cases n == 9 <;> cases n == 13 <;> rfl
theorem wrs {k : Nat} (h : k < 1000000000000000) : IntKind.i64.wrap ((k : Int) + 1) = ((k + 1 : Nat) : Int) := by rw [wrap64 (by omega) (by omega)]; omega
def runS (p : Nat → Bool) (l : List UInt8) : List UInt8 := l.takeWhile fun b => p b.toNat
theorem runS_le (p : Nat → Bool) (l : List UInt8) : (runS p l).length ≤ l.length := (List.takeWhile_sublist _).length_le
theorem run_at {p : Nat → Bool} {l : List UInt8} : ∀ {k : Nat} {b : UInt8}, l[k]? = some b → (∀ j c, j < k → l[j]? = some c → p c.toNat = true) → p b.toNat = false → runS p l = l.take k := by
 induction l with
 | nil => intro k b h; simp at h
 | cons a l ih =>
  intro k b h h1 h2
  cases k with
  | zero => simp at h; subst h; simp [runS, List.takeWhile_cons, h2]
  | succ k =>
   have ha := h1 0 a (by omega) (by simp)
   have := ih (k := k) (b := b) (by simpa using h) (fun j c hj hc => h1 (j + 1) c (by omega) (by simpa using hc)) h2
   simp only [runS, List.takeWhile_cons, ha, if_true, List.take_succ_cons]
   rw [← this]; rfl
theorem run_all {p : Nat → Bool} {l : List UInt8} (h : ∀ (j : Nat) c, l[j]? = some c → p c.toNat = true) : runS p l = l := by
 induction l with
 | nil => rfl
 | cons a l ih =>
  have ha := h 0 a (by simp)
  have := ih fun j c hc => h (j + 1) c (by simpa using hc)
  unfold runS at *
  rw [List.takeWhile_cons, ha, if_pos rfl, this]
theorem c90 (l : List UInt8) (hl : l.length ≤ 1000000) : SS.CC 333 [.str (bs l), .func (.func 334) [] []] [] = Ret (.str (bs (runS isW l))) := by
 rw [g333_eq]
 have key : ∀ (m k : Nat), k + m = l.length → (∀ j c, j < k → l[j]? = some c → isW c.toNat = true) → g333_L3 (bs l) (k : Int) = Ret (.str (bs (runS isW l))) := by
  intro m
  induction m with
  | zero =>
   intro k hk h
   rw [g333_L3_eq, decF (by rw [bs_size]; omega), bsel_false]
   rw [run_all fun j c hc => h j c (by have := (List.getElem?_eq_some_iff.1 hc).1; omega) hc]
  | succ m ih =>
   intro k hk h
   obtain ⟨b, hb⟩ : ∃ b, l[k]? = some b := ⟨l[k], List.getElem?_eq_getElem (by omega)⟩
   rw [g333_L3_eq, decT (by rw [bs_size]; omega), bsel_true, byteX_of (b := b) (by omega) (by rw [bs_get]; simpa using hb), clX_of (c91 b.toNat), vB_mk, wrs (by omega)]
   cases hw : isW b.toNat with
   | true =>
    exact ih (k + 1) (by omega) fun j c hj hc => by
     rcases Nat.lt_or_ge j k with h' | h'
     ·exact h j c h' hc
     ·have : j = k := by omega
      subst this; rw [hb] at hc; injection hc with hc; subst hc; exact hw
   | false =>
    rw [run_at hb h hw]
    simp only [Bool.not_false, bsel_true]
    rw [chk_of (by simp; omega), bs_extract]
    simp
 exact key l.length 0 (by omega) (by omega)
theorem c90d (l : List UInt8) (hl : l.length ≤ 1000000) : SS.CC 333 [.str (bs l), .func (.func 305) [] []] [] = Ret (.str (bs (runS isDig l))) := by
 rw [g333_1i_eq]
 have key : ∀ (m k : Nat), k + m = l.length → (∀ j c, j < k → l[j]? = some c → isDig c.toNat = true) → g333_1i_L3 (bs l) (k : Int) = Ret (.str (bs (runS isDig l))) := by
  intro m
  induction m with
  | zero =>
   intro k hk h
   rw [g333_1i_L3_eq, decF (by rw [bs_size]; omega), bsel_false]
   rw [run_all fun j c hc => h j c (by have := (List.getElem?_eq_some_iff.1 hc).1; omega) hc]
  | succ m ih =>
   intro k hk h
   obtain ⟨b, hb⟩ : ∃ b, l[k]? = some b := ⟨l[k], List.getElem?_eq_getElem (by omega)⟩
   rw [g333_1i_L3_eq, decT (by rw [bs_size]; omega), bsel_true, byteX_of (b := b) (by omega) (by rw [bs_get]; simpa using hb), clX_of (c80 b.toNat), vB_mk, wrs (by omega)]
   cases hw : isDig b.toNat with
   | true =>
    exact ih (k + 1) (by omega) fun j c hj hc => by
     rcases Nat.lt_or_ge j k with h' | h'
     ·exact h j c h' hc
     ·have : j = k := by omega
      subst this; rw [hb] at hc; injection hc with hc; subst hc; exact hw
   | false =>
    rw [run_at hb h hw]
    simp only [Bool.not_false, bsel_true]
    rw [chk_of (by simp; omega), bs_extract]
    simp
 exact key l.length 0 (by omega) (by omega)
end Go.Proofs.YtcdceiloganlnaaGreatDoor
namespace Go.Proofs.YtcdceiloganlnaaGreatDoor
open Go.RowKit
structure Tok where
 kind : Int
 text : List UInt8
 value : Int
 line : Int
 col : Int
 deriving DecidableEq
def Tok.zero : Tok := ⟨0, [], 0, 0, 0⟩
def tokP (t : Tok) : PV := .agg [.int .i64 t.kind, .str (bs t.text), .int .i64 t.value, .int .i64 t.line, .int .i64 t.col]
def rd (r : Tok × Int) : PV := .tuple [tokP r.1, .int .i64 r.2]
def wordS (l : List UInt8) : Tok × Int := if 32 < (runS isW l).length then (.zero, 15) else (⟨1, runS isW l, 0, 0, 0⟩, 0)
theorem c79 (l : List UInt8) (hl : l.length ≤ 1000000) : SS.CC 304 [.str (bs l)] [] = Ret (rd (wordS l)) := by
 rw [g304_eq, clX_of (c90 l hl), vS_mk, bs_size, show decide ((32 : Int) < ((runS isW l).length : Int)) = decide (32 < (runS isW l).length) by
  by_cases h : 32 < (runS isW l).length
  ·rw [decT h, decT (by omega)]
  ·rw [decF h, decF (by omega)]]
 unfold wordS
 by_cases h : 32 < (runS isW l).length
 ·rw [decT h, if_pos h]; rfl
 ·rw [decF h, if_neg h]; rfl
def numL : List UInt8 → Nat → Option Nat
 | [], n => some n
 | b :: l, n => if 65536 < 10 * n + (b.toNat - 48) then none else numL l (10 * n + (b.toNat - 48))
def numberS (l : List UInt8) : Tok × Int :=
 if (runS isDig l).length < (runS isW l).length then (.zero, 6)
 else if 1 < (runS isDig l).length ∧ (runS isDig l)[0]? = some 48 then (.zero, 6)
 else match numL (runS isDig l) 0 with
  | none => (.zero, 2)
  | some n => (⟨2, runS isDig l, n, 0, 0⟩, 0)
theorem isDig_iff {n : Nat} : isDig n = true ↔ 48 ≤ n ∧ n ≤ 57 := by simp [isDig]
theorem dig_val {b : UInt8} (h : isDig b.toNat = true) : IntKind.i64.wrap (IntKind.u8.wrap ((b.toNat : Int) - 48)) = ((b.toNat - 48 : Nat) : Int) := by
 obtain ⟨h1, h2⟩ := isDig_iff.1 h
 rw [show IntKind.u8.wrap ((b.toNat : Int) - 48) = (b.toNat : Int) - 48 by unfold IntKind.wrap; simp only [IntKind.signed, IntKind.bits]; first | (simp; omega) | omega]
 rw [wrap64 (by omega) (by omega)]; omega
theorem runS_mem {p : Nat → Bool} {l : List UInt8} {b : UInt8} (h : b ∈ runS p l) : p b.toNat = true := by
 induction l with
 | nil => cases h
 | cons a l ih =>
  unfold runS at *
  rw [List.takeWhile_cons] at h
  split at h
  ·rename_i ha
   rcases List.mem_cons.1 h with h | h
   ·subst h; exact ha
   ·exact ih h
  ·cases h
theorem c81L (l : List UInt8) (hd : ∀ b, b ∈ l → isDig b.toNat = true) (hl : l.length ≤ 1000000) : ∀ (m k n : Nat), k + m = l.length → n ≤ 65536 →
 g306_L7 (bs l) (n : Int) (k : Int) = (match numL (l.drop k) n with | none => Ret (rd (.zero, 2)) | some v => Ret (rd (⟨2, l, v, 0, 0⟩, 0))) := by
 intro m
 induction m with
 | zero =>
  intro k n hk hn
  rw [g306_L7_eq, decF (by rw [bs_size]; omega), bsel_false, List.drop_eq_nil_of_le (by omega)]
  rfl
 | succ m ih =>
  intro k n hk hn
  obtain ⟨b, hb⟩ : ∃ b, l[k]? = some b := ⟨l[k], List.getElem?_eq_getElem (by omega)⟩
  have hdb := hd b (List.mem_of_getElem? hb)
  obtain ⟨h1, h2⟩ := isDig_iff.1 hdb
  have hdrop : l.drop k = b :: l.drop (k + 1) := by
   have hk' : k < l.length := by omega
   rw [List.drop_eq_getElem_cons hk']
   rw [List.getElem?_eq_getElem hk'] at hb; injection hb with hb; rw [hb]
  rw [g306_L7_eq, decT (by rw [bs_size]; omega), bsel_true, byteX_of (b := b) (by omega) (by rw [bs_get]; simpa using hb), dig_val hdb, wrap64 (n := 10 * (n : Int)) (by omega) (by omega), wrap64 (by omega) (by omega), wrs (by omega), hdrop, numL]
  by_cases hv : 65536 < 10 * n + (b.toNat - 48)
  ·rw [decT (by omega), bsel_true, if_pos hv]; rfl
  ·rw [decF (by omega), bsel_false, if_neg hv]
   have := ih (k + 1) (10 * n + (b.toNat - 48)) (by omega) (by omega)
   rw [← this]
   congr 1 <;> omega
theorem c81 (l : List UInt8) (hl : l.length ≤ 1000000) : SS.CC 306 [.str (bs l)] [] = Ret (rd (numberS l)) := by
 have hr := runS_le isDig l
 have key : g306_J5 (bs (runS isDig l)) = (match numL (runS isDig l) 0 with | none => Ret (rd (.zero, 2)) | some v => Ret (rd (⟨2, runS isDig l, v, 0, 0⟩, 0))) := by
  have := c81L (runS isDig l) (fun b hb => runS_mem hb) (by omega) (runS isDig l).length 0 0 (by omega) (by omega)
  rw [g306_J5_eq]; exact this
 have fin : (match numL (runS isDig l) 0 with | none => Ret (rd (.zero, 2)) | some v => Ret (rd (⟨2, runS isDig l, v, 0, 0⟩, 0))) = Ret (rd (match numL (runS isDig l) 0 with | none => (.zero, 2) | some n => (⟨2, runS isDig l, n, 0, 0⟩, 0))) := by
  cases numL (runS isDig l) 0 <;> rfl
 rw [g306_eq, clX_of (c90d l hl), vS_mk, clX_of (c90 l hl), vS_mk, bs_size, bs_size]
 unfold numberS
 by_cases h1 : (runS isDig l).length < (runS isW l).length
 ·rw [decT (by omega), bsel_true, if_pos h1]; rfl
 ·rw [decF (by omega), bsel_false, if_neg h1]
  by_cases h2 : 1 < (runS isDig l).length
  ·obtain ⟨b, hb⟩ : ∃ b, (runS isDig l)[0]? = some b := ⟨(runS isDig l)[0], List.getElem?_eq_getElem (by omega)⟩
   rw [decT (by omega), bsel_true, byteX_of (b := b) (by omega) (by rw [bs_get]; simpa using hb), hb]
   rw [show ((b.toNat : Int) == 48) = (b.toNat == 48) from beqN b.toNat 48]
   by_cases h3 : b = 48
   ·subst h3
    rw [if_pos ⟨h2, rfl⟩]; rfl
   ·have : b.toNat ≠ 48 := fun e => h3 (UInt8.toNat_inj.1 (by rw [e]; rfl))
    rw [if_neg (fun h => h3 (by simpa using h.2)), show (b.toNat == 48) = false by simpa using this, bsel_false, key, fin]
  ·rw [decF (by omega), bsel_false, if_neg (fun h => h2 h.1), key, fin]
def symsL : List (List UInt8) := [[45, 62], [58, 61], [61, 61], [33, 61], [60, 61], [62, 61], [46, 46], [38, 38], [124, 124], [123], [125], [40], [41], [91], [93], [44], [59], [58], [61], [60], [62], [43], [45], [42], [33], [63]]
def symOf (l : List UInt8) : Option (List UInt8) := symsL.find? fun x => x.isPrefixOf l
def symbolS (l : List UInt8) : Tok × Int := match symOf l with
 | some x => (⟨3, x, 0, 0, 0⟩, 0)
 | none => (.zero, 14)
theorem pre_take : ∀ (x l : List UInt8), (decide (x.length ≤ l.length) && (l.take x.length == x)) = x.isPrefixOf l
 | [], l => by simp
 | a :: x, [] => by simp
 | a :: x, b :: l => by
  have := pre_take x l
  simp only [List.length_cons, List.take_succ_cons, List.isPrefixOf, ← this, List.cons_beq_cons]
  rw [show decide (x.length + 1 ≤ l.length + 1) = decide (x.length ≤ l.length) by
   by_cases h : x.length ≤ l.length
   ·rw [decT h, decT (by omega)]
   ·rw [decF h, decF (by omega)], show (b == a) = (a == b) by rw [Bool.eq_iff_iff, beq_iff_eq, beq_iff_eq]; exact eq_comm]
  cases a == b <;> cases decide (x.length ≤ l.length) <;> simp
theorem c87 (l x : List UInt8) : SS.CC 213 [.str (bs l), .str (bs x)] [] = Ret (.bool (x.isPrefixOf l)) := by
 rw [g213_eq, ← pre_take, bs_size, bs_size, show decide ((x.length : Int) ≤ (l.length : Int)) = decide (x.length ≤ l.length) from leN _ _]
 by_cases h : x.length ≤ l.length
 ·rw [decT h, bsel_true, chk_of (by simp), bs_extract, bs_toList, bs_toList]
  simp
 ·rw [decF h]; rfl
theorem c69 (l x : List UInt8) : SS.CC 120 [.str (bs l), .str (bs x)] [] = Ret (.bool (x.isPrefixOf l)) := by
 rw [g120_eq, clX_of (c87 l x), vB_mk]
theorem c77 : SS.CC 302 [] [] = Ret (.sl false 1 (symsL.map fun x => .str (bs x))) := g302_eq
theorem c61L (l : List UInt8) (xs : List (List UInt8)) (hx : xs.length ≤ 1000) : ∀ (m k : Nat), k + m = xs.length →
 g252_L3 (bs l) (xs.map fun x => .str (bs x)) (k : Int) = Ret (rd (match (xs.drop k).find? (fun x => x.isPrefixOf l) with | some x => (⟨3, x, 0, 0, 0⟩, 0) | none => (.zero, 14))) := by
 intro m
 induction m with
 | zero =>
  intro k hk
  rw [g252_L3_eq, decF (by rw [List.length_map]; omega), bsel_false, List.drop_eq_nil_of_le (by omega)]
  rfl
 | succ m ih =>
  intro k hk
  have hk' : k < xs.length := by omega
  rw [g252_L3_eq, decT (by rw [List.length_map]; omega), bsel_true, lgetX_of (e := .str (bs xs[k])) (by omega) (by simp [hk']), vS_mk, clX_of (c69 l xs[k]), vB_mk, wrs (by omega), List.drop_eq_getElem_cons hk', List.find?_cons]
  cases xs[k].isPrefixOf l with
  | true => rfl
  | false => exact ih (k + 1) (by omega)
theorem c61 (l : List UInt8) : SS.CC 252 [.str (bs l)] [] = Ret (rd (symbolS l)) := by
 rw [g252_eq, clX_of c77, vL_mk]
 exact c61L l symsL (by decide) symsL.length 0 (by omega)
def skipS : Bool → List UInt8 → Nat
 | _, [] => 0
 | true, b :: l => if b = 10 then 1 + skipS false l else 1 + skipS true l
 | false, b :: l => if isBl b.toNat then 1 + skipS false l else if [47, 47].isPrefixOf (b :: l) then 1 + skipS true l else 0
theorem skip_idx (l : List UInt8) : if Lib.indexByte l 10 < 0 then skipS true l = l.length else ∃ j : Nat, Lib.indexByte l 10 = j ∧ j < l.length ∧ skipS true l = j + skipS false (l.drop j) := by
 induction l with
 | nil => simp [Lib.indexByte, skipS]
 | cons b l ih =>
  have hge := Lib.indexByte_ge l 10
  rw [Lib.indexByte]
  by_cases hb : b = 10
  ·subst hb
   simp only [beq_self_eq_true, if_true]
   rw [if_neg (by omega)]
   exact ⟨0, rfl, by simp, by simp [skipS, isBl]⟩
  ·have hbb : (b == 10) = false := by simpa using hb
   simp only [hbb, Bool.false_eq_true, if_false]
   by_cases h : Lib.indexByte l 10 < 0
   ·rw [if_pos h] at ih
    have h1 : Lib.indexByte l 10 = -1 := by omega
    rw [h1]
    simp [skipS, hb, ih]; omega
   ·rw [if_neg h] at ih
    obtain ⟨j, h1, h2, h3⟩ := ih
    have : (Lib.indexByte l 10 == -1) = false := by simp; omega
    rw [this]
    simp only [Bool.false_eq_true, if_false]
    rw [if_neg (by omega)]
    exact ⟨j + 1, by omega, by simp; omega, by simp [skipS, hb, h3]; omega⟩
theorem c76 (l : List UInt8) : SS.CC 301 [.str (bs l), .int .u8 10] [] = Ret (.int .i64 (Lib.indexByte l 10)) := by
 have h89 : SS.CC 293 [.str (bs l), .int .u8 10] [] = Ret (.int .i64 (Lib.indexByte l 10)) := by
  rw [CC_eq SS_ok]; rfl
 rw [g301_eq, clX_of h89, vI_mk]
theorem c59 (l : List UInt8) (hl : l.length ≤ 1000000) : SS.CC 250 [.str (bs l)] [] = Ret (.int .i64 ((skipS false l : Nat) : Int)) := by
 rw [g250_eq]
 have key : ∀ (m k : Nat), l.length ≤ k + m → k ≤ l.length → g250_L3 (bs l) (k : Int) = Ret (.int .i64 ((k + skipS false (l.drop k) : Nat) : Int)) := by
  intro m
  induction m with
  | zero =>
   intro k hk hk2
   rw [g250_L3_eq, decF (by rw [bs_size]; omega), bsel_false, List.drop_eq_nil_of_le (by omega)]
   rfl
  | succ m ih =>
   intro k hk hk2
   by_cases hlt : k < l.length
   ·have hdrop : l.drop k = l[k] :: l.drop (k + 1) := List.drop_eq_getElem_cons hlt
    have he : (bs l).extract k l.length = bs (l.drop k) := by rw [bs_extract, List.take_of_length_le (by simp)]
    rw [g250_L3_eq, decT (by rw [bs_size]; omega), bsel_true, byteX_of (b := l[k]) (by omega) (by rw [bs_get]; simp [hlt]), clX_of (c75 _), vB_mk, bs_size, Int.toNat_natCast, he, show (⟨#[47, 47]⟩ : ByteArray) = bs [47, 47] from rfl, clX_of (c69 _ _), vB_mk, clX_of (c76 _), vI_mk, wrs (by omega)]
    cases hb : isBl l[k].toNat with
    | true =>
     rw [bsel_true, ih (k + 1) (by omega) (by omega), hdrop, skipS, if_pos hb]
     congr 3; omega
    | false =>
     rw [bsel_false, chk_of (by simp; omega)]
     cases hp : [47, 47].isPrefixOf (l.drop k) with
     | false =>
      rw [bsel_false]
      have : skipS false (l.drop k) = 0 := by
       rw [hdrop] at hp ⊢
       rw [skipS, if_neg (by rw [hb]; simp), if_neg (by rw [hp]; simp)]
      rw [this]; rfl
     | true =>
      rw [bsel_true, chk_of (by simp; omega)]
      have hs : skipS false (l.drop k) = skipS true (l.drop k) := by
       rw [hdrop] at hp ⊢
       have hne : l[k] ≠ 10 := by
        intro e
        rw [e] at hp
        simp [List.isPrefixOf] at hp
       have e1 : skipS false (l[k] :: l.drop (k + 1)) = 1 + skipS true (l.drop (k + 1)) := by
        rw [skipS, if_neg (by rw [hb]; simp), if_pos hp]
       have e2 : skipS true (l[k] :: l.drop (k + 1)) = 1 + skipS true (l.drop (k + 1)) := by
        rw [skipS, if_neg hne]
       rw [e1, e2]
      have hi := skip_idx (l.drop k)
      rw [hs]
      by_cases h0 : Lib.indexByte (l.drop k) 10 < 0
      ·rw [if_pos h0] at hi
       rw [decT h0, bsel_true, hi]
       simp; omega
      ·rw [if_neg h0] at hi
       obtain ⟨j, h1, h2, h3⟩ := hi
       have hj : 0 < j := by
        rcases Nat.eq_zero_or_pos j with e | e
        ·subst e
         rw [hdrop, Lib.indexByte] at h1
         have hne : l[k] ≠ 10 := by
          intro e
          rw [hdrop, e] at hp
          simp [List.isPrefixOf] at hp
         rw [if_neg (by simpa using hne)] at h1
         have := Lib.indexByte_ge (l.drop (k + 1)) 10
         split at h1 <;> rename_i hh <;> simp at hh <;> omega
        ·exact e
       simp at h2
       rw [decF h0, bsel_false, h1, wrap64 (by omega) (by omega), show ((k : Int) + (j : Int)) = ((k + j : Nat) : Int) by omega, ih (k + j) (by omega) (by omega), h3, List.drop_drop]
       congr 3; omega
   ·rw [g250_L3_eq, decF (by rw [bs_size]; omega), bsel_false, List.drop_eq_nil_of_le (by omega)]
    rfl
 have := key l.length 0 (by omega) (by omega)
 simpa using this
end Go.Proofs.YtcdceiloganlnaaGreatDoor
namespace Go.Proofs.YtcdceiloganlnaaGreatDoor
open Go.RowKit
set_option maxRecDepth 1000000
def opsOf : Code → Array Oper | .region _ ops _ => ops | _ => #[]
noncomputable def p58a_c : Code := bodyOf Tryz.f249
noncomputable def p58a_E : AE := SS.ae 249 86
noncomputable def p58a_X : XE := SS.xe SS.CC SS.LL p58a_E 7
noncomputable def p58a_c1 : Code := Code.sub [false, true, true, false, false, false, false] p58a_c
theorem p58a_eq (l : Nat) (K : AX → ASt → R) (s : ByteArray) (L : List PV) (c1 : Int) (c2 : Int) (c3 : Int) (line : Int) (start : Int) (at_ : Int) : exK p58a_X p58a_c1 K ⟨[(0, .func (.yield l) [] []), (1, .cst (.str s)), (3, .ptr 4 0), (4, .ptr 5 0), (5, .ptr 6 0)], [some [.sl true 5 L], some [.int .i64 c1], some [.int .i64 c2], some [.int .i64 c3], some [.int .i64 line], some [.int .i64 start], some [.int .i64 at_]]⟩ =
 chk (decide (0 ≤ at_) && decide (at_ ≤ (s.size : Int))) (clX SS.CC 250 [.str (s.extract at_.toNat s.size)] fun r2 => vI .i64 r2 fun n1 => K .normal ⟨[(0, .func (.yield l) [] []), (1, .cst (.str s)), (3, .ptr 4 0), (4, .ptr 5 0), (5, .ptr 6 0), (6, .int .i64 n1), (14, .str s), (15, .int .i64 at_), (16, .str (s.extract at_.toNat s.size)), (17, .int .i64 n1)], [some [.sl true 5 L], some [.int .i64 c1], some [.int .i64 c2], some [.int .i64 c3], some [.int .i64 line], some [.int .i64 start], some [.int .i64 at_]]⟩) := by kernel_rfl
noncomputable def p58b_c : Code := bodyOf Tryz.f249
noncomputable def p58b_E : AE := SS.ae 249 86
noncomputable def p58b_X : XE := SS.xe SS.CC SS.LL p58b_E 7
noncomputable def p58b_c1 : Code := Code.sub [false, true, true, false, false, false, true, false] p58b_c
noncomputable def p58b_K1 (K : AX → ASt → R) : AX → ASt → R := blkK 2 K
noncomputable def p58b_c2 : Code := Code.sub [false, true, true, false, false, false, true, false, true, false, false] p58b_c
noncomputable def p58b_L4 (l : Nat) (K : AX → ASt → R) (x1 : ByteArray) (x6 : Int) (x7 : Int) (o0_0 : List PV) (o1_0 : Int) (o2_0 : Int) (o3_0 : Int) (o4_0 : Int) (o5_0 : Int) (o6_0 : Int) : R := SS.LL p58b_E 7 [0, 1, 3, 4, 5, 6, 7] 7 p58b_c2 (p58b_K1 K) ⟨[(0, .func (.yield l) [] []), (1, .cst (.str x1)), (3, .ptr 4 0), (4, .ptr 5 0), (5, .ptr 6 0), (6, .int .i64 x6), (7, .int .i64 x7)], [some [.sl true 5 o0_0], some [.int .i64 o1_0], some [.int .i64 o2_0], some [.int .i64 o3_0], some [.int .i64 o4_0], some [.int .i64 o5_0], some [.int .i64 o6_0]]⟩
theorem p58b_L4_eq (l : Nat) (K : AX → ASt → R) (x1 : ByteArray) (x6 : Int) (x7 : Int) (o0_0 : List PV) (o1_0 : Int) (o2_0 : Int) (o3_0 : Int) (o4_0 : Int) (o5_0 : Int) (o6_0 : Int) : p58b_L4 l K x1 x6 x7 o0_0 o1_0 o2_0 o3_0 o4_0 o5_0 o6_0 =
 bsel (decide (x7 < (IntKind.i64.wrap (o6_0 + x6)))) (byteX x1 x7 fun c1 => bsel (c1 == 10) (p58b_L4 l K x1 x6 (IntKind.i64.wrap (x7 + 1)) o0_0 o1_0 o2_0 o3_0 (IntKind.i64.wrap (o4_0 + 1)) (IntKind.i64.wrap (x7 + 1)) o6_0) (p58b_L4 l K x1 x6 (IntKind.i64.wrap (x7 + 1)) o0_0 o1_0 o2_0 o3_0 o4_0 o5_0 o6_0)) (K .normal ⟨[(0, .func (.yield l) [] []), (1, .cst (.str x1)), (3, .ptr 4 0), (4, .ptr 5 0), (5, .ptr 6 0), (6, .int .i64 x6), (7, .int .i64 x7), (19, .int .i64 x7), (20, .int .i64 o6_0), (21, .int .i64 x6), (22, .int .i64 (IntKind.i64.wrap (o6_0 + x6))), (23, .bool false)], [some [.sl true 5 o0_0], some [.int .i64 o1_0], some [.int .i64 o2_0], some [.int .i64 o3_0], some [.int .i64 o4_0], some [.int .i64 o5_0], some [.int .i64 o6_0]]⟩) := (LL_eq SS_ok (by decide) (by kernel_rfl) (by kernel_rfl)).trans (by kernel_rfl)
theorem p58b_eq (l : Nat) (K : AX → ASt → R) (s : ByteArray) (g : Int) (L : List PV) (c1 : Int) (c2 : Int) (c3 : Int) (line : Int) (start : Int) (at_ : Int) : exK p58b_X p58b_c1 K ⟨[(0, .func (.yield l) [] []), (1, .cst (.str s)), (3, .ptr 4 0), (4, .ptr 5 0), (5, .ptr 6 0), (6, .int .i64 g)], [some [.sl true 5 L], some [.int .i64 c1], some [.int .i64 c2], some [.int .i64 c3], some [.int .i64 line], some [.int .i64 start], some [.int .i64 at_]]⟩ =
 p58b_L4 l K s g at_ L c1 c2 c3 line start at_ := by kernel_rfl
noncomputable def p58c_c : Code := bodyOf Tryz.f249
noncomputable def p58c_E : AE := SS.ae 249 86
noncomputable def p58c_X : XE := SS.xe SS.CC SS.LL p58c_E 7
noncomputable def p58c_c1 : Code := Code.sub [false, true, true, false, false, false, true, true, false] p58c_c
theorem p58c_eq (l : Nat) (K : AX → ASt → R) (s : ByteArray) (g : Int) (L : List PV) (c1 : Int) (c2 : Int) (c3 : Int) (line : Int) (start : Int) (at_ : Int) : exK p58c_X p58c_c1 K ⟨[(0, .func (.yield l) [] []), (1, .cst (.str s)), (3, .ptr 4 0), (4, .ptr 5 0), (5, .ptr 6 0), (6, .int .i64 g)], [some [.sl true 5 L], some [.int .i64 c1], some [.int .i64 c2], some [.int .i64 c3], some [.int .i64 line], some [.int .i64 start], some [.int .i64 at_]]⟩ =
 K .normal ⟨[(0, .func (.yield l) [] []), (1, .cst (.str s)), (3, .ptr 4 0), (4, .ptr 5 0), (5, .ptr 6 0), (6, .int .i64 g), (34, .int .i64 at_), (35, .int .i64 g), (36, .int .i64 (IntKind.i64.wrap (at_ + g)))], [some [.sl true 5 L], some [.int .i64 c1], some [.int .i64 c2], some [.int .i64 c3], some [.int .i64 line], some [.int .i64 start], some [.int .i64 (IntKind.i64.wrap (at_ + g))]]⟩ := by kernel_rfl
noncomputable def p58d_c : Code := bodyOf Tryz.f249
noncomputable def p58d_E : AE := SS.ae 249 86
noncomputable def p58d_X : XE := SS.xe SS.CC SS.LL p58d_E 7
noncomputable def p58d_c1 : Code := Code.sub [false, true, true, false, false, false, true, true, true, false] p58d_c
theorem p58d_eq (l : Nat) (K : AX → ASt → R) (s : ByteArray) (L : List PV) (c1 : Int) (c2 : Int) (c3 : Int) (line : Int) (start : Int) (at_ : Int) : exK p58d_X p58d_c1 K ⟨[(0, .func (.yield l) [] []), (1, .cst (.str s)), (3, .ptr 4 0), (4, .ptr 5 0), (5, .ptr 6 0)], [some [.sl true 5 L], some [.int .i64 c1], some [.int .i64 c2], some [.int .i64 c3], some [.int .i64 line], some [.int .i64 start], some [.int .i64 at_]]⟩ =
 K .normal ⟨[(0, .func (.yield l) [] []), (1, .cst (.str s)), (3, .ptr 4 0), (4, .ptr 5 0), (5, .ptr 6 0), (8, .func (.func 251) [] [.ptr 4 0, .ptr 6 0, .ptr 5 0]), (37, .func (.func 251) [] [.ptr 4 0, .ptr 6 0, .ptr 5 0])], [some [.sl true 5 L], some [.int .i64 c1], some [.int .i64 c2], some [.int .i64 c3], some [.int .i64 line], some [.int .i64 start], some [.int .i64 at_]]⟩ := by kernel_rfl
noncomputable def p58e_c : Code := bodyOf Tryz.f249
noncomputable def p58e_E : AE := SS.ae 249 86
noncomputable def p58e_X : XE := SS.xe SS.CC SS.LL p58e_E 7
noncomputable def p58e_c1 : Code := Code.sub [false, true, true, false, false, false, true, true, true, true, false, false] p58e_c
theorem p58e_eq (l : Nat) (K : AX → ASt → R) (s : ByteArray) (L : List PV) (c1 : Int) (c2 : Int) (c3 : Int) (line : Int) (start : Int) (at_ : Int) : exK p58e_X p58e_c1 K ⟨[(0, .func (.yield l) [] []), (1, .cst (.str s)), (3, .ptr 4 0), (4, .ptr 5 0), (5, .ptr 6 0), (8, .func (.func 251) [] [.ptr 4 0, .ptr 6 0, .ptr 5 0])], [some [.sl true 5 L], some [.int .i64 c1], some [.int .i64 c2], some [.int .i64 c3], some [.int .i64 line], some [.int .i64 start], some [.int .i64 at_]]⟩ =
 K .normal ⟨[(0, .func (.yield l) [] []), (1, .cst (.str s)), (3, .ptr 4 0), (4, .ptr 5 0), (5, .ptr 6 0), (8, .func (.func 251) [] [.ptr 4 0, .ptr 6 0, .ptr 5 0]), (38, .int .i64 at_), (39, .str s), (40, .int .i64 (s.size : Int)), (41, .bool (at_ == (s.size : Int)))], [some [.sl true 5 L], some [.int .i64 c1], some [.int .i64 c2], some [.int .i64 c3], some [.int .i64 line], some [.int .i64 start], some [.int .i64 at_]]⟩ := by kernel_rfl
noncomputable def p58f_c : Code := bodyOf Tryz.f249
noncomputable def p58f_E : AE := SS.ae 249 86
noncomputable def p58f_X : XE := SS.xe SS.CC SS.LL p58f_E 7
noncomputable def p58f_c1 : Code := Code.sub [false, true, true, false, false, false, true, true, true, true, false, true, false, false] p58f_c
theorem p58f_eq (l : Nat) (K : AX → ASt → R) (s : ByteArray) (L : List PV) (c1 : Int) (c2 : Int) (c3 : Int) (line : Int) (start : Int) (at_ : Int) : exOps p58f_X false (opsOf p58f_c1) (((opsOf p58f_c1).toList.drop 0).take 4) (K .normal) ⟨[(0, .func (.yield l) [] []), (1, .cst (.str s)), (3, .ptr 4 0), (4, .ptr 5 0), (5, .ptr 6 0), (8, .func (.func 251) [] [.ptr 4 0, .ptr 6 0, .ptr 5 0])], [some [.sl true 5 L], some [.int .i64 c1], some [.int .i64 c2], some [.int .i64 c3], some [.int .i64 line], some [.int .i64 start], some [.int .i64 at_]]⟩ =
 clH SS.CC 251 [.agg [.int .i64 4, .str ⟨#[]⟩, .int .i64 0, .int .i64 0, .int .i64 0], .ptr 0 0, .ptr 1 0, .ptr 2 0] [some [.int .i64 line], some [.int .i64 at_], some [.int .i64 start]] fun r9 h10 => h251_0 r9 h10 fun n1 s2 n3 n4 n5 n6 n7 n8 => K .normal ⟨[(0, .func (.yield l) [] []), (1, .cst (.str s)), (3, .ptr 4 0), (4, .ptr 5 0), (5, .ptr 6 0), (8, .func (.func 251) [] [.ptr 4 0, .ptr 6 0, .ptr 5 0]), (42, .func (.yield l) [] []), (43, .func (.func 251) [] [.ptr 4 0, .ptr 6 0, .ptr 5 0]), (44, .agg [.int .i64 4, .str ⟨#[]⟩, .int .i64 0, .int .i64 0, .int .i64 0]), (45, .agg [.int .i64 n1, .str s2, .int .i64 n3, .int .i64 n4, .int .i64 n5])], [some [.sl true 5 L], some [.int .i64 c1], some [.int .i64 c2], some [.int .i64 c3], some [.int .i64 n6], some [.int .i64 n8], some [.int .i64 n7]]⟩ := by kernel_rfl
noncomputable def p58g_c : Code := bodyOf Tryz.f249
noncomputable def p58g_E : AE := SS.ae 249 86
noncomputable def p58g_X : XE := SS.xe SS.CC SS.LL p58g_E 7
noncomputable def p58g_c1 : Code := Code.sub [false, true, true, false, false, false, true, true, true, true, true, false] p58g_c
theorem p58g_eq (l : Nat) (K : AX → ASt → R) (s : ByteArray) (L : List PV) (c1 : Int) (c2 : Int) (c3 : Int) (line : Int) (start : Int) (at_ : Int) : exK p58g_X p58g_c1 K ⟨[(0, .func (.yield l) [] []), (1, .cst (.str s)), (3, .ptr 4 0), (4, .ptr 5 0), (5, .ptr 6 0), (8, .func (.func 251) [] [.ptr 4 0, .ptr 6 0, .ptr 5 0])], [some [.sl true 5 L], some [.int .i64 c1], some [.int .i64 c2], some [.int .i64 c3], some [.int .i64 line], some [.int .i64 start], some [.int .i64 at_]]⟩ =
 K .normal ⟨[(0, .func (.yield l) [] []), (1, .cst (.str s)), (3, .ptr 4 0), (4, .ptr 5 0), (5, .ptr 6 0), (8, .func (.func 251) [] [.ptr 4 0, .ptr 6 0, .ptr 5 0]), (9, .func (.func 252) [] [])], [some [.sl true 5 L], some [.int .i64 c1], some [.int .i64 c2], some [.int .i64 c3], some [.int .i64 line], some [.int .i64 start], some [.int .i64 at_]]⟩ := by kernel_rfl
noncomputable def p58i1_c : Code := bodyOf Tryz.f249
noncomputable def p58i1_E : AE := SS.ae 249 86
noncomputable def p58i1_X : XE := SS.xe SS.CC SS.LL p58i1_E 7
noncomputable def p58i1_c1 : Code := Code.sub [false, true, true, false, false, false, true, true, true, true, true, true, true, false] p58i1_c
theorem p58i1_eq (l : Nat) (K : AX → ASt → R) (s : ByteArray) (L : List PV) (c1 : Int) (c2 : Int) (c3 : Int) (line : Int) (start : Int) (at_ : Int) : exK p58i1_X p58i1_c1 K ⟨[(0, .func (.yield l) [] []), (1, .cst (.str s)), (3, .ptr 4 0), (4, .ptr 5 0), (5, .ptr 6 0), (8, .func (.func 251) [] [.ptr 4 0, .ptr 6 0, .ptr 5 0]), (9, .func (.func 252) [] [])], [some [.sl true 5 L], some [.int .i64 c1], some [.int .i64 c2], some [.int .i64 c3], some [.int .i64 line], some [.int .i64 start], some [.int .i64 at_]]⟩ =
 chk (decide (0 ≤ at_) && decide (at_ ≤ (s.size : Int))) (clX SS.CC 252 [.str (s.extract at_.toNat s.size)] fun r7 => w_191_3 r7 fun n1 s2 n3 n4 n5 n6 => K .normal ⟨[(0, .func (.yield l) [] []), (1, .cst (.str s)), (3, .ptr 4 0), (4, .ptr 5 0), (5, .ptr 6 0), (8, .func (.func 251) [] [.ptr 4 0, .ptr 6 0, .ptr 5 0]), (9, .func (.func 252) [] []), (12, .ptr 7 0), (13, .int .i64 n6), (62, .tuple [.agg [.int .i64 n1, .str s2, .int .i64 n3, .int .i64 n4, .int .i64 n5], .int .i64 n6]), (63, .func (.func 252) [] []), (64, .str s), (65, .int .i64 at_), (66, .str (s.extract at_.toNat s.size)), (67, .tuple [.agg [.int .i64 n1, .str s2, .int .i64 n3, .int .i64 n4, .int .i64 n5], .int .i64 n6]), (68, .agg [.int .i64 n1, .str s2, .int .i64 n3, .int .i64 n4, .int .i64 n5]), (69, .int .i64 n6)], [some [.sl true 5 L], some [.int .i64 c1], some [.int .i64 c2], some [.int .i64 c3], some [.int .i64 line], some [.int .i64 start], some [.int .i64 at_], some [.int .i64 n1, .str s2, .int .i64 n3, .int .i64 n4, .int .i64 n5]]⟩) := by kernel_rfl
noncomputable def p58i2_c : Code := bodyOf Tryz.f249
noncomputable def p58i2_E : AE := SS.ae 249 86
noncomputable def p58i2_X : XE := SS.xe SS.CC SS.LL p58i2_E 7
noncomputable def p58i2_c1 : Code := Code.sub [false, true, true, false, false, false, true, true, true, true, true, true, true, false] p58i2_c
theorem p58i2_eq (l : Nat) (K : AX → ASt → R) (s : ByteArray) (L : List PV) (c1 : Int) (c2 : Int) (c3 : Int) (line : Int) (start : Int) (at_ : Int) : exK p58i2_X p58i2_c1 K ⟨[(0, .func (.yield l) [] []), (1, .cst (.str s)), (3, .ptr 4 0), (4, .ptr 5 0), (5, .ptr 6 0), (8, .func (.func 251) [] [.ptr 4 0, .ptr 6 0, .ptr 5 0]), (9, .func (.func 304) [] [])], [some [.sl true 5 L], some [.int .i64 c1], some [.int .i64 c2], some [.int .i64 c3], some [.int .i64 line], some [.int .i64 start], some [.int .i64 at_]]⟩ =
 chk (decide (0 ≤ at_) && decide (at_ ≤ (s.size : Int))) (clX SS.CC 304 [.str (s.extract at_.toNat s.size)] fun r7 => w_191_3 r7 fun n1 s2 n3 n4 n5 n6 => K .normal ⟨[(0, .func (.yield l) [] []), (1, .cst (.str s)), (3, .ptr 4 0), (4, .ptr 5 0), (5, .ptr 6 0), (8, .func (.func 251) [] [.ptr 4 0, .ptr 6 0, .ptr 5 0]), (9, .func (.func 304) [] []), (12, .ptr 7 0), (13, .int .i64 n6), (62, .tuple [.agg [.int .i64 n1, .str s2, .int .i64 n3, .int .i64 n4, .int .i64 n5], .int .i64 n6]), (63, .func (.func 304) [] []), (64, .str s), (65, .int .i64 at_), (66, .str (s.extract at_.toNat s.size)), (67, .tuple [.agg [.int .i64 n1, .str s2, .int .i64 n3, .int .i64 n4, .int .i64 n5], .int .i64 n6]), (68, .agg [.int .i64 n1, .str s2, .int .i64 n3, .int .i64 n4, .int .i64 n5]), (69, .int .i64 n6)], [some [.sl true 5 L], some [.int .i64 c1], some [.int .i64 c2], some [.int .i64 c3], some [.int .i64 line], some [.int .i64 start], some [.int .i64 at_], some [.int .i64 n1, .str s2, .int .i64 n3, .int .i64 n4, .int .i64 n5]]⟩) := by kernel_rfl
noncomputable def p58i3_c : Code := bodyOf Tryz.f249
noncomputable def p58i3_E : AE := SS.ae 249 86
noncomputable def p58i3_X : XE := SS.xe SS.CC SS.LL p58i3_E 7
noncomputable def p58i3_c1 : Code := Code.sub [false, true, true, false, false, false, true, true, true, true, true, true, true, false] p58i3_c
theorem p58i3_eq (l : Nat) (K : AX → ASt → R) (s : ByteArray) (L : List PV) (c1 : Int) (c2 : Int) (c3 : Int) (line : Int) (start : Int) (at_ : Int) : exK p58i3_X p58i3_c1 K ⟨[(0, .func (.yield l) [] []), (1, .cst (.str s)), (3, .ptr 4 0), (4, .ptr 5 0), (5, .ptr 6 0), (8, .func (.func 251) [] [.ptr 4 0, .ptr 6 0, .ptr 5 0]), (9, .func (.func 306) [] [])], [some [.sl true 5 L], some [.int .i64 c1], some [.int .i64 c2], some [.int .i64 c3], some [.int .i64 line], some [.int .i64 start], some [.int .i64 at_]]⟩ =
 chk (decide (0 ≤ at_) && decide (at_ ≤ (s.size : Int))) (clX SS.CC 306 [.str (s.extract at_.toNat s.size)] fun r7 => w_191_3 r7 fun n1 s2 n3 n4 n5 n6 => K .normal ⟨[(0, .func (.yield l) [] []), (1, .cst (.str s)), (3, .ptr 4 0), (4, .ptr 5 0), (5, .ptr 6 0), (8, .func (.func 251) [] [.ptr 4 0, .ptr 6 0, .ptr 5 0]), (9, .func (.func 306) [] []), (12, .ptr 7 0), (13, .int .i64 n6), (62, .tuple [.agg [.int .i64 n1, .str s2, .int .i64 n3, .int .i64 n4, .int .i64 n5], .int .i64 n6]), (63, .func (.func 306) [] []), (64, .str s), (65, .int .i64 at_), (66, .str (s.extract at_.toNat s.size)), (67, .tuple [.agg [.int .i64 n1, .str s2, .int .i64 n3, .int .i64 n4, .int .i64 n5], .int .i64 n6]), (68, .agg [.int .i64 n1, .str s2, .int .i64 n3, .int .i64 n4, .int .i64 n5]), (69, .int .i64 n6)], [some [.sl true 5 L], some [.int .i64 c1], some [.int .i64 c2], some [.int .i64 c3], some [.int .i64 line], some [.int .i64 start], some [.int .i64 at_], some [.int .i64 n1, .str s2, .int .i64 n3, .int .i64 n4, .int .i64 n5]]⟩) := by kernel_rfl
end Go.Proofs.YtcdceiloganlnaaGreatDoor
namespace Go.Proofs.YtcdceiloganlnaaGreatDoor
open Go.RowKit
set_option maxRecDepth 1000000
def RL : List PV := [.agg [.func (.func 303) [] [], .func (.func 304) [] []], .agg [.func (.func 305) [] [], .func (.func 306) [] []]]
theorem c62 : SS.CC 253 [] [] = Ret (.sl false 2 RL) := g253_eq
noncomputable def p8_c : Code := Code.sub [false, true, true, false, false, false, true, true, true, true, true, true, false] p58a_c
noncomputable def p8_x : Code := Code.sub [false, true, true, false, false, false, true, true, true, true, true, true, false, true, false, false] p58a_c
abbrev c8P : PV := .func (.func 251) [] [.ptr 4 0, .ptr 6 0, .ptr 5 0]
abbrev H58 (L : List PV) (c1 c2 c3 line start at_ : Int) : Objs := [some [.sl true 5 L], some [.int .i64 c1], some [.int .i64 c2], some [.int .i64 c3], some [.int .i64 line], some [.int .i64 start], some [.int .i64 at_]]
noncomputable def L8 (l : Nat) (K : AX → ASt → R) (L : List PV) (c1 c2 c3 : Int) (s : ByteArray) (line start at_ : Int) (f9 : Nat) (i : Int) : R :=
 SS.LL p58a_E 7 [0, 1, 3, 4, 5, 8, 9, 47, 48, 49] 7 p8_x (blkK 4 K) ⟨[(0, .func (.yield l) [] []), (1, .cst (.str s)), (3, .ptr 4 0), (4, .ptr 5 0), (5, .ptr 6 0), (8, c8P), (9, .func (.func f9) [] []), (47, .sl false 2 RL), (48, .int .i64 (RL.length : Int)), (49, .int .i64 i)], H58 L c1 c2 c3 line start at_⟩
theorem L8_start (l : Nat) (K : AX → ASt → R) (L : List PV) (c1 c2 c3 : Int) (s : ByteArray) (line start at_ : Int) :
 exK p58a_X p8_c K ⟨[(0, .func (.yield l) [] []), (1, .cst (.str s)), (3, .ptr 4 0), (4, .ptr 5 0), (5, .ptr 6 0), (8, c8P), (9, .func (.func 252) [] [])], H58 L c1 c2 c3 line start at_⟩ = L8 l K L c1 c2 c3 s line start at_ 252 0 := by
 have : exK p58a_X p8_c K ⟨[(0, .func (.yield l) [] []), (1, .cst (.str s)), (3, .ptr 4 0), (4, .ptr 5 0), (5, .ptr 6 0), (8, c8P), (9, .func (.func 252) [] [])], H58 L c1 c2 c3 line start at_⟩ = clX SS.CC 253 [] fun r2 => vL false 2 r2 fun l1 => SS.LL p58a_E 7 [0, 1, 3, 4, 5, 8, 9, 47, 48, 49] 7 p8_x (blkK 4 K) ⟨[(0, .func (.yield l) [] []), (1, .cst (.str s)), (3, .ptr 4 0), (4, .ptr 5 0), (5, .ptr 6 0), (8, c8P), (9, .func (.func 252) [] []), (47, .sl false 2 l1), (48, .int .i64 (l1.length : Int)), (49, .int .i64 0)], H58 L c1 c2 c3 line start at_⟩ := by kernel_rfl
 rw [this, clX_of c62, vL_mk]; rfl
theorem L8_0 (l : Nat) (K : AX → ASt → R) (L : List PV) (c1 c2 c3 : Int) (s : ByteArray) (line start at_ : Int) (f9 : Nat) : L8 l K L c1 c2 c3 s line start at_ f9 0 =
 byteX s at_ fun c => clX SS.CC 303 [.int .u8 c] fun r => vB r fun b => bsel b (L8 l K L c1 c2 c3 s line start at_ 304 1) (L8 l K L c1 c2 c3 s line start at_ f9 1) := (LL_eq SS_ok (by decide) (by kernel_rfl) (by kernel_rfl)).trans (by kernel_rfl)
theorem L8_1 (l : Nat) (K : AX → ASt → R) (L : List PV) (c1 c2 c3 : Int) (s : ByteArray) (line start at_ : Int) (f9 : Nat) : L8 l K L c1 c2 c3 s line start at_ f9 1 =
 byteX s at_ fun c => clX SS.CC 305 [.int .u8 c] fun r => vB r fun b => bsel b (L8 l K L c1 c2 c3 s line start at_ 306 2) (L8 l K L c1 c2 c3 s line start at_ f9 2) := (LL_eq SS_ok (by decide) (by kernel_rfl) (by kernel_rfl)).trans (by kernel_rfl)
theorem L8_2 (l : Nat) (K : AX → ASt → R) (L : List PV) (c1 c2 c3 : Int) (s : ByteArray) (line start at_ : Int) (f9 : Nat) : L8 l K L c1 c2 c3 s line start at_ f9 2 =
 K .normal ⟨[(0, .func (.yield l) [] []), (1, .cst (.str s)), (3, .ptr 4 0), (4, .ptr 5 0), (5, .ptr 6 0), (8, c8P), (9, .func (.func f9) [] []), (47, .sl false 2 RL), (48, .int .i64 (RL.length : Int)), (49, .int .i64 2), (50, .bool false)], H58 L c1 c2 c3 line start at_⟩ := (LL_eq SS_ok (by decide) (by kernel_rfl) (by kernel_rfl)).trans (by kernel_rfl)
end Go.Proofs.YtcdceiloganlnaaGreatDoor
namespace Go.Proofs.YtcdceiloganlnaaGreatDoor
end Go.Proofs.YtcdceiloganlnaaGreatDoor
namespace Go.Proofs.YtcdceiloganlnaaGreatDoor
open Go.RowKit
set_option maxRecDepth 1000000
noncomputable def p12a_c : Code := bodyOf Tryz.f99
noncomputable def p12a_E : AE := { SS.ae 99 27 with vars := [2, 3, 4, 5, 6, 7, 13, 14] }
end Go.Proofs.YtcdceiloganlnaaGreatDoor
namespace Go.Proofs.YtcdceiloganlnaaGreatDoor
open Go.RowKit
set_option maxRecDepth 1000000
noncomputable def p12v7_c : Code := bodyOf Tryz.f99
noncomputable def p12v7_E : AE := { SS.ae 99 27 with vars := [2, 3, 4, 5, 6, 7, 13, 14] }
noncomputable def p12v7_X : XE := SS.xe SS.CC SS.LL p12v7_E 7
noncomputable def p12v7_c1 : Code := Code.sub [true, true, false, true, false, true] p12v7_c
theorem p12v7_eq (l : Nat) (K : AX → ASt → R) (e : Int) (k : Int) (t : ByteArray) (v : Int) (ln : Int) (cl : Int) (L : List PV) (c1 : Int) (c2 : Int) (c3 : Int) (line : Int) (start : Int) (at_ : Int) : exK p12v7_X p12v7_c1 K ⟨[(2, .ptr 0 0), (3, .ptr 1 0), (4, .ptr 2 0), (5, .ptr 3 0), (6, .ptr 7 0), (7, .int .i64 e), (13, .agg [.int .i64 k, .str t, .int .i64 v, .int .i64 ln, .int .i64 cl]), (14, .int .i64 e)], [some [.sl true 5 L], some [.int .i64 c1], some [.int .i64 c2], some [.int .i64 c3], some [.int .i64 line], some [.int .i64 start], some [.int .i64 at_], some [.int .i64 k, .str t, .int .i64 v, .int .i64 ln, .int .i64 cl]]⟩ =
 bsel (e != 0) (K .ret ⟨[(2, .ptr 0 0), (3, .ptr 1 0), (4, .ptr 2 0), (5, .ptr 3 0), (6, .ptr 7 0), (7, .int .i64 e), (13, .agg [.int .i64 k, .str t, .int .i64 v, .int .i64 ln, .int .i64 cl]), (14, .int .i64 e), (17, .ptr 7 3), (18, .int .i64 ln), (19, .ptr 7 4), (20, .int .i64 cl), (21, .int .i64 e)], [some [.sl true 0 []], some [.int .i64 ln], some [.int .i64 cl], some [.int .i64 e], some [.int .i64 line], some [.int .i64 start], some [.int .i64 at_], some [.int .i64 k, .str t, .int .i64 v, .int .i64 ln, .int .i64 cl]]⟩) (chk (decide (L.length + 1 ≤ LIM)) (K .normal ⟨[(2, .ptr 0 0), (3, .ptr 1 0), (4, .ptr 2 0), (5, .ptr 3 0), (6, .ptr 7 0), (7, .int .i64 e), (13, .agg [.int .i64 k, .str t, .int .i64 v, .int .i64 ln, .int .i64 cl]), (14, .int .i64 e), (22, .sl false 5 L), (23, .agg [.int .i64 k, .str t, .int .i64 v, .int .i64 ln, .int .i64 cl]), (24, .sl true 5 [.agg [.int .i64 k, .str t, .int .i64 v, .int .i64 ln, .int .i64 cl]]), (25, .sl false 5 (L ++ [.agg [.int .i64 k, .str t, .int .i64 v, .int .i64 ln, .int .i64 cl]]))], [some [.sl true 5 (L ++ [.agg [.int .i64 k, .str t, .int .i64 v, .int .i64 ln, .int .i64 cl]])], some [.int .i64 c1], some [.int .i64 c2], some [.int .i64 c3], some [.int .i64 line], some [.int .i64 start], some [.int .i64 at_], some [.int .i64 k, .str t, .int .i64 v, .int .i64 ln, .int .i64 cl]]⟩)) := (show exK p12v7_X p12v7_c1 K ⟨[(2, .ptr 0 0), (3, .ptr 1 0), (4, .ptr 2 0), (5, .ptr 3 0), (6, .ptr 7 0), (7, .int .i64 e), (13, .agg [.int .i64 k, .str t, .int .i64 v, .int .i64 ln, .int .i64 cl]), (14, .int .i64 e)], [some [.sl true 5 L], some [.int .i64 c1], some [.int .i64 c2], some [.int .i64 c3], some [.int .i64 line], some [.int .i64 start], some [.int .i64 at_], some [.int .i64 k, .str t, .int .i64 v, .int .i64 ln, .int .i64 cl]]⟩ = bsel (e != 0) (agR (agR (K .ret ⟨[(2, .ptr 0 0), (3, .ptr 1 0), (4, .ptr 2 0), (5, .ptr 3 0), (6, .ptr 7 0), (7, .int .i64 e), (13, .agg [.int .i64 k, .str t, .int .i64 v, .int .i64 ln, .int .i64 cl]), (14, .int .i64 e), (17, .ptr 7 3), (18, .int .i64 ln), (19, .ptr 7 4), (20, .int .i64 cl), (21, .int .i64 e)], [some [.sl true 0 []], some [.int .i64 ln], some [.int .i64 cl], some [.int .i64 e], some [.int .i64 line], some [.int .i64 start], some [.int .i64 at_], some [.int .i64 k, .str t, .int .i64 v, .int .i64 ln, .int .i64 cl]]⟩) (agR (K .ret ⟨[(2, .ptr 0 0), (3, .ptr 1 0), (4, .ptr 2 0), (5, .ptr 3 0), (6, .ptr 7 0), (7, .int .i64 e), (13, .agg [.int .i64 k, .str t, .int .i64 v, .int .i64 ln, .int .i64 cl]), (14, .int .i64 e), (17, .ptr 7 3), (18, .int .i64 ln), (19, .ptr 7 4), (20, .int .i64 cl), (21, .int .i64 e)], [some [.sl true 0 []], some [.int .i64 ln], some [.int .i64 cl], some [.int .i64 e], some [.int .i64 line], some [.int .i64 start], some [.int .i64 at_], some [.int .i64 k, .str t, .int .i64 v, .int .i64 ln, .int .i64 cl]]⟩) (K .ret ⟨[(2, .ptr 0 0), (3, .ptr 1 0), (4, .ptr 2 0), (5, .ptr 3 0), (6, .ptr 7 0), (7, .int .i64 e), (13, .agg [.int .i64 k, .str t, .int .i64 v, .int .i64 ln, .int .i64 cl]), (14, .int .i64 e), (17, .ptr 7 3), (18, .int .i64 ln), (19, .ptr 7 4), (20, .int .i64 cl), (21, .int .i64 e)], [some [.sl true 0 []], some [.int .i64 ln], some [.int .i64 cl], some [.int .i64 e], some [.int .i64 line], some [.int .i64 start], some [.int .i64 at_], some [.int .i64 k, .str t, .int .i64 v, .int .i64 ln, .int .i64 cl]]⟩))) (agR (agR (K .ret ⟨[(2, .ptr 0 0), (3, .ptr 1 0), (4, .ptr 2 0), (5, .ptr 3 0), (6, .ptr 7 0), (7, .int .i64 e), (13, .agg [.int .i64 k, .str t, .int .i64 v, .int .i64 ln, .int .i64 cl]), (14, .int .i64 e), (17, .ptr 7 3), (18, .int .i64 ln), (19, .ptr 7 4), (20, .int .i64 cl), (21, .int .i64 e)], [some [.sl true 0 []], some [.int .i64 ln], some [.int .i64 cl], some [.int .i64 e], some [.int .i64 line], some [.int .i64 start], some [.int .i64 at_], some [.int .i64 k, .str t, .int .i64 v, .int .i64 ln, .int .i64 cl]]⟩) (K .ret ⟨[(2, .ptr 0 0), (3, .ptr 1 0), (4, .ptr 2 0), (5, .ptr 3 0), (6, .ptr 7 0), (7, .int .i64 e), (13, .agg [.int .i64 k, .str t, .int .i64 v, .int .i64 ln, .int .i64 cl]), (14, .int .i64 e), (17, .ptr 7 3), (18, .int .i64 ln), (19, .ptr 7 4), (20, .int .i64 cl), (21, .int .i64 e)], [some [.sl true 0 []], some [.int .i64 ln], some [.int .i64 cl], some [.int .i64 e], some [.int .i64 line], some [.int .i64 start], some [.int .i64 at_], some [.int .i64 k, .str t, .int .i64 v, .int .i64 ln, .int .i64 cl]]⟩)) (agR (K .ret ⟨[(2, .ptr 0 0), (3, .ptr 1 0), (4, .ptr 2 0), (5, .ptr 3 0), (6, .ptr 7 0), (7, .int .i64 e), (13, .agg [.int .i64 k, .str t, .int .i64 v, .int .i64 ln, .int .i64 cl]), (14, .int .i64 e), (17, .ptr 7 3), (18, .int .i64 ln), (19, .ptr 7 4), (20, .int .i64 cl), (21, .int .i64 e)], [some [.sl true 0 []], some [.int .i64 ln], some [.int .i64 cl], some [.int .i64 e], some [.int .i64 line], some [.int .i64 start], some [.int .i64 at_], some [.int .i64 k, .str t, .int .i64 v, .int .i64 ln, .int .i64 cl]]⟩) (K .ret ⟨[(2, .ptr 0 0), (3, .ptr 1 0), (4, .ptr 2 0), (5, .ptr 3 0), (6, .ptr 7 0), (7, .int .i64 e), (13, .agg [.int .i64 k, .str t, .int .i64 v, .int .i64 ln, .int .i64 cl]), (14, .int .i64 e), (17, .ptr 7 3), (18, .int .i64 ln), (19, .ptr 7 4), (20, .int .i64 cl), (21, .int .i64 e)], [some [.sl true 0 []], some [.int .i64 ln], some [.int .i64 cl], some [.int .i64 e], some [.int .i64 line], some [.int .i64 start], some [.int .i64 at_], some [.int .i64 k, .str t, .int .i64 v, .int .i64 ln, .int .i64 cl]]⟩)))) (chk (decide (L.length + 1 ≤ LIM)) (K .normal ⟨[(2, .ptr 0 0), (3, .ptr 1 0), (4, .ptr 2 0), (5, .ptr 3 0), (6, .ptr 7 0), (7, .int .i64 e), (13, .agg [.int .i64 k, .str t, .int .i64 v, .int .i64 ln, .int .i64 cl]), (14, .int .i64 e), (22, .sl false 5 L), (23, .agg [.int .i64 k, .str t, .int .i64 v, .int .i64 ln, .int .i64 cl]), (24, .sl true 5 [.agg [.int .i64 k, .str t, .int .i64 v, .int .i64 ln, .int .i64 cl]]), (25, .sl false 5 (L ++ [.agg [.int .i64 k, .str t, .int .i64 v, .int .i64 ln, .int .i64 cl]]))], [some [.sl true 5 (L ++ [.agg [.int .i64 k, .str t, .int .i64 v, .int .i64 ln, .int .i64 cl]])], some [.int .i64 c1], some [.int .i64 c2], some [.int .i64 c3], some [.int .i64 line], some [.int .i64 start], some [.int .i64 at_], some [.int .i64 k, .str t, .int .i64 v, .int .i64 ln, .int .i64 cl]]⟩)) from by kernel_rfl).trans (by simp only [agR_self])
noncomputable def p12v8_c : Code := bodyOf Tryz.f99
noncomputable def p12v8_E : AE := { SS.ae 99 27 with vars := [2, 3, 4, 5, 6, 7, 13, 14] }
noncomputable def p12v8_X : XE := SS.xe SS.CC SS.LL p12v8_E 8
noncomputable def p12v8_c1 : Code := Code.sub [true, true, false, true, false, true] p12v8_c
theorem p12v8_eq (l : Nat) (K : AX → ASt → R) (e : Int) (k : Int) (t : ByteArray) (v : Int) (ln : Int) (cl : Int) (L : List PV) (c1 : Int) (c2 : Int) (c3 : Int) (line : Int) (start : Int) (at_ : Int) (x1 : Int) (x2 : ByteArray) (x3 : Int) (x4 : Int) (x5 : Int) : exK p12v8_X p12v8_c1 K ⟨[(2, .ptr 0 0), (3, .ptr 1 0), (4, .ptr 2 0), (5, .ptr 3 0), (6, .ptr 8 0), (7, .int .i64 e), (13, .agg [.int .i64 k, .str t, .int .i64 v, .int .i64 ln, .int .i64 cl]), (14, .int .i64 e)], [some [.sl true 5 L], some [.int .i64 c1], some [.int .i64 c2], some [.int .i64 c3], some [.int .i64 line], some [.int .i64 start], some [.int .i64 at_], some [.int .i64 x1, .str x2, .int .i64 x3, .int .i64 x4, .int .i64 x5], some [.int .i64 k, .str t, .int .i64 v, .int .i64 ln, .int .i64 cl]]⟩ =
 bsel (e != 0) (K .ret ⟨[(2, .ptr 0 0), (3, .ptr 1 0), (4, .ptr 2 0), (5, .ptr 3 0), (6, .ptr 8 0), (7, .int .i64 e), (13, .agg [.int .i64 k, .str t, .int .i64 v, .int .i64 ln, .int .i64 cl]), (14, .int .i64 e), (17, .ptr 8 3), (18, .int .i64 ln), (19, .ptr 8 4), (20, .int .i64 cl), (21, .int .i64 e)], [some [.sl true 0 []], some [.int .i64 ln], some [.int .i64 cl], some [.int .i64 e], some [.int .i64 line], some [.int .i64 start], some [.int .i64 at_], some [.int .i64 x1, .str x2, .int .i64 x3, .int .i64 x4, .int .i64 x5], some [.int .i64 k, .str t, .int .i64 v, .int .i64 ln, .int .i64 cl]]⟩) (chk (decide (L.length + 1 ≤ LIM)) (K .normal ⟨[(2, .ptr 0 0), (3, .ptr 1 0), (4, .ptr 2 0), (5, .ptr 3 0), (6, .ptr 8 0), (7, .int .i64 e), (13, .agg [.int .i64 k, .str t, .int .i64 v, .int .i64 ln, .int .i64 cl]), (14, .int .i64 e), (22, .sl false 5 L), (23, .agg [.int .i64 k, .str t, .int .i64 v, .int .i64 ln, .int .i64 cl]), (24, .sl true 5 [.agg [.int .i64 k, .str t, .int .i64 v, .int .i64 ln, .int .i64 cl]]), (25, .sl false 5 (L ++ [.agg [.int .i64 k, .str t, .int .i64 v, .int .i64 ln, .int .i64 cl]]))], [some [.sl true 5 (L ++ [.agg [.int .i64 k, .str t, .int .i64 v, .int .i64 ln, .int .i64 cl]])], some [.int .i64 c1], some [.int .i64 c2], some [.int .i64 c3], some [.int .i64 line], some [.int .i64 start], some [.int .i64 at_], some [.int .i64 x1, .str x2, .int .i64 x3, .int .i64 x4, .int .i64 x5], some [.int .i64 k, .str t, .int .i64 v, .int .i64 ln, .int .i64 cl]]⟩)) := (show exK p12v8_X p12v8_c1 K ⟨[(2, .ptr 0 0), (3, .ptr 1 0), (4, .ptr 2 0), (5, .ptr 3 0), (6, .ptr 8 0), (7, .int .i64 e), (13, .agg [.int .i64 k, .str t, .int .i64 v, .int .i64 ln, .int .i64 cl]), (14, .int .i64 e)], [some [.sl true 5 L], some [.int .i64 c1], some [.int .i64 c2], some [.int .i64 c3], some [.int .i64 line], some [.int .i64 start], some [.int .i64 at_], some [.int .i64 x1, .str x2, .int .i64 x3, .int .i64 x4, .int .i64 x5], some [.int .i64 k, .str t, .int .i64 v, .int .i64 ln, .int .i64 cl]]⟩ = bsel (e != 0) (agR (agR (K .ret ⟨[(2, .ptr 0 0), (3, .ptr 1 0), (4, .ptr 2 0), (5, .ptr 3 0), (6, .ptr 8 0), (7, .int .i64 e), (13, .agg [.int .i64 k, .str t, .int .i64 v, .int .i64 ln, .int .i64 cl]), (14, .int .i64 e), (17, .ptr 8 3), (18, .int .i64 ln), (19, .ptr 8 4), (20, .int .i64 cl), (21, .int .i64 e)], [some [.sl true 0 []], some [.int .i64 ln], some [.int .i64 cl], some [.int .i64 e], some [.int .i64 line], some [.int .i64 start], some [.int .i64 at_], some [.int .i64 x1, .str x2, .int .i64 x3, .int .i64 x4, .int .i64 x5], some [.int .i64 k, .str t, .int .i64 v, .int .i64 ln, .int .i64 cl]]⟩) (agR (K .ret ⟨[(2, .ptr 0 0), (3, .ptr 1 0), (4, .ptr 2 0), (5, .ptr 3 0), (6, .ptr 8 0), (7, .int .i64 e), (13, .agg [.int .i64 k, .str t, .int .i64 v, .int .i64 ln, .int .i64 cl]), (14, .int .i64 e), (17, .ptr 8 3), (18, .int .i64 ln), (19, .ptr 8 4), (20, .int .i64 cl), (21, .int .i64 e)], [some [.sl true 0 []], some [.int .i64 ln], some [.int .i64 cl], some [.int .i64 e], some [.int .i64 line], some [.int .i64 start], some [.int .i64 at_], some [.int .i64 x1, .str x2, .int .i64 x3, .int .i64 x4, .int .i64 x5], some [.int .i64 k, .str t, .int .i64 v, .int .i64 ln, .int .i64 cl]]⟩) (K .ret ⟨[(2, .ptr 0 0), (3, .ptr 1 0), (4, .ptr 2 0), (5, .ptr 3 0), (6, .ptr 8 0), (7, .int .i64 e), (13, .agg [.int .i64 k, .str t, .int .i64 v, .int .i64 ln, .int .i64 cl]), (14, .int .i64 e), (17, .ptr 8 3), (18, .int .i64 ln), (19, .ptr 8 4), (20, .int .i64 cl), (21, .int .i64 e)], [some [.sl true 0 []], some [.int .i64 ln], some [.int .i64 cl], some [.int .i64 e], some [.int .i64 line], some [.int .i64 start], some [.int .i64 at_], some [.int .i64 x1, .str x2, .int .i64 x3, .int .i64 x4, .int .i64 x5], some [.int .i64 k, .str t, .int .i64 v, .int .i64 ln, .int .i64 cl]]⟩))) (agR (agR (K .ret ⟨[(2, .ptr 0 0), (3, .ptr 1 0), (4, .ptr 2 0), (5, .ptr 3 0), (6, .ptr 8 0), (7, .int .i64 e), (13, .agg [.int .i64 k, .str t, .int .i64 v, .int .i64 ln, .int .i64 cl]), (14, .int .i64 e), (17, .ptr 8 3), (18, .int .i64 ln), (19, .ptr 8 4), (20, .int .i64 cl), (21, .int .i64 e)], [some [.sl true 0 []], some [.int .i64 ln], some [.int .i64 cl], some [.int .i64 e], some [.int .i64 line], some [.int .i64 start], some [.int .i64 at_], some [.int .i64 x1, .str x2, .int .i64 x3, .int .i64 x4, .int .i64 x5], some [.int .i64 k, .str t, .int .i64 v, .int .i64 ln, .int .i64 cl]]⟩) (K .ret ⟨[(2, .ptr 0 0), (3, .ptr 1 0), (4, .ptr 2 0), (5, .ptr 3 0), (6, .ptr 8 0), (7, .int .i64 e), (13, .agg [.int .i64 k, .str t, .int .i64 v, .int .i64 ln, .int .i64 cl]), (14, .int .i64 e), (17, .ptr 8 3), (18, .int .i64 ln), (19, .ptr 8 4), (20, .int .i64 cl), (21, .int .i64 e)], [some [.sl true 0 []], some [.int .i64 ln], some [.int .i64 cl], some [.int .i64 e], some [.int .i64 line], some [.int .i64 start], some [.int .i64 at_], some [.int .i64 x1, .str x2, .int .i64 x3, .int .i64 x4, .int .i64 x5], some [.int .i64 k, .str t, .int .i64 v, .int .i64 ln, .int .i64 cl]]⟩)) (agR (K .ret ⟨[(2, .ptr 0 0), (3, .ptr 1 0), (4, .ptr 2 0), (5, .ptr 3 0), (6, .ptr 8 0), (7, .int .i64 e), (13, .agg [.int .i64 k, .str t, .int .i64 v, .int .i64 ln, .int .i64 cl]), (14, .int .i64 e), (17, .ptr 8 3), (18, .int .i64 ln), (19, .ptr 8 4), (20, .int .i64 cl), (21, .int .i64 e)], [some [.sl true 0 []], some [.int .i64 ln], some [.int .i64 cl], some [.int .i64 e], some [.int .i64 line], some [.int .i64 start], some [.int .i64 at_], some [.int .i64 x1, .str x2, .int .i64 x3, .int .i64 x4, .int .i64 x5], some [.int .i64 k, .str t, .int .i64 v, .int .i64 ln, .int .i64 cl]]⟩) (K .ret ⟨[(2, .ptr 0 0), (3, .ptr 1 0), (4, .ptr 2 0), (5, .ptr 3 0), (6, .ptr 8 0), (7, .int .i64 e), (13, .agg [.int .i64 k, .str t, .int .i64 v, .int .i64 ln, .int .i64 cl]), (14, .int .i64 e), (17, .ptr 8 3), (18, .int .i64 ln), (19, .ptr 8 4), (20, .int .i64 cl), (21, .int .i64 e)], [some [.sl true 0 []], some [.int .i64 ln], some [.int .i64 cl], some [.int .i64 e], some [.int .i64 line], some [.int .i64 start], some [.int .i64 at_], some [.int .i64 x1, .str x2, .int .i64 x3, .int .i64 x4, .int .i64 x5], some [.int .i64 k, .str t, .int .i64 v, .int .i64 ln, .int .i64 cl]]⟩)))) (chk (decide (L.length + 1 ≤ LIM)) (K .normal ⟨[(2, .ptr 0 0), (3, .ptr 1 0), (4, .ptr 2 0), (5, .ptr 3 0), (6, .ptr 8 0), (7, .int .i64 e), (13, .agg [.int .i64 k, .str t, .int .i64 v, .int .i64 ln, .int .i64 cl]), (14, .int .i64 e), (22, .sl false 5 L), (23, .agg [.int .i64 k, .str t, .int .i64 v, .int .i64 ln, .int .i64 cl]), (24, .sl true 5 [.agg [.int .i64 k, .str t, .int .i64 v, .int .i64 ln, .int .i64 cl]]), (25, .sl false 5 (L ++ [.agg [.int .i64 k, .str t, .int .i64 v, .int .i64 ln, .int .i64 cl]]))], [some [.sl true 5 (L ++ [.agg [.int .i64 k, .str t, .int .i64 v, .int .i64 ln, .int .i64 cl]])], some [.int .i64 c1], some [.int .i64 c2], some [.int .i64 c3], some [.int .i64 line], some [.int .i64 start], some [.int .i64 at_], some [.int .i64 x1, .str x2, .int .i64 x3, .int .i64 x4, .int .i64 x5], some [.int .i64 k, .str t, .int .i64 v, .int .i64 ln, .int .i64 cl]]⟩)) from by kernel_rfl).trans (by simp only [agR_self])
end Go.Proofs.YtcdceiloganlnaaGreatDoor
namespace Go.Proofs.YtcdceiloganlnaaGreatDoor
open Go.RowKit
set_option maxRecDepth 1000000
end Go.Proofs.YtcdceiloganlnaaGreatDoor
namespace Go.Proofs.YtcdceiloganlnaaGreatDoor
open Go.RowKit
set_option maxRecDepth 1000000
noncomputable def sc_asg : Code := Code.sub [true, true, false, true, false, false] p12a_c
noncomputable def sc_body : Code := Code.sub [true, true, false, true, false, true] p12a_c
theorem sc_noA : noDfC sc_asg = true := by kernel_rfl
theorem sc_noB : noDfC sc_body = true := by kernel_rfl
theorem mixed16 : Tryz.prog.follows .mixedOrders = true := by kernel_rfl
theorem sc_asg7 (K : AX → ASt → R) (L : List PV) (c1 c2 c3 line start at_ : Int) (k : Int) (t : ByteArray) (v ln cl e : Int) : exK (SS.xe SS.CC SS.LL p12a_E 7) sc_asg K ⟨[(2, .ptr 0 0), (3, .ptr 1 0), (4, .ptr 2 0), (5, .ptr 3 0), (13, .agg [.int .i64 k, .str t, .int .i64 v, .int .i64 ln, .int .i64 cl]), (14, .int .i64 e)], [some [.sl true 5 L], some [.int .i64 c1], some [.int .i64 c2], some [.int .i64 c3], some [.int .i64 line], some [.int .i64 start], some [.int .i64 at_]]⟩ = K .normal ⟨[(2, .ptr 0 0), (3, .ptr 1 0), (4, .ptr 2 0), (5, .ptr 3 0), (6, .ptr 7 0), (7, .int .i64 e), (13, .agg [.int .i64 k, .str t, .int .i64 v, .int .i64 ln, .int .i64 cl]), (14, .int .i64 e)], [some [.sl true 5 L], some [.int .i64 c1], some [.int .i64 c2], some [.int .i64 c3], some [.int .i64 line], some [.int .i64 start], some [.int .i64 at_], some [.int .i64 k, .str t, .int .i64 v, .int .i64 ln, .int .i64 cl]]⟩ := by kernel_rfl
noncomputable def sc_e7 (L : List PV) (c1 c2 c3 line start at_ : Int) (k : Int) (t : ByteArray) (v ln cl e : Int) : ASt := ⟨[(2, .ptr 0 0), (3, .ptr 1 0), (4, .ptr 2 0), (5, .ptr 3 0), (6, .ptr 7 0), (7, .int .i64 e), (13, .agg [.int .i64 k, .str t, .int .i64 v, .int .i64 ln, .int .i64 cl]), (14, .int .i64 e), (17, .ptr 7 3), (18, .int .i64 ln), (19, .ptr 7 4), (20, .int .i64 cl), (21, .int .i64 e)], [some [.sl true 0 []], some [.int .i64 ln], some [.int .i64 cl], some [.int .i64 e], some [.int .i64 line], some [.int .i64 start], some [.int .i64 at_], some [.int .i64 k, .str t, .int .i64 v, .int .i64 ln, .int .i64 cl]]⟩
noncomputable def sc_n7 (L : List PV) (c1 c2 c3 line start at_ : Int) (k : Int) (t : ByteArray) (v ln cl e : Int) : ASt := ⟨[(2, .ptr 0 0), (3, .ptr 1 0), (4, .ptr 2 0), (5, .ptr 3 0), (6, .ptr 7 0), (7, .int .i64 e), (13, .agg [.int .i64 k, .str t, .int .i64 v, .int .i64 ln, .int .i64 cl]), (14, .int .i64 e), (22, .sl false 5 L), (23, .agg [.int .i64 k, .str t, .int .i64 v, .int .i64 ln, .int .i64 cl]), (24, .sl true 5 [.agg [.int .i64 k, .str t, .int .i64 v, .int .i64 ln, .int .i64 cl]]), (25, .sl false 5 (L ++ [.agg [.int .i64 k, .str t, .int .i64 v, .int .i64 ln, .int .i64 cl]]))], [some [.sl true 5 (L ++ [.agg [.int .i64 k, .str t, .int .i64 v, .int .i64 ln, .int .i64 cl]])], some [.int .i64 c1], some [.int .i64 c2], some [.int .i64 c3], some [.int .i64 line], some [.int .i64 start], some [.int .i64 at_], some [.int .i64 k, .str t, .int .i64 v, .int .i64 ln, .int .i64 cl]]⟩
theorem sc_body7 (K : AX → ASt → R) (L : List PV) (c1 c2 c3 line start at_ : Int) (k : Int) (t : ByteArray) (v ln cl e : Int) : exK (SS.xe SS.CC SS.LL p12a_E 7) sc_body K ⟨[(2, .ptr 0 0), (3, .ptr 1 0), (4, .ptr 2 0), (5, .ptr 3 0), (6, .ptr 7 0), (7, .int .i64 e), (13, .agg [.int .i64 k, .str t, .int .i64 v, .int .i64 ln, .int .i64 cl]), (14, .int .i64 e)], [some [.sl true 5 L], some [.int .i64 c1], some [.int .i64 c2], some [.int .i64 c3], some [.int .i64 line], some [.int .i64 start], some [.int .i64 at_], some [.int .i64 k, .str t, .int .i64 v, .int .i64 ln, .int .i64 cl]]⟩ = bsel (e != 0) (K .ret (sc_e7 L c1 c2 c3 line start at_ k t v ln cl e)) (chk (decide (L.length + 1 ≤ LIM)) (K .normal (sc_n7 L c1 c2 c3 line start at_ k t v ln cl e))) :=
 (show exK (SS.xe SS.CC SS.LL p12a_E 7) sc_body K ⟨[(2, .ptr 0 0), (3, .ptr 1 0), (4, .ptr 2 0), (5, .ptr 3 0), (6, .ptr 7 0), (7, .int .i64 e), (13, .agg [.int .i64 k, .str t, .int .i64 v, .int .i64 ln, .int .i64 cl]), (14, .int .i64 e)], [some [.sl true 5 L], some [.int .i64 c1], some [.int .i64 c2], some [.int .i64 c3], some [.int .i64 line], some [.int .i64 start], some [.int .i64 at_], some [.int .i64 k, .str t, .int .i64 v, .int .i64 ln, .int .i64 cl]]⟩ = exK p12v7_X p12v7_c1 K ⟨[(2, .ptr 0 0), (3, .ptr 1 0), (4, .ptr 2 0), (5, .ptr 3 0), (6, .ptr 7 0), (7, .int .i64 e), (13, .agg [.int .i64 k, .str t, .int .i64 v, .int .i64 ln, .int .i64 cl]), (14, .int .i64 e)], [some [.sl true 5 L], some [.int .i64 c1], some [.int .i64 c2], some [.int .i64 c3], some [.int .i64 line], some [.int .i64 start], some [.int .i64 at_], some [.int .i64 k, .str t, .int .i64 v, .int .i64 ln, .int .i64 cl]]⟩ from by kernel_rfl).trans (p12v7_eq 0 K e k t v ln cl L c1 c2 c3 line start at_)
theorem sc_round7 (L : List PV) (c1 c2 c3 line start at_ : Int) (k : Int) (t : ByteArray) (v ln cl e : Int) (hL : L.length + 1 ≤ LIM) : awp p12a_E 7 sc_asg (contA (awp p12a_E 7 sc_body fun ax σ' => if e = 0 then ax = .normal ∧ σ' = sc_n7 L c1 c2 c3 line start at_ k t v ln cl e else ax = .ret ∧ σ' = sc_e7 L c1 c2 c3 line start at_ k t v ln cl e) fun _ _ => False) ⟨[(2, .ptr 0 0), (3, .ptr 1 0), (4, .ptr 2 0), (5, .ptr 3 0), (13, .agg [.int .i64 k, .str t, .int .i64 v, .int .i64 ln, .int .i64 cl]), (14, .int .i64 e)], [some [.sl true 5 L], some [.int .i64 c1], some [.int .i64 c2], some [.int .i64 c3], some [.int .i64 line], some [.int .i64 start], some [.int .i64 at_]]⟩ := by
 have hC : calOK (SS.xe SS.CC SS.LL p12a_E 7).E.P (SS.xe SS.CC SS.LL p12a_E 7).C := CC_sound mixed16 SS_ok C16_ok
 have hl : lopOK (SS.xe SS.CC SS.LL p12a_E 7) := LL_sound mixed16 SS_ok C16_ok rfl
 refine awp_mono sc_asg (fun ax σ' h => ?_) (piece_awp (X := (SS.xe SS.CC SS.LL p12a_E 7)) SS_ok.V SS_ok.W hC hl fun K => sc_asg7 K L c1 c2 c3 line start at_ k t v ln cl e)
 obtain ⟨rfl, rfl⟩ := h
 show awp p12a_E 7 sc_body _ _
 by_cases he : e = 0
 ·simp only [if_pos he]
  refine piece_awp (X := (SS.xe SS.CC SS.LL p12a_E 7)) SS_ok.V SS_ok.W hC hl fun K => ?_
  rw [sc_body7, show (e != 0) = false by simp [he], bsel_false, chk_of (by simpa using hL)]
 ·simp only [if_neg he]
  refine piece_awp (X := (SS.xe SS.CC SS.LL p12a_E 7)) SS_ok.V SS_ok.W hC hl fun K => ?_
  rw [sc_body7, show (e != 0) = true by simp [he], bsel_true]
theorem sc_asg8 (K : AX → ASt → R) (L : List PV) (c1 c2 c3 line start at_ : Int) (x1 : Int) (x2 : ByteArray) (x3 x4 x5 : Int) (k : Int) (t : ByteArray) (v ln cl e : Int) : exK (SS.xe SS.CC SS.LL p12a_E 8) sc_asg K ⟨[(2, .ptr 0 0), (3, .ptr 1 0), (4, .ptr 2 0), (5, .ptr 3 0), (13, .agg [.int .i64 k, .str t, .int .i64 v, .int .i64 ln, .int .i64 cl]), (14, .int .i64 e)], [some [.sl true 5 L], some [.int .i64 c1], some [.int .i64 c2], some [.int .i64 c3], some [.int .i64 line], some [.int .i64 start], some [.int .i64 at_], some [.int .i64 x1, .str x2, .int .i64 x3, .int .i64 x4, .int .i64 x5]]⟩ = K .normal ⟨[(2, .ptr 0 0), (3, .ptr 1 0), (4, .ptr 2 0), (5, .ptr 3 0), (6, .ptr 8 0), (7, .int .i64 e), (13, .agg [.int .i64 k, .str t, .int .i64 v, .int .i64 ln, .int .i64 cl]), (14, .int .i64 e)], [some [.sl true 5 L], some [.int .i64 c1], some [.int .i64 c2], some [.int .i64 c3], some [.int .i64 line], some [.int .i64 start], some [.int .i64 at_], some [.int .i64 x1, .str x2, .int .i64 x3, .int .i64 x4, .int .i64 x5], some [.int .i64 k, .str t, .int .i64 v, .int .i64 ln, .int .i64 cl]]⟩ := by kernel_rfl
noncomputable def sc_e8 (L : List PV) (c1 c2 c3 line start at_ : Int) (x1 : Int) (x2 : ByteArray) (x3 x4 x5 : Int) (k : Int) (t : ByteArray) (v ln cl e : Int) : ASt := ⟨[(2, .ptr 0 0), (3, .ptr 1 0), (4, .ptr 2 0), (5, .ptr 3 0), (6, .ptr 8 0), (7, .int .i64 e), (13, .agg [.int .i64 k, .str t, .int .i64 v, .int .i64 ln, .int .i64 cl]), (14, .int .i64 e), (17, .ptr 8 3), (18, .int .i64 ln), (19, .ptr 8 4), (20, .int .i64 cl), (21, .int .i64 e)], [some [.sl true 0 []], some [.int .i64 ln], some [.int .i64 cl], some [.int .i64 e], some [.int .i64 line], some [.int .i64 start], some [.int .i64 at_], some [.int .i64 x1, .str x2, .int .i64 x3, .int .i64 x4, .int .i64 x5], some [.int .i64 k, .str t, .int .i64 v, .int .i64 ln, .int .i64 cl]]⟩
noncomputable def sc_n8 (L : List PV) (c1 c2 c3 line start at_ : Int) (x1 : Int) (x2 : ByteArray) (x3 x4 x5 : Int) (k : Int) (t : ByteArray) (v ln cl e : Int) : ASt := ⟨[(2, .ptr 0 0), (3, .ptr 1 0), (4, .ptr 2 0), (5, .ptr 3 0), (6, .ptr 8 0), (7, .int .i64 e), (13, .agg [.int .i64 k, .str t, .int .i64 v, .int .i64 ln, .int .i64 cl]), (14, .int .i64 e), (22, .sl false 5 L), (23, .agg [.int .i64 k, .str t, .int .i64 v, .int .i64 ln, .int .i64 cl]), (24, .sl true 5 [.agg [.int .i64 k, .str t, .int .i64 v, .int .i64 ln, .int .i64 cl]]), (25, .sl false 5 (L ++ [.agg [.int .i64 k, .str t, .int .i64 v, .int .i64 ln, .int .i64 cl]]))], [some [.sl true 5 (L ++ [.agg [.int .i64 k, .str t, .int .i64 v, .int .i64 ln, .int .i64 cl]])], some [.int .i64 c1], some [.int .i64 c2], some [.int .i64 c3], some [.int .i64 line], some [.int .i64 start], some [.int .i64 at_], some [.int .i64 x1, .str x2, .int .i64 x3, .int .i64 x4, .int .i64 x5], some [.int .i64 k, .str t, .int .i64 v, .int .i64 ln, .int .i64 cl]]⟩
theorem sc_body8 (K : AX → ASt → R) (L : List PV) (c1 c2 c3 line start at_ : Int) (x1 : Int) (x2 : ByteArray) (x3 x4 x5 : Int) (k : Int) (t : ByteArray) (v ln cl e : Int) : exK (SS.xe SS.CC SS.LL p12a_E 8) sc_body K ⟨[(2, .ptr 0 0), (3, .ptr 1 0), (4, .ptr 2 0), (5, .ptr 3 0), (6, .ptr 8 0), (7, .int .i64 e), (13, .agg [.int .i64 k, .str t, .int .i64 v, .int .i64 ln, .int .i64 cl]), (14, .int .i64 e)], [some [.sl true 5 L], some [.int .i64 c1], some [.int .i64 c2], some [.int .i64 c3], some [.int .i64 line], some [.int .i64 start], some [.int .i64 at_], some [.int .i64 x1, .str x2, .int .i64 x3, .int .i64 x4, .int .i64 x5], some [.int .i64 k, .str t, .int .i64 v, .int .i64 ln, .int .i64 cl]]⟩ = bsel (e != 0) (K .ret (sc_e8 L c1 c2 c3 line start at_ x1 x2 x3 x4 x5 k t v ln cl e)) (chk (decide (L.length + 1 ≤ LIM)) (K .normal (sc_n8 L c1 c2 c3 line start at_ x1 x2 x3 x4 x5 k t v ln cl e))) :=
 (show exK (SS.xe SS.CC SS.LL p12a_E 8) sc_body K ⟨[(2, .ptr 0 0), (3, .ptr 1 0), (4, .ptr 2 0), (5, .ptr 3 0), (6, .ptr 8 0), (7, .int .i64 e), (13, .agg [.int .i64 k, .str t, .int .i64 v, .int .i64 ln, .int .i64 cl]), (14, .int .i64 e)], [some [.sl true 5 L], some [.int .i64 c1], some [.int .i64 c2], some [.int .i64 c3], some [.int .i64 line], some [.int .i64 start], some [.int .i64 at_], some [.int .i64 x1, .str x2, .int .i64 x3, .int .i64 x4, .int .i64 x5], some [.int .i64 k, .str t, .int .i64 v, .int .i64 ln, .int .i64 cl]]⟩ = exK p12v8_X p12v8_c1 K ⟨[(2, .ptr 0 0), (3, .ptr 1 0), (4, .ptr 2 0), (5, .ptr 3 0), (6, .ptr 8 0), (7, .int .i64 e), (13, .agg [.int .i64 k, .str t, .int .i64 v, .int .i64 ln, .int .i64 cl]), (14, .int .i64 e)], [some [.sl true 5 L], some [.int .i64 c1], some [.int .i64 c2], some [.int .i64 c3], some [.int .i64 line], some [.int .i64 start], some [.int .i64 at_], some [.int .i64 x1, .str x2, .int .i64 x3, .int .i64 x4, .int .i64 x5], some [.int .i64 k, .str t, .int .i64 v, .int .i64 ln, .int .i64 cl]]⟩ from by kernel_rfl).trans (p12v8_eq 0 K e k t v ln cl L c1 c2 c3 line start at_ x1 x2 x3 x4 x5)
theorem sc_round8 (L : List PV) (c1 c2 c3 line start at_ : Int) (x1 : Int) (x2 : ByteArray) (x3 x4 x5 : Int) (k : Int) (t : ByteArray) (v ln cl e : Int) (hL : L.length + 1 ≤ LIM) : awp p12a_E 8 sc_asg (contA (awp p12a_E 8 sc_body fun ax σ' => if e = 0 then ax = .normal ∧ σ' = sc_n8 L c1 c2 c3 line start at_ x1 x2 x3 x4 x5 k t v ln cl e else ax = .ret ∧ σ' = sc_e8 L c1 c2 c3 line start at_ x1 x2 x3 x4 x5 k t v ln cl e) fun _ _ => False) ⟨[(2, .ptr 0 0), (3, .ptr 1 0), (4, .ptr 2 0), (5, .ptr 3 0), (13, .agg [.int .i64 k, .str t, .int .i64 v, .int .i64 ln, .int .i64 cl]), (14, .int .i64 e)], [some [.sl true 5 L], some [.int .i64 c1], some [.int .i64 c2], some [.int .i64 c3], some [.int .i64 line], some [.int .i64 start], some [.int .i64 at_], some [.int .i64 x1, .str x2, .int .i64 x3, .int .i64 x4, .int .i64 x5]]⟩ := by
 have hC : calOK (SS.xe SS.CC SS.LL p12a_E 8).E.P (SS.xe SS.CC SS.LL p12a_E 8).C := CC_sound mixed16 SS_ok C16_ok
 have hl : lopOK (SS.xe SS.CC SS.LL p12a_E 8) := LL_sound mixed16 SS_ok C16_ok rfl
 refine awp_mono sc_asg (fun ax σ' h => ?_) (piece_awp (X := (SS.xe SS.CC SS.LL p12a_E 8)) SS_ok.V SS_ok.W hC hl fun K => sc_asg8 K L c1 c2 c3 line start at_ x1 x2 x3 x4 x5 k t v ln cl e)
 obtain ⟨rfl, rfl⟩ := h
 show awp p12a_E 8 sc_body _ _
 by_cases he : e = 0
 ·simp only [if_pos he]
  refine piece_awp (X := (SS.xe SS.CC SS.LL p12a_E 8)) SS_ok.V SS_ok.W hC hl fun K => ?_
  rw [sc_body8, show (e != 0) = false by simp [he], bsel_false, chk_of (by simpa using hL)]
 ·simp only [if_neg he]
  refine piece_awp (X := (SS.xe SS.CC SS.LL p12a_E 8)) SS_ok.V SS_ok.W hC hl fun K => ?_
  rw [sc_body8, show (e != 0) = true by simp [he], bsel_true]
end Go.Proofs.YtcdceiloganlnaaGreatDoor
namespace Go.Proofs.YtcdceiloganlnaaGreatDoor
open Go.RowKit
set_option maxRecDepth 1000000
noncomputable def p58j_c : Code := bodyOf Tryz.f249
noncomputable def p58j_E : AE := SS.ae 249 86
noncomputable def p58j_X : XE := SS.xe SS.CC SS.LL p58j_E 8
noncomputable def p58j_c1 : Code := Code.sub [false, true, true, false, false, false, true, true, true, true, true, true, true, true, false, false] p58j_c
theorem p58j_eq (l : Nat) (K : AX → ASt → R) (s : ByteArray) (e : Int) (L : List PV) (c1 : Int) (c2 : Int) (c3 : Int) (line : Int) (start : Int) (at_ : Int) (k : Int) (t : ByteArray) (v : Int) (a : Int) (b : Int) : exOps p58j_X false (opsOf p58j_c1) (((opsOf p58j_c1).toList.drop 0).take 5) (K .normal) ⟨[(0, .func (.yield l) [] []), (1, .cst (.str s)), (3, .ptr 4 0), (4, .ptr 5 0), (5, .ptr 6 0), (8, .func (.func 251) [] [.ptr 4 0, .ptr 6 0, .ptr 5 0]), (12, .ptr 7 0), (13, .int .i64 e)], [some [.sl true 5 L], some [.int .i64 c1], some [.int .i64 c2], some [.int .i64 c3], some [.int .i64 line], some [.int .i64 start], some [.int .i64 at_], some [.int .i64 k, .str t, .int .i64 v, .int .i64 a, .int .i64 b]]⟩ =
 clH SS.CC 251 [.agg [.int .i64 k, .str t, .int .i64 v, .int .i64 a, .int .i64 b], .ptr 0 0, .ptr 1 0, .ptr 2 0] [some [.int .i64 line], some [.int .i64 at_], some [.int .i64 start]] fun r9 h10 => h251_0 r9 h10 fun n1 s2 n3 n4 n5 n6 n7 n8 => K .normal ⟨[(0, .func (.yield l) [] []), (1, .cst (.str s)), (3, .ptr 4 0), (4, .ptr 5 0), (5, .ptr 6 0), (8, .func (.func 251) [] [.ptr 4 0, .ptr 6 0, .ptr 5 0]), (12, .ptr 7 0), (13, .int .i64 e), (70, .func (.yield l) [] []), (71, .func (.func 251) [] [.ptr 4 0, .ptr 6 0, .ptr 5 0]), (72, .agg [.int .i64 k, .str t, .int .i64 v, .int .i64 a, .int .i64 b]), (73, .agg [.int .i64 n1, .str s2, .int .i64 n3, .int .i64 n4, .int .i64 n5]), (74, .int .i64 e)], [some [.sl true 5 L], some [.int .i64 c1], some [.int .i64 c2], some [.int .i64 c3], some [.int .i64 n6], some [.int .i64 n8], some [.int .i64 n7], some [.int .i64 k, .str t, .int .i64 v, .int .i64 a, .int .i64 b]]⟩ := by kernel_rfl
noncomputable def p58m_c : Code := bodyOf Tryz.f249
noncomputable def p58m_E : AE := SS.ae 249 86
noncomputable def p58m_X : XE := SS.xe SS.CC SS.LL p58m_E 8
noncomputable def p58m_c1 : Code := Code.sub [false, true, true, false, false, false, true, true, true, true, true, true, true, true, true, false] p58m_c
theorem p58m_eq (l : Nat) (K : AX → ASt → R) (s : ByteArray) (L : List PV) (c1 : Int) (c2 : Int) (c3 : Int) (line : Int) (start : Int) (at_ : Int) (k : Int) (t : ByteArray) (v : Int) (a : Int) (b : Int) : exK p58m_X p58m_c1 K ⟨[(0, .func (.yield l) [] []), (1, .cst (.str s)), (3, .ptr 4 0), (4, .ptr 5 0), (5, .ptr 6 0), (12, .ptr 7 0)], [some [.sl true 5 L], some [.int .i64 c1], some [.int .i64 c2], some [.int .i64 c3], some [.int .i64 line], some [.int .i64 start], some [.int .i64 at_], some [.int .i64 k, .str t, .int .i64 v, .int .i64 a, .int .i64 b]]⟩ =
 K .normal ⟨[(0, .func (.yield l) [] []), (1, .cst (.str s)), (3, .ptr 4 0), (4, .ptr 5 0), (5, .ptr 6 0), (12, .ptr 7 0), (81, .int .i64 at_), (82, .ptr 7 1), (83, .str t), (84, .int .i64 (t.size : Int)), (85, .int .i64 (IntKind.i64.wrap (at_ + (t.size : Int))))], [some [.sl true 5 L], some [.int .i64 c1], some [.int .i64 c2], some [.int .i64 c3], some [.int .i64 line], some [.int .i64 start], some [.int .i64 (IntKind.i64.wrap (at_ + (t.size : Int)))], some [.int .i64 k, .str t, .int .i64 v, .int .i64 a, .int .i64 b]]⟩ := by kernel_rfl
end Go.Proofs.YtcdceiloganlnaaGreatDoor
namespace Go.Proofs.YtcdceiloganlnaaGreatDoor
open Go.RowKit
set_option maxRecDepth 1000000
noncomputable def k : Code := Code.sub [] p58a_c
noncomputable def k0 : Code := Code.sub [false] p58a_c
noncomputable def k00 : Code := Code.sub [false, false] p58a_c
noncomputable def k01 : Code := Code.sub [false, true] p58a_c
noncomputable def k010 : Code := Code.sub [false, true, false] p58a_c
theorem k010_eq : k010 = .label 0 := by kernel_rfl
noncomputable def k011 : Code := Code.sub [false, true, true] p58a_c
noncomputable def k0110 : Code := Code.sub [false, true, true, false] p58a_c
noncomputable def k01100 : Code := Code.sub [false, true, true, false, false] p58a_c
noncomputable def k011000 : Code := Code.sub [false, true, true, false, false, false] p58a_c
noncomputable def k0110000 : Code := Code.sub [false, true, true, false, false, false, false] p58a_c
noncomputable def k0110001 : Code := Code.sub [false, true, true, false, false, false, true] p58a_c
noncomputable def k01100010 : Code := Code.sub [false, true, true, false, false, false, true, false] p58a_c
noncomputable def k01100011 : Code := Code.sub [false, true, true, false, false, false, true, true] p58a_c
noncomputable def k011000110 : Code := Code.sub [false, true, true, false, false, false, true, true, false] p58a_c
noncomputable def k011000111 : Code := Code.sub [false, true, true, false, false, false, true, true, true] p58a_c
noncomputable def k0110001110 : Code := Code.sub [false, true, true, false, false, false, true, true, true, false] p58a_c
noncomputable def k0110001111 : Code := Code.sub [false, true, true, false, false, false, true, true, true, true] p58a_c
noncomputable def k01100011110 : Code := Code.sub [false, true, true, false, false, false, true, true, true, true, false] p58a_c
noncomputable def k011000111100 : Code := Code.sub [false, true, true, false, false, false, true, true, true, true, false, false] p58a_c
noncomputable def k011000111101 : Code := Code.sub [false, true, true, false, false, false, true, true, true, true, false, true] p58a_c
noncomputable def k0110001111010 : Code := Code.sub [false, true, true, false, false, false, true, true, true, true, false, true, false] p58a_c
noncomputable def k01100011110100 : Code := Code.sub [false, true, true, false, false, false, true, true, true, true, false, true, false, false] p58a_c
theorem k01100011110100_eq : k01100011110100 = .region 10 (opsOf k01100011110100) false := by kernel_rfl
noncomputable def k01100011110101 : Code := Code.sub [false, true, true, false, false, false, true, true, true, true, false, true, false, true] p58a_c
theorem k01100011110101_eq : k01100011110101 = .ret := by kernel_rfl
theorem k0110001111010_eq : k0110001111010 = .seq k01100011110100 k01100011110101 := by kernel_rfl
noncomputable def k0110001111011 : Code := Code.sub [false, true, true, false, false, false, true, true, true, true, false, true, true] p58a_c
theorem k0110001111011_eq : k0110001111011 = .skip := by kernel_rfl
theorem k011000111101_eq : k011000111101 = .cond (.tmp 41) k0110001111010 k0110001111011 := by kernel_rfl
theorem k01100011110_eq : k01100011110 = .seq k011000111100 k011000111101 := by kernel_rfl
noncomputable def k01100011111 : Code := Code.sub [false, true, true, false, false, false, true, true, true, true, true] p58a_c
noncomputable def k011000111110 : Code := Code.sub [false, true, true, false, false, false, true, true, true, true, true, false] p58a_c
noncomputable def k011000111111 : Code := Code.sub [false, true, true, false, false, false, true, true, true, true, true, true] p58a_c
noncomputable def k0110001111110 : Code := Code.sub [false, true, true, false, false, false, true, true, true, true, true, true, false] p58a_c
noncomputable def k0110001111111 : Code := Code.sub [false, true, true, false, false, false, true, true, true, true, true, true, true] p58a_c
noncomputable def k01100011111110 : Code := Code.sub [false, true, true, false, false, false, true, true, true, true, true, true, true, false] p58a_c
noncomputable def k01100011111111 : Code := Code.sub [false, true, true, false, false, false, true, true, true, true, true, true, true, true] p58a_c
noncomputable def k011000111111110 : Code := Code.sub [false, true, true, false, false, false, true, true, true, true, true, true, true, true, false] p58a_c
noncomputable def k0110001111111100 : Code := Code.sub [false, true, true, false, false, false, true, true, true, true, true, true, true, true, false, false] p58a_c
theorem k0110001111111100_eq : k0110001111111100 = .region 19 (opsOf k0110001111111100) false := by kernel_rfl
noncomputable def k0110001111111101 : Code := Code.sub [false, true, true, false, false, false, true, true, true, true, true, true, true, true, false, true] p58a_c
noncomputable def k01100011111111010 : Code := Code.sub [false, true, true, false, false, false, true, true, true, true, true, true, true, true, false, true, false] p58a_c
theorem k01100011111111010_eq : k01100011111111010 = .ret := by kernel_rfl
noncomputable def k01100011111111011 : Code := Code.sub [false, true, true, false, false, false, true, true, true, true, true, true, true, true, false, true, true] p58a_c
theorem k01100011111111011_eq : k01100011111111011 = .skip := by kernel_rfl
theorem k0110001111111101_eq : k0110001111111101 = .cond (.tmp 80) k01100011111111010 k01100011111111011 := by kernel_rfl
theorem k011000111111110_eq : k011000111111110 = .seq k0110001111111100 k0110001111111101 := by kernel_rfl
noncomputable def k011000111111111 : Code := Code.sub [false, true, true, false, false, false, true, true, true, true, true, true, true, true, true] p58a_c
noncomputable def k0110001111111110 : Code := Code.sub [false, true, true, false, false, false, true, true, true, true, true, true, true, true, true, false] p58a_c
noncomputable def k0110001111111111 : Code := Code.sub [false, true, true, false, false, false, true, true, true, true, true, true, true, true, true, true] p58a_c
theorem k0110001111111111_eq : k0110001111111111 = .exit 1 := by kernel_rfl
theorem k011000111111111_eq : k011000111111111 = .seq k0110001111111110 k0110001111111111 := by kernel_rfl
theorem k01100011111111_eq : k01100011111111 = .seq k011000111111110 k011000111111111 := by kernel_rfl
theorem k0110001111111_eq : k0110001111111 = .seq k01100011111110 k01100011111111 := by kernel_rfl
theorem k011000111111_eq : k011000111111 = .seq k0110001111110 k0110001111111 := by kernel_rfl
theorem k01100011111_eq : k01100011111 = .seq k011000111110 k011000111111 := by kernel_rfl
theorem k0110001111_eq : k0110001111 = .seq k01100011110 k01100011111 := by kernel_rfl
theorem k011000111_eq : k011000111 = .seq k0110001110 k0110001111 := by kernel_rfl
theorem k01100011_eq : k01100011 = .seq k011000110 k011000111 := by kernel_rfl
theorem k0110001_eq : k0110001 = .seq k01100010 k01100011 := by kernel_rfl
theorem k011000_eq : k011000 = .seq k0110000 k0110001 := by kernel_rfl
theorem k01100_eq : k01100 = .block 1 k011000 := by kernel_rfl
theorem k0110_eq : k0110 = .loop k01100 := by kernel_rfl
theorem k011_eq : k011 = .block 0 k0110 := by kernel_rfl
theorem k01_eq : k01 = .seq k010 k011 := by kernel_rfl
theorem k0_eq : k0 = .seq k00 k01 := by kernel_rfl
theorem k_eq : k = .scope k0 := by kernel_rfl
noncomputable def k01100011110100_o : Oper := (opsOf k01100011110100)[4]!
noncomputable def k01100011110100_cl : Call := match k01100011110100_o.op with | .call c => c | _ => default
theorem k01100011110100_1 : k01100011110100_o.op = .call k01100011110100_cl := by kernel_rfl
theorem k01100011110100_2 : k01100011110100_o.guard = none := by kernel_rfl
theorem k01100011110100_3 : k01100011110100_cl.callee = .value (.tmp 42) := by kernel_rfl
theorem k01100011110100_4 : k01100011110100_cl.args = #[(.tmp 45), (.const (.int .i64 0))] := by kernel_rfl
theorem k01100011110100_6 : (opsOf k01100011110100).toList = ((opsOf k01100011110100).toList.drop 0).take 4 ++ k01100011110100_o :: ((opsOf k01100011110100).toList.drop 5).take 5 := by kernel_rfl
noncomputable def k0110001111111100_o : Oper := (opsOf k0110001111111100)[5]!
noncomputable def k0110001111111100_cl : Call := match k0110001111111100_o.op with | .call c => c | _ => default
theorem k0110001111111100_1 : k0110001111111100_o.op = .call k0110001111111100_cl := by kernel_rfl
theorem k0110001111111100_2 : k0110001111111100_o.guard = none := by kernel_rfl
theorem k0110001111111100_3 : k0110001111111100_cl.callee = .value (.tmp 70) := by kernel_rfl
theorem k0110001111111100_4 : k0110001111111100_cl.args = #[(.tmp 73), (.tmp 74)] := by kernel_rfl
theorem k0110001111111100_6 : (opsOf k0110001111111100).toList = ((opsOf k0110001111111100).toList.drop 0).take 5 ++ k0110001111111100_o :: ((opsOf k0110001111111100).toList.drop 6).take 5 := by kernel_rfl
end Go.Proofs.YtcdceiloganlnaaGreatDoor
namespace Go.Proofs.YtcdceiloganlnaaGreatDoor
open Go.RowKit
def nlS : List UInt8 → Nat → Nat × Nat → Nat × Nat
 | [], _, p => p
 | b :: l, i, p => nlS l (i + 1) (if b = 10 then (p.1 + 1, i + 1) else p)
def readS (l : List UInt8) : Tok × Int := match l with
 | [] => symbolS []
 | b :: l => if isDig b.toNat then numberS (b :: l) else if isLet b.toNat then wordS (b :: l) else symbolS (b :: l)
inductive ScanR where
 | ok (ts : List Tok)
 | err (line col e : Int)
def Tok.at (t : Tok) (line col : Int) : Tok := { t with line := line, col := col }
def scanS : Nat → List UInt8 → Nat → Nat → Nat → List Tok → ScanR
 | 0, _, _, _, _, _ => .err 0 0 0
 | f + 1, rest, i, line, start, acc =>
  let g := skipS false rest
  let p := nlS (rest.take g) i (line, start)
  match rest.drop g with
  | [] => .ok (acc ++ [(⟨4, [], 0, (p.1 : Nat), ((i + g - p.2 + 1 : Nat) : Int)⟩ : Tok)])
  | b :: r =>
   if (readS (b :: r)).2 = 0 then scanS f ((b :: r).drop (readS (b :: r)).1.text.length) (i + g + (readS (b :: r)).1.text.length) p.1 p.2 (acc ++ [(readS (b :: r)).1.at (p.1 : Nat) ((i + g - p.2 + 1 : Nat) : Int)])
   else .err (p.1 : Nat) ((i + g - p.2 + 1 : Nat) : Int) (readS (b :: r)).2
theorem skip_le : ∀ (c : Bool) (l : List UInt8), skipS c l ≤ l.length
 | _, [] => by cases ‹Bool› <;> simp [skipS]
 | true, b :: l => by
  have h1 := skip_le false l
  have h2 := skip_le true l
  rw [skipS]; split <;> simp <;> omega
 | false, b :: l => by
  have h1 := skip_le false l
  have h2 := skip_le true l
  rw [skipS]; split
  ·simp; omega
  ·split <;> simp <;> omega
theorem nl_ge : ∀ (l : List UInt8) (i : Nat) (p : Nat × Nat), p.2 ≤ i → (nlS l i p).2 ≤ i + l.length ∧ p.1 ≤ (nlS l i p).1 ∧ (nlS l i p).1 ≤ p.1 + l.length
 | [], i, p, h => by simp [nlS, h]
 | b :: l, i, p, h => by
  rw [nlS]
  split
  ·have := nl_ge l (i + 1) (p.1 + 1, i + 1) (by simp)
   simp only [List.length_cons] at *; omega
  ·have := nl_ge l (i + 1) p (by omega)
   simp only [List.length_cons]; omega
theorem run_pos {p : Nat → Bool} {b : UInt8} {l : List UInt8} (h : p b.toNat = true) : 0 < (runS p (b :: l)).length := by
 unfold runS; rw [List.takeWhile_cons, h]; simp
theorem symOf_mem {l x : List UInt8} (h : symOf l = some x) : x ∈ symsL ∧ x.isPrefixOf l = true := by
 unfold symOf at h
 exact ⟨List.mem_of_find?_eq_some h, by have := List.find?_some h; simpa using this⟩
theorem syms_pos : ∀ x ∈ symsL, 0 < x.length ∧ x.length ≤ 2 := by decide
theorem pre_len : ∀ {x l : List UInt8}, x.isPrefixOf l = true → x.length ≤ l.length
 | [], _, _ => by simp
 | a :: x, [], h => by simp [List.isPrefixOf] at h
 | a :: x, b :: l, h => by simp [List.isPrefixOf] at h; have := pre_len (x := x) (l := l) (by simpa using h.2); simp; omega
theorem read_len {b : UInt8} {r : List UInt8} (h : (readS (b :: r)).2 = 0) : 0 < (readS (b :: r)).1.text.length ∧ (readS (b :: r)).1.text.length ≤ (b :: r).length := by
 rw [show readS (b :: r) = if isDig b.toNat then numberS (b :: r) else if isLet b.toNat then wordS (b :: r) else symbolS (b :: r) from rfl] at h ⊢
 split
 ·rename_i hd
  have h1 := run_pos (p := isDig) (l := r) hd
  have h2 := runS_le isDig (b :: r)
  simp only [hd, if_true] at h
  unfold numberS at h ⊢
  split at h
  ·cases h
  ·rename_i c1
   rw [if_neg c1]
   split at h
   ·cases h
   ·rename_i c2
    rw [if_neg c2]
    split at h
    ·cases h
    ·rename_i n hn
     exact ⟨h1, h2⟩
 ·rename_i hd
  simp only [hd] at h
  split
  ·rename_i hw
   have h1 := run_pos (p := isW) (b := b) (l := r) (by simp [isW, hw])
   have h2 := runS_le isW (b :: r)
   simp only [hw, if_true] at h
   unfold wordS at h ⊢
   by_cases c : 32 < (runS isW (b :: r)).length
   ·simp [c] at h
   ·simp only [if_neg c]; exact ⟨h1, h2⟩
  ·rename_i hw
   simp only [hw] at h
   unfold symbolS at h ⊢
   cases hs : symOf (b :: r) with
   | none => simp [hs] at h
   | some x =>
    obtain ⟨m1, m2⟩ := symOf_mem hs
    have := syms_pos x m1
    exact ⟨this.1, pre_len m2⟩
end Go.Proofs.YtcdceiloganlnaaGreatDoor
namespace Go.Proofs.YtcdceiloganlnaaGreatDoor
open Go.RowKit
set_option maxRecDepth 1000000
noncomputable def Y16 (l : Nat) (rc : Loop) (out : Nat → Nat) : YC := ⟨p58a_E, p12a_E, l, 7, rc, out, [(2, .ptr 0 0), (3, .ptr 1 0), (4, .ptr 2 0), (5, .ptr 3 0)]⟩
structure RcOK (rc : Loop) : Prop where
 par : rc.params = #[13, 14]
 asg : rc.assign = sc_asg
 bod : rc.body = sc_body
 tm : rc.tmps.size = 27
theorem Y16_ok {l : Nat} {rc : Loop} {out : Nat → Nat} (ho : 1 ≤ out l) : (Y16 l rc out).OK := ⟨mixed16, rfl, ho⟩
section
variable {l : Nat} {rc : Loop} {out : Nat → Nat}
theorem pc (ho : 1 ≤ out l) {c : Code} {Q : AX → ASt → AX → Prop} {j ax : AX} {σ σt : ASt} (h : ∀ K, exK p58a_X c K σ = K ax σt) (hq : Q ax σt j) : Tr (Y16 l rc out) c Q j σ :=
 Tr.of_awp (Y16_ok ho) (piece_awp (X := p58a_X) SS_ok.V SS_ok.W (CC_sound mixed16 SS_ok C16_ok) (LL_sound mixed16 SS_ok C16_ok rfl) h) (by rintro e σ' ⟨rfl, rfl⟩; exact hq)
theorem ops_awp {ops : Array Oper} {os : List Oper} {σ σt : ASt} (h : ∀ K : ASt → R, exOps p58a_X false ops os K σ = K σt) : awpOps p58a_E ops os (fun σ' => σ' = σt) σ := by
 have h1 : exOps p58a_X false ops os (fun σ' => onlyK .normal σt .normal σ') σ = some (.nilp, []) := by rw [h]; simp [onlyK]
 refine awpOps_mono (fun σ' he => ?_) _ (exOps_sound (X := p58a_X) SS_ok.V SS_ok.W (CC_sound mixed16 SS_ok C16_ok) os h1)
 unfold onlyK at he
 split at he
 ·rename_i h; exact h.2
 ·cases he
end
abbrev sl5 (l : Nat) (s : ByteArray) (t : Slots) : Slots := (0, .func (.yield l) [] []) :: (1, .cst (.str s)) :: (3, .ptr 4 0) :: (4, .ptr 5 0) :: (5, .ptr 6 0) :: t
theorem take_drop_succ {α : Type} {l : List α} {i m : Nat} (h : i < l.length) : (l.drop i).take (m + 1) = l[i] :: (l.drop (i + 1)).take m := by
 rw [List.drop_eq_getElem_cons h, List.take_succ_cons]
theorem lineL (l : Nat) (K : AX → ASt → R) (full : List UInt8) (L : List PV) (c1 c2 c3 : Int) (at_ g : Nat) (hg : at_ + g ≤ full.length) (hf : full.length ≤ 1000000) : ∀ (m i line start : Nat), i + m = at_ + g → line ≤ i + 1 →
 p58b_L4 l K (bs full) (g : Int) (i : Int) L c1 c2 c3 (line : Int) (start : Int) (at_ : Int) =
  K .normal ⟨sl5 l (bs full) [(6, .int .i64 (g : Int)), (7, .int .i64 ((at_ + g : Nat) : Int)), (19, .int .i64 ((at_ + g : Nat) : Int)), (20, .int .i64 (at_ : Int)), (21, .int .i64 (g : Int)), (22, .int .i64 ((at_ + g : Nat) : Int)), (23, .bool false)],
   H58 L c1 c2 c3 ((nlS ((full.drop i).take m) i (line, start)).1 : Nat) ((nlS ((full.drop i).take m) i (line, start)).2 : Nat) (at_ : Int)⟩ := by
 have hw : IntKind.i64.wrap ((at_ : Int) + (g : Int)) = ((at_ + g : Nat) : Int) := by rw [wrap64 (by omega) (by omega)]; omega
 intro m
 induction m with
 | zero =>
  intro i line start hi hl
  rw [p58b_L4_eq, hw, decF (by omega), bsel_false, List.take_zero]
  have : i = at_ + g := by omega
  subst this
  rfl
 | succ m ih =>
  intro i line start hi hl
  have hlt : i < full.length := by omega
  rw [p58b_L4_eq, hw, decT (by omega), bsel_true, byteX_of (b := full[i]) (by omega) (by rw [bs_get]; simp [hlt]), show ((full[i].toNat : Int) == 10) = (full[i].toNat == 10) from beqN _ 10, wrs (by omega), wrs (by omega), take_drop_succ hlt, nlS]
  by_cases hb : full[i] = 10
  ·rw [hb, show ((10 : UInt8).toNat == 10) = true from rfl, bsel_true, if_pos rfl]
   exact ih (i + 1) (line + 1) (i + 1) (by omega) (by omega)
  ·have : (full[i].toNat == 10) = false := by
    rw [beq_eq_false_iff_ne]; intro e; exact hb (UInt8.toNat_inj.1 (by rw [e]; rfl))
   rw [this, bsel_false, if_neg hb]
   exact ih (i + 1) line start (by omega) (by omega)
def ruleF (b : UInt8) : Nat := if isDig b.toNat then 306 else if isLet b.toNat then 304 else 252
theorem ruleL (l : Nat) (K : AX → ASt → R) (full : List UInt8) (L : List PV) (c1 c2 c3 line start : Int) (at_ : Nat) (h : at_ < full.length) :
 exK p58a_X p8_c K ⟨sl5 l (bs full) [(8, c8P), (9, .func (.func 252) [] [])], H58 L c1 c2 c3 line start (at_ : Int)⟩ =
  K .normal ⟨sl5 l (bs full) [(8, c8P), (9, .func (.func (ruleF full[at_])) [] []), (47, .sl false 2 RL), (48, .int .i64 (RL.length : Int)), (49, .int .i64 2), (50, .bool false)], H58 L c1 c2 c3 line start (at_ : Int)⟩ := by
 have hb : ((bs full)[(at_ : Int).toNat]? : Option UInt8) = some full[at_] := by rw [Int.toNat_natCast, bs_get]; simp [h]
 rw [L8_start, L8_0, byteX_of (by omega) hb, clX_of (c78 _), vB_mk]
 unfold ruleF
 cases isLet full[at_].toNat
 ·rw [bsel_false, L8_1, byteX_of (by omega) hb, clX_of (c80 _), vB_mk]
  cases isDig full[at_].toNat
  ·rw [bsel_false, L8_2]; rfl
  ·rw [bsel_true, L8_2]; rfl
 ·rw [bsel_true, L8_1, byteX_of (by omega) hb, clX_of (c80 _), vB_mk]
  cases isDig full[at_].toNat
  ·rw [bsel_false, L8_2]; rfl
  ·rw [bsel_true, L8_2]; rfl
end Go.Proofs.YtcdceiloganlnaaGreatDoor
namespace Go.Proofs.YtcdceiloganlnaaGreatDoor
open Go.RowKit
set_option maxRecDepth 1000000
theorem bs_from (full : List UInt8) (i : Nat) : (bs full).extract i (bs full).size = bs (full.drop i) := by
 rw [bs_size, bs_extract, List.take_of_length_le (by simp)]
section
variable {l : Nat} {rc : Loop} {out : Nat → Nat}
theorem pre_walk (ho : 1 ≤ out l) {full : List UInt8} {L : List PV} {c1 c2 c3 : Int} {i g line start : Nat} {Q : AX → ASt → AX → Prop} (hf : full.length ≤ 1000000) (hi : i ≤ full.length) (hl : line ≤ i + 1) (hg : skipS false (full.drop i) = g)
 (h : Tr (Y16 l rc out) k0110001111 Q .normal ⟨sl5 l (bs full) [(8, c8P)], H58 L c1 c2 c3 ((nlS ((full.drop i).take g) i (line, start)).1 : Nat) ((nlS ((full.drop i).take g) i (line, start)).2 : Nat) ((i + g : Nat) : Int)⟩) :
 Tr (Y16 l rc out) k011000 Q .normal ⟨sl5 l (bs full) [], H58 L c1 c2 c3 (line : Int) (start : Int) (i : Int)⟩ := by
 have hgl := skip_le false (full.drop i)
 rw [hg, List.length_drop] at hgl
 generalize hp : nlS ((full.drop i).take g) i (line, start) = p at h
 rw [k011000_eq]
 refine Tr.seq (pc (σt := ⟨sl5 l (bs full) [(6, .int .i64 (g : Int)), (14, .str (bs full)), (15, .int .i64 (i : Int)), (16, .str (bs (full.drop i))), (17, .int .i64 (g : Int))], H58 L c1 c2 c3 line start i⟩) (ax := .normal) ho (fun K => ?_) ?_)
 ·refine (p58a_eq l K (bs full) L c1 c2 c3 line start i).trans ?_
  rw [chk_of (by rw [bs_size]; simp; omega), Int.toNat_natCast, bs_from, clX_of (c59 (full.drop i) (by simp; omega)), vI_mk, hg]
 show Tr (Y16 l rc out) k0110001 Q .normal _
 refine Tr.gc (l := [0, 1, 3, 4, 5, 6]) (m := 7) (Nat.le_refl _) rfl ?_
 show Tr (Y16 l rc out) k0110001 Q .normal ⟨sl5 l (bs full) [(6, .int .i64 (g : Int))], H58 L c1 c2 c3 line start i⟩
 rw [k0110001_eq]
 refine Tr.seq (pc (σt := ⟨sl5 l (bs full) [(6, .int .i64 (g : Int)), (7, .int .i64 ((i + g : Nat) : Int)), (19, .int .i64 ((i + g : Nat) : Int)), (20, .int .i64 (i : Int)), (21, .int .i64 (g : Int)), (22, .int .i64 ((i + g : Nat) : Int)), (23, .bool false)], H58 L c1 c2 c3 (p.1 : Nat) (p.2 : Nat) i⟩) (ax := .normal) ho (fun K => ?_) ?_)
 ·refine (p58b_eq l K (bs full) g L c1 c2 c3 line start i).trans ?_
  rw [lineL l K full L c1 c2 c3 i g (by omega) hf g i line start rfl hl, hp]
 show Tr (Y16 l rc out) k01100011 Q .normal _
 refine Tr.gc (l := [0, 1, 3, 4, 5, 6]) (m := 7) (Nat.le_refl _) rfl ?_
 show Tr (Y16 l rc out) k01100011 Q .normal ⟨sl5 l (bs full) [(6, .int .i64 (g : Int))], H58 L c1 c2 c3 (p.1 : Nat) (p.2 : Nat) i⟩
 rw [k01100011_eq]
 refine Tr.seq (pc (ax := .normal) ho (fun K => p58c_eq l K (bs full) g L c1 c2 c3 (p.1 : Nat) (p.2 : Nat) i) ?_)
 show Tr (Y16 l rc out) k011000111 Q .normal _
 refine Tr.gc (l := [0, 1, 3, 4, 5]) (m := 7) (Nat.le_refl _) rfl ?_
 rw [show IntKind.i64.wrap ((i : Int) + (g : Int)) = ((i + g : Nat) : Int) by rw [wrap64 (by omega) (by omega)]; omega]
 show Tr (Y16 l rc out) k011000111 Q .normal ⟨sl5 l (bs full) [], H58 L c1 c2 c3 (p.1 : Nat) (p.2 : Nat) ((i + g : Nat) : Int)⟩
 rw [k011000111_eq]
 refine Tr.seq (pc (ax := .normal) ho (fun K => p58d_eq l K (bs full) L c1 c2 c3 (p.1 : Nat) (p.2 : Nat) ((i + g : Nat) : Int)) ?_)
 show Tr (Y16 l rc out) k0110001111 Q .normal _
 exact Tr.gc (l := [0, 1, 3, 4, 5, 8]) (m := 7) (Nat.le_refl _) rfl h
theorem colW {i start : Nat} (h1 : start ≤ i) (h2 : i ≤ 1000000) : IntKind.i64.wrap (IntKind.i64.wrap ((i : Int) - (start : Int)) + 1) = ((i - start + 1 : Nat) : Int) := by
 rw [wrap64 (n := (i : Int) - start) (by omega) (by omega), wrap64 (by omega) (by omega)]; omega
theorem end_walk (ho : 1 ≤ out l) (hrc : RcOK rc) {full : List UInt8} {L : List PV} {c1 c2 c3 : Int} {i line start : Nat} {Q : AX → ASt → AX → Prop} (hf : full.length ≤ 1000000) (hi : i = full.length) (hs : start ≤ i) (hL : L.length + 1 ≤ LIM)
 (h : ∀ σ, σ.h.take 4 = [some [.sl true 5 (L ++ [tokP ⟨4, [], 0, (line : Int), ((i - start + 1 : Nat) : Int)⟩])], some [.int .i64 c1], some [.int .i64 c2], some [.int .i64 c3]] → Q .ret σ .normal) :
 Tr (Y16 l rc out) k0110001111 Q .normal ⟨sl5 l (bs full) [(8, c8P)], H58 L c1 c2 c3 (line : Int) (start : Int) (i : Int)⟩ := by
 rw [k0110001111_eq]
 refine Tr.seq ?_
 rw [k01100011110_eq]
 refine Tr.seq (pc (ax := .normal) ho (fun K => p58e_eq l K (bs full) L c1 c2 c3 line start i) ?_)
 show Tr (Y16 l rc out) k011000111101 _ .normal _
 rw [show ((i : Int) == ((bs full).size : Int)) = true by rw [bs_size, hi]; simp, k011000111101_eq]
 refine Tr.cond (b := true) rfl (fun _ => ?_) (fun h => by cases h)
 rw [k0110001111010_eq]
 refine Tr.seq ?_
 rw [k01100011110100_eq]
 refine Tr.gc (l := [0, 1, 3, 4, 5, 8]) (m := 7) (Nat.le_refl _) rfl ?_
 refine Tr.yield (Y16_ok ho) k01100011110100_6 k01100011110100_1 k01100011110100_2 k01100011110100_3 k01100011110100_4 hrc.par (by decide) (show 14 < 27 by decide) ?_ ?_ hrc.tm (by show noDfC rc.assign = true; rw [hrc.asg]; exact sc_noA) (by show noDfC rc.body = true; rw [hrc.bod]; exact sc_noB) ?_
 ·intro kp hk
  simp only [Y16, List.mem_cons, List.not_mem_nil, or_false] at hk
  rcases hk with rfl | rfl | rfl | rfl <;> decide
 ·simp [Srt, Y16]
 ·refine awpOps_mono (fun σ1 hσ => ?_) _ (ops_awp (σt := ⟨sl5 l (bs full) [(8, c8P), (42, .func (.yield l) [] []), (43, c8P), (44, .agg [.int .i64 4, .str ⟨#[]⟩, .int .i64 0, .int .i64 0, .int .i64 0]), (45, .agg [.int .i64 4, .str ⟨#[]⟩, .int .i64 0, .int .i64 (line : Int), .int .i64 ((i - start + 1 : Nat) : Int)])], H58 L c1 c2 c3 line start i⟩) fun K => ?_)
  ·subst hσ
   have hr := sc_round7 L c1 c2 c3 line start i 4 ⟨#[]⟩ 0 line ((i - start + 1 : Nat) : Int) 0 hL
   refine ⟨.agg [.int .i64 4, .str ⟨#[]⟩, .int .i64 0, .int .i64 (line : Int), .int .i64 ((i - start + 1 : Nat) : Int)], .int .i64 0, fun ax σ' => if (0 : Int) = 0 then ax = .normal ∧ σ' = sc_n7 L c1 c2 c3 line start i 4 ⟨#[]⟩ 0 line ((i - start + 1 : Nat) : Int) 0 else ax = .ret ∧ σ' = sc_e7 L c1 c2 c3 line start i 4 ⟨#[]⟩ 0 line ((i - start + 1 : Nat) : Int) 0, rfl, rfl, rfl, Nat.le_refl _, ?_, ?_⟩
   ·show awp p12a_E 7 rc.assign (contA (awp p12a_E 7 rc.body _) fun _ _ => False) _
    rw [hrc.asg, hrc.bod]
    exact hr
   ·intro ax σ' hq
    rw [if_pos rfl] at hq
    obtain ⟨rfl, rfl⟩ := hq
    refine ⟨rfl, ?_⟩
    show Tr (Y16 l rc out) k01100011110101 _ .normal _
    rw [k01100011110101_eq]
    exact Tr.ret (h _ rfl)
  ·refine Eq.trans (b := exOps p58f_X false (opsOf p58f_c1) (((opsOf p58f_c1).toList.drop 0).take 4) K ⟨sl5 l (bs full) [(8, c8P)], H58 L c1 c2 c3 line start i⟩) rfl ?_
   refine (p58f_eq l (fun _ => K) (bs full) L c1 c2 c3 line start i).trans ?_
   unfold clH
   rw [g251_eq, colW hs (by omega)]
   rfl
end
end Go.Proofs.YtcdceiloganlnaaGreatDoor
namespace Go.Proofs.YtcdceiloganlnaaGreatDoor
open Go.RowKit
set_option maxRecDepth 1000000
abbrev h6 (t : Tok) : List PV := [.int .i64 t.kind, .str (bs t.text), .int .i64 t.value, .int .i64 t.line, .int .i64 t.col]
theorem readL (l : Nat) (K : AX → ASt → R) (full : List UInt8) (L : List PV) (c1 c2 c3 line start : Int) (i : Nat) (h : i < full.length) (hf : full.length ≤ 1000000) :
 exK p58a_X k01100011111110 K ⟨sl5 l (bs full) [(8, c8P), (9, .func (.func (ruleF full[i])) [] [])], H58 L c1 c2 c3 line start (i : Int)⟩ =
  K .normal ⟨sl5 l (bs full) [(8, c8P), (9, .func (.func (ruleF full[i])) [] []), (12, .ptr 7 0), (13, .int .i64 (readS (full.drop i)).2), (62, rd (readS (full.drop i))), (63, .func (.func (ruleF full[i])) [] []), (64, .str (bs full)), (65, .int .i64 (i : Int)), (66, .str (bs (full.drop i))), (67, rd (readS (full.drop i))), (68, tokP (readS (full.drop i)).1), (69, .int .i64 (readS (full.drop i)).2)],
   H58 L c1 c2 c3 line start (i : Int) ++ [some (h6 (readS (full.drop i)).1)]⟩ := by
 have e : full.drop i = full[i] :: full.drop (i + 1) := List.drop_eq_getElem_cons h
 have hc : (decide (0 ≤ (i : Int)) && decide ((i : Int) ≤ ((bs full).size : Int))) = true := by rw [bs_size]; simp; omega
 have hl : (full.drop i).length ≤ 1000000 := by simp; omega
 unfold ruleF
 cases hd : isDig full[i].toNat with
 | true =>
  have hr : readS (full.drop i) = numberS (full.drop i) := by rw [e]; simp [readS, hd]
  refine (p58i3_eq l K (bs full) L c1 c2 c3 line start i).trans ?_
  rw [chk_of hc, Int.toNat_natCast, bs_from, clX_of (c81 _ hl), hr]
  rfl
 | false =>
  cases hw : isLet full[i].toNat with
  | true =>
   have hr : readS (full.drop i) = wordS (full.drop i) := by rw [e]; simp [readS, hd, hw]
   refine (p58i2_eq l K (bs full) L c1 c2 c3 line start i).trans ?_
   rw [chk_of hc, Int.toNat_natCast, bs_from, clX_of (c79 _ hl), hr]
   rfl
  | false =>
   have hr : readS (full.drop i) = symbolS (full.drop i) := by rw [e]; simp [readS, hd, hw]
   refine (p58i1_eq l K (bs full) L c1 c2 c3 line start i).trans ?_
   rw [chk_of hc, Int.toNat_natCast, bs_from, clX_of (c61 _), hr]
   rfl
theorem postT (l : Nat) (K : ASt → R) (s : ByteArray) (tk tk2 : PV) (h : Objs) : exOps p58a_X false (opsOf k0110001111111100) (((opsOf k0110001111111100).toList.drop 6).take 5) K ⟨sl5 l s [(8, c8P), (12, .ptr 7 0), (13, .int .i64 0), (70, .func (.yield l) [] []), (71, c8P), (72, tk), (73, tk2), (74, .int .i64 0), (75, .bool true)], h⟩ =
 K ⟨sl5 l s [(8, c8P), (12, .ptr 7 0), (13, .int .i64 0), (70, .func (.yield l) [] []), (71, c8P), (72, tk), (73, tk2), (74, .int .i64 0), (75, .bool true), (76, .bool false), (77, .bool false), (78, .int .i64 0), (79, .bool false), (80, .bool false)], h⟩ := by kernel_rfl
theorem postF (l : Nat) (K : ASt → R) (s : ByteArray) (e : Int) (tk tk2 : PV) (h : Objs) : exOps p58a_X false (opsOf k0110001111111100) (((opsOf k0110001111111100).toList.drop 6).take 5) K ⟨sl5 l s [(8, c8P), (12, .ptr 7 0), (13, .int .i64 e), (70, .func (.yield l) [] []), (71, c8P), (72, tk), (73, tk2), (74, .int .i64 e), (75, .bool false)], h⟩ =
 K ⟨sl5 l s [(8, c8P), (12, .ptr 7 0), (13, .int .i64 e), (70, .func (.yield l) [] []), (71, c8P), (72, tk), (73, tk2), (74, .int .i64 e), (75, .bool false), (76, .bool true), (77, .bool true), (78, .tuple []), (79, .tuple []), (80, .bool true)], h⟩ := by kernel_rfl
section
variable {l : Nat} {rc : Loop} {out : Nat → Nat}
theorem tok_walk (ho : 1 ≤ out l) (hrc : RcOK rc) {full : List UInt8} {L : List PV} {c1 c2 c3 : Int} {i line start : Nat} {Q : AX → ASt → AX → Prop} (hf : full.length ≤ 1000000) (hi : i < full.length) (hs : start ≤ i) (hL : L.length + 1 ≤ LIM)
 (h0 : (readS (full.drop i)).2 = 0 → ∀ σ, gcOK [0, 1, 3, 4, 5] 7 σ = true → σ.gc [0, 1, 3, 4, 5] 7 = ⟨sl5 l (bs full) [], H58 (L ++ [tokP ((readS (full.drop i)).1.at (line : Int) ((i - start + 1 : Nat) : Int))]) c1 c2 c3 line start (IntKind.i64.wrap ((i : Int) + ((readS (full.drop i)).1.text.length : Int)))⟩ → Q (.exit 1) σ .normal)
 (h1 : (readS (full.drop i)).2 ≠ 0 → ∀ σ, σ.h.take 4 = [some [.sl true 0 []], some [.int .i64 (line : Int)], some [.int .i64 ((i - start + 1 : Nat) : Int)], some [.int .i64 (readS (full.drop i)).2]] → Q .ret σ .ret) :
 Tr (Y16 l rc out) k0110001111 Q .normal ⟨sl5 l (bs full) [(8, c8P)], H58 L c1 c2 c3 (line : Int) (start : Int) (i : Int)⟩ := by
 rw [k0110001111_eq]
 refine Tr.seq ?_
 rw [k01100011110_eq]
 refine Tr.seq (pc (ax := .normal) ho (fun K => p58e_eq l K (bs full) L c1 c2 c3 line start i) ?_)
 show Tr (Y16 l rc out) k011000111101 _ .normal _
 rw [show ((i : Int) == ((bs full).size : Int)) = false by rw [bs_size, beq_eq_false_iff_ne]; omega, k011000111101_eq]
 refine Tr.cond (b := false) rfl (fun h => by cases h) (fun _ => ?_)
 rw [k0110001111011_eq]
 refine Tr.skip ?_
 show Tr (Y16 l rc out) k01100011111 Q .normal _
 refine Tr.gc (l := [0, 1, 3, 4, 5, 8]) (m := 7) (Nat.le_refl _) rfl ?_
 show Tr (Y16 l rc out) k01100011111 Q .normal ⟨sl5 l (bs full) [(8, c8P)], H58 L c1 c2 c3 (line : Int) (start : Int) (i : Int)⟩
 rw [k01100011111_eq]
 refine Tr.seq (pc (ax := .normal) ho (fun K => p58g_eq l K (bs full) L c1 c2 c3 line start i) ?_)
 show Tr (Y16 l rc out) k011000111111 Q .normal _
 rw [k011000111111_eq]
 refine Tr.seq (pc (ax := .normal) ho (fun K => ruleL l K full L c1 c2 c3 line start i hi) ?_)
 show Tr (Y16 l rc out) k0110001111111 Q .normal _
 refine Tr.gc (l := [0, 1, 3, 4, 5, 8, 9]) (m := 7) (Nat.le_refl _) rfl ?_
 rw [k0110001111111_eq]
 refine Tr.seq (pc (ax := .normal) ho (fun K => readL l K full L c1 c2 c3 line start i hi hf) ?_)
 generalize readS (full.drop i) = te at *
 obtain ⟨⟨tk, tt, tv, tl, tc⟩, e⟩ := te
 show Tr (Y16 l rc out) k01100011111111 Q .normal _
 refine Tr.gc (l := [0, 1, 3, 4, 5, 8, 12, 13]) (m := 8) (show 7 ≤ 8 by decide) rfl ?_
 rw [k01100011111111_eq]
 refine Tr.seq ?_
 rw [k011000111111110_eq]
 refine Tr.seq ?_
 rw [k0110001111111100_eq]
 refine Tr.yield (Y16_ok ho) k0110001111111100_6 k0110001111111100_1 k0110001111111100_2 k0110001111111100_3 k0110001111111100_4 hrc.par (by decide) (show 14 < 27 by decide) ?_ ?_ hrc.tm (by show noDfC rc.assign = true; rw [hrc.asg]; exact sc_noA) (by show noDfC rc.body = true; rw [hrc.bod]; exact sc_noB) ?_
 ·intro kp hk
  simp only [Y16, List.mem_cons, List.not_mem_nil, or_false] at hk
  rcases hk with rfl | rfl | rfl | rfl <;> decide
 ·simp [Srt, Y16]
 ·refine awpOps_mono (fun σ1 hσ => ?_) _ (ops_awp (σt := ⟨sl5 l (bs full) [(8, c8P), (12, .ptr 7 0), (13, .int .i64 e), (70, .func (.yield l) [] []), (71, c8P), (72, tokP ⟨tk, tt, tv, tl, tc⟩), (73, tokP ⟨tk, tt, tv, (line : Int), ((i - start + 1 : Nat) : Int)⟩), (74, .int .i64 e)], H58 L c1 c2 c3 line start i ++ [some (h6 ⟨tk, tt, tv, tl, tc⟩)]⟩) fun K => ?_)
  ·subst hσ
   have hr := sc_round8 L c1 c2 c3 line start i tk (bs tt) tv tl tc tk (bs tt) tv line ((i - start + 1 : Nat) : Int) e hL
   refine ⟨tokP ⟨tk, tt, tv, (line : Int), ((i - start + 1 : Nat) : Int)⟩, .int .i64 e, fun ax σ' => if e = 0 then ax = .normal ∧ σ' = sc_n8 L c1 c2 c3 line start i tk (bs tt) tv tl tc tk (bs tt) tv line ((i - start + 1 : Nat) : Int) e else ax = .ret ∧ σ' = sc_e8 L c1 c2 c3 line start i tk (bs tt) tv tl tc tk (bs tt) tv line ((i - start + 1 : Nat) : Int) e, rfl, rfl, rfl, show 7 ≤ 8 by decide, ?_, ?_⟩
   ·show awp p12a_E 8 rc.assign (contA (awp p12a_E 8 rc.body _) fun _ _ => False) _
    rw [hrc.asg, hrc.bod]
    exact hr
   ·intro ax σ' hq
    by_cases he : e = 0
    ·rw [if_pos he] at hq
     obtain ⟨rfl, rfl⟩ := hq
     subst he
     refine ⟨rfl, ?_⟩
     show awpOps p58a_E (opsOf k0110001111111100) (((opsOf k0110001111111100).toList.drop 6).take 5) _ _
     refine awpOps_mono (fun σ3 hσ3 => ?_) _ (ops_awp fun K => postT l K (bs full) _ _ _)
     subst hσ3
     show Tr (Y16 l rc out) k0110001111111101 _ .normal _
     rw [k0110001111111101_eq]
     refine Tr.cond (b := false) rfl (fun h => by cases h) (fun _ => ?_)
     rw [k01100011111111011_eq]
     refine Tr.skip ?_
     show Tr (Y16 l rc out) k011000111111111 Q .normal _
     refine Tr.gc (l := [0, 1, 3, 4, 5, 12]) (m := 8) (show 7 ≤ 8 by decide) rfl ?_
     rw [k011000111111111_eq]
     refine Tr.seq (pc (ax := .normal) ho (fun K => p58m_eq l K (bs full) (L ++ [tokP ⟨tk, tt, tv, (line : Int), ((i - start + 1 : Nat) : Int)⟩]) c1 c2 c3 line start i tk (bs tt) tv tl tc) ?_)
     show Tr (Y16 l rc out) k0110001111111111 Q .normal _
     rw [k0110001111111111_eq]
     refine Tr.exit (h0 rfl _ rfl ?_)
     rw [bs_size]
     rfl
    ·rw [if_neg he] at hq
     obtain ⟨rfl, rfl⟩ := hq
     refine ⟨rfl, ?_⟩
     show awpOps p58a_E (opsOf k0110001111111100) (((opsOf k0110001111111100).toList.drop 6).take 5) _ _
     refine awpOps_mono (fun σ3 hσ3 => ?_) _ (ops_awp fun K => postF l K (bs full) e _ _ _)
     subst hσ3
     show Tr (Y16 l rc out) k0110001111111101 _ .ret _
     rw [k0110001111111101_eq]
     refine Tr.cond (b := true) rfl (fun _ => ?_) (fun h => by cases h)
     rw [k01100011111111010_eq]
     exact Tr.ret (h1 he _ rfl)
  ·refine Eq.trans (b := exOps p58j_X false (opsOf p58j_c1) (((opsOf p58j_c1).toList.drop 0).take 5) K ⟨sl5 l (bs full) [(8, c8P), (12, .ptr 7 0), (13, .int .i64 e)], H58 L c1 c2 c3 line start i ++ [some (h6 ⟨tk, tt, tv, tl, tc⟩)]⟩) rfl ?_
   refine (p58j_eq l (fun _ => K) (bs full) e L c1 c2 c3 line start i tk (bs tt) tv tl tc).trans ?_
   unfold clH
   rw [g251_eq, colW hs (by omega)]
   rfl
end
end Go.Proofs.YtcdceiloganlnaaGreatDoor
namespace Go.Proofs.YtcdceiloganlnaaGreatDoor
open Go.RowKit
set_option maxRecDepth 1000000
noncomputable def s : Code := Code.sub [] p12a_c
noncomputable def s0 : Code := Code.sub [false] p12a_c
noncomputable def s1 : Code := Code.sub [true] p12a_c
noncomputable def s10 : Code := Code.sub [true, false] p12a_c
noncomputable def s11 : Code := Code.sub [true, true] p12a_c
noncomputable def s110 : Code := Code.sub [true, true, false] p12a_c
noncomputable def s1100 : Code := Code.sub [true, true, false, false] p12a_c
noncomputable def s1101 : Code := Code.sub [true, true, false, true] p12a_c
noncomputable def s11010 : Code := Code.sub [true, true, false, true, false] p12a_c
theorem s11010_eq : s11010 = .rangeFunc (.tmp 12) #[13, 14] sc_asg sc_body := by kernel_rfl
theorem s1101_eq : s1101 = .block 0 s11010 := by kernel_rfl
theorem s110_eq : s110 = .seq s1100 s1101 := by kernel_rfl
noncomputable def s111 : Code := Code.sub [true, true, true] p12a_c
noncomputable def s1110 : Code := Code.sub [true, true, true, false] p12a_c
noncomputable def s1111 : Code := Code.sub [true, true, true, true] p12a_c
theorem s1111_eq : s1111 = .ret := by kernel_rfl
theorem s111_eq : s111 = .seq s1110 s1111 := by kernel_rfl
theorem s11_eq : s11 = .seq s110 s111 := by kernel_rfl
theorem s1_eq : s1 = .seq s10 s11 := by kernel_rfl
theorem s_eq : s = .seq s0 s1 := by kernel_rfl
noncomputable def s_E : AE := SS.ae 99 27
noncomputable def s_X : XE := SS.xe SS.CC SS.LL s_E 0
abbrev s_sl (s : ByteArray) (t : Slots) : Slots := (0, .str s) :: (2, .ptr 0 0) :: (3, .ptr 1 0) :: (4, .ptr 2 0) :: (5, .ptr 3 0) :: t
abbrev s_h (o : Bool) (z : Nat) (L : List PV) (a b c : Int) : Objs := [some [.sl o z L], some [.int .i64 a], some [.int .i64 b], some [.int .i64 c]]
theorem c31 (s : ByteArray) : SS.CC 195 [.str s] [] = some (.func (.func 249) [] [.cst (.str s)], []) := (CC_run SS_ok rfl).trans (by kernel_rfl)
theorem s0_x (K : AX → ASt → R) (s : ByteArray) : exK s_X s0 K ⟨[(0, .str s)], []⟩ = K .normal ⟨s_sl s [], s_h true 0 [] 0 0 0⟩ := by kernel_rfl
theorem s10_x (K : AX → ASt → R) (s : ByteArray) : exK s_X s10 K ⟨s_sl s [], s_h true 0 [] 0 0 0⟩ = bsel (decide ((65536 : Int) < (s.size : Int))) (K .ret ⟨s_sl s [], s_h true 0 [] 1 1 15⟩) (K .normal ⟨s_sl s [(8, .str s), (9, .int .i64 (s.size : Int)), (10, .bool false)], s_h true 5 [] 0 0 0⟩) := by kernel_rfl
theorem s1100_x (K : AX → ASt → R) (s : ByteArray) : exK s_X s1100 K ⟨s_sl s [], s_h true 5 [] 0 0 0⟩ = K .normal ⟨s_sl s [(11, .str s), (12, .func (.func 249) [] [.cst (.str s)])], s_h true 5 [] 0 0 0⟩ := by
 have : exK s_X s1100 K ⟨s_sl s [], s_h true 5 [] 0 0 0⟩ = clX SS.CC 195 [.str s] fun r => SS.W 31 [] r [] fun r' _ => (match PV.flat r' with | true => K .normal ⟨s_sl s [(11, .str s), (12, r')], s_h true 5 [] 0 0 0⟩ | false => none) := by kernel_rfl
 refine this.trans ((clX_of (c31 s)).trans ?_)
 kernel_rfl
theorem s1110_x (K : AX → ASt → R) (L : List PV) : exK s_X s1110 K ⟨[(2, .ptr 0 0), (3, .ptr 1 0), (4, .ptr 2 0), (5, .ptr 3 0)], s_h true 5 L 0 0 0⟩ = K .normal ⟨[(2, .ptr 0 0), (3, .ptr 1 0), (4, .ptr 2 0), (5, .ptr 3 0), (26, .sl false 5 L)], s_h false 5 L 0 0 0⟩ := by kernel_rfl
end Go.Proofs.YtcdceiloganlnaaGreatDoor
namespace Go.Proofs.YtcdceiloganlnaaGreatDoor
open Go.RowKit
set_option maxRecDepth 1000000
def PostS (c1 c2 c3 : Int) (r : ScanR) : AX → ASt → AX → Prop := fun ax σ j => ax = .ret ∧ match r with
 | .ok ts => j = .normal ∧ σ.h.take 4 = s_h true 5 (ts.map tokP) c1 c2 c3
 | .err a b e => j = .ret ∧ σ.h.take 4 = s_h true 0 [] a b e
section
variable {l : Nat} {rc : Loop} {out : Nat → Nat}
theorem walk (ho : 1 ≤ out l) (hrc : RcOK rc) (full : List UInt8) (c1 c2 c3 : Int) (hf : full.length ≤ 1000000) (r0 : ScanR) : ∀ (f i line start : Nat) (acc : List Tok), (full.drop i).length < f → i ≤ full.length → line ≤ i + 1 → start ≤ i → acc.length ≤ i → scanS f (full.drop i) i line start acc = r0 →
 ∃ k, TrR (Y16 l rc out) k01100 (PostS c1 c2 c3 r0) k .normal ⟨sl5 l (bs full) [], H58 (acc.map tokP) c1 c2 c3 line start i⟩ := by
 intro f
 induction f with
 | zero => intro i line start acc h; omega
 | succ f ih =>
  intro i line start acc hlen hi hl hs ha hr
  obtain ⟨g, hg⟩ : ∃ g, skipS false (full.drop i) = g := ⟨_, rfl⟩
  have hgl := skip_le false (full.drop i)
  rw [hg, List.length_drop] at hgl
  obtain ⟨p, hp⟩ : ∃ p, nlS ((full.drop i).take g) i (line, start) = p := ⟨_, rfl⟩
  have hnl := nl_ge ((full.drop i).take g) i (line, start) hs
  have htl : ((full.drop i).take g).length = g := by simp; omega
  rw [hp, htl] at hnl
  simp only at hnl
  rw [scanS] at hr
  simp only [hg, hp, List.drop_drop] at hr
  by_cases he : i + g = full.length
  ·rw [List.drop_eq_nil_of_le (by omega)] at hr
   simp only at hr
   refine ⟨1, ?_⟩
   show Tr (Y16 l rc out) k01100 _ .normal _
   rw [k01100_eq]
   refine Tr.block (pre_walk ho hf hi hl hg ?_)
   rw [hp]
   refine end_walk ho hrc hf he (by omega) (by simp [LIM]; omega) fun σ hσ => ?_
   show PostS c1 c2 c3 r0 .ret σ .normal
   subst hr
   refine ⟨rfl, rfl, ?_⟩
   rw [hσ]; simp
  ·have hlt : i + g < full.length := by omega
   have hd : full.drop (i + g) = full[i + g] :: full.drop (i + g + 1) := List.drop_eq_getElem_cons hlt
   rw [hd] at hr
   simp only at hr
   rw [← hd] at hr
   by_cases h0 : (readS (full.drop (i + g))).2 = 0
   ·rw [if_pos h0, List.drop_drop] at hr
    have hrl := read_len (b := full[i + g]) (r := full.drop (i + g + 1)) (by rw [← hd]; exact h0)
    rw [← hd, List.length_drop] at hrl
    simp only [List.length_drop] at hlen
    obtain ⟨k, hk⟩ := ih (i + g + (readS (full.drop (i + g))).1.text.length) p.1 p.2 _ (by simp; omega) (by omega) (by omega) (by omega) (by simp; omega) hr
    refine ⟨k + 1, ?_⟩
    show Tr (Y16 l rc out) k01100 _ .normal _
    rw [k01100_eq]
    refine Tr.block (pre_walk ho hf hi hl hg ?_)
    rw [hp]
    refine tok_walk ho hrc hf hlt (by omega) (by simp [LIM]; omega) (fun _ σ hgc hσ => ?_) (fun h => absurd h0 h)
    show TrR (Y16 l rc out) k01100 (PostS c1 c2 c3 r0) k .normal σ
    have hσ' : σ.gc [0, 1, 3, 4, 5] 7 = ⟨sl5 l (bs full) [], H58 ((acc ++ [(readS (full.drop (i + g))).1.at (p.1 : Nat) ((i + g - p.2 + 1 : Nat) : Int)]).map tokP) c1 c2 c3 (p.1 : Nat) (p.2 : Nat) ((i + g + (readS (full.drop (i + g))).1.text.length : Nat) : Int)⟩ := by
     rw [hσ, show IntKind.i64.wrap (((i + g : Nat) : Int) + ((readS (full.drop (i + g))).1.text.length : Int)) = ((i + g + (readS (full.drop (i + g))).1.text.length : Nat) : Int) by rw [wrap64 (by omega) (by omega)]; omega]
     simp
    cases k with
    | zero => exact hk.elim
    | succ k =>
     exact Tr.gc (l := [0, 1, 3, 4, 5]) (m := 7) (Nat.le_refl _) hgc (by rw [hσ']; exact hk)
   ·rw [if_neg h0] at hr
    refine ⟨1, ?_⟩
    show Tr (Y16 l rc out) k01100 _ .normal _
    rw [k01100_eq]
    refine Tr.block (pre_walk ho hf hi hl hg ?_)
    rw [hp]
    refine tok_walk ho hrc hf hlt (by omega) (by simp [LIM]; omega) (fun h => absurd h h0) (fun _ σ hσ => ?_)
    show PostS c1 c2 c3 r0 .ret σ .ret
    subst hr
    exact ⟨rfl, rfl, hσ⟩
theorem iter (ho : 1 ≤ out l) (hrc : RcOK rc) (full : List UInt8) (hf : full.length ≤ 1000000) :
 Tr (Y16 l rc out) p58a_c (PostS 0 0 0 (scanS (full.length + 1) full 0 1 0 [])) .normal ⟨[(0, .func (.yield l) [] []), (1, .cst (.str (bs full)))], s_h true 5 [] 0 0 0⟩ := by
 have e : p58a_c = k := by kernel_rfl
 rw [e, k_eq]
 refine Tr.scope ?_
 rw [k0_eq]
 refine Tr.seq (pc (ax := .normal) (σt := ⟨sl5 l (bs full) [], H58 [] 0 0 0 1 0 0⟩) ho (fun K => by kernel_rfl) ?_)
 show Tr (Y16 l rc out) k01 _ .normal _
 rw [k01_eq]
 refine Tr.seq ?_
 rw [k010_eq]
 refine Tr.label ?_
 show Tr (Y16 l rc out) k011 _ .normal _
 rw [k011_eq]
 refine Tr.block ?_
 rw [k0110_eq]
 obtain ⟨k, hk⟩ := walk ho hrc full 0 0 0 hf (scanS (full.length + 1) full 0 1 0 []) (full.length + 1) 0 1 0 [] (by simp) (by omega) (by omega) (by omega) (by simp) rfl
 refine Tr.mono (Tr.loop hk) fun ax σ j hq => ?_
 obtain ⟨rfl, hq⟩ := hq
 exact ⟨rfl, hq⟩
end
end Go.Proofs.YtcdceiloganlnaaGreatDoor
namespace Go.Proofs.YtcdceiloganlnaaGreatDoor
open Go.RowKit
set_option maxRecDepth 1000000
def scanP : ScanR → PV
 | .ok ts => .tuple [.sl false 5 (ts.map tokP), .int .i64 0, .int .i64 0, .int .i64 0]
 | .err a b e => .tuple [.sl false 5 [], .int .i64 a, .int .i64 b, .int .i64 e]
def scanT (l : List UInt8) : ScanR := if 65536 < l.length then .err 1 1 15 else scanS (l.length + 1) l 0 1 0 []
theorem aw {c : Code} {σ σt : ASt} {ax : AX} (h : ∀ K, exK s_X c K σ = K ax σt) {n : Nat} {out : Nat → Nat} {M : Mem} {B : Blk} {a : Act} {w : World} (hI : Inv 27 M B out σ a.tmps w) :
 c.wpIn Fence.wide n Tryz.prog (fun e a' w' => e = ax.toExit ∧ a'.defers = a.defers ∧ ∃ M' B', GoodC 27 out 0 M B σ a.tmps w M' B' σt a'.tmps w') a w := by
 have h1 := piece_awp (X := s_X) SS_ok.V SS_ok.W (CC_sound mixed16 SS_ok C16_ok) (LL_sound mixed16 SS_ok C16_ok rfl) h
 refine wpIn_wide.2 (wp_mono (awp_sound (E := s_E) (m0 := 0) (out := out) mixed16 c hI h1) fun e a' w' hl => ?_)
 obtain ⟨ax', σ', M', B', rfl, ⟨rfl, rfl⟩, hd, hG⟩ := hl
 exact ⟨rfl, hd, M', B', hG⟩
theorem end12 {σ0 : ASt} {t0 : Array Value} {out : Nat → Nat} {M : Mem} {B : Blk} {w : World} (hheap : HeapOK M B w []) (hfp : ∀ b, fp B σ0 t0 w b = ownH w [] B b) {M' : Mem} {B' : Blk} {s : Slots} {h : Objs} {a' : Act} {w' : World} {o : Bool} {z : Nat} {L : List PV} {a b c : Int}
 (hG : GoodC 27 out 0 M B σ0 t0 w M' B' ⟨s, h⟩ a'.tmps w') (h2 : sget 2 s = some (.ptr 0 0)) (h3 : sget 3 s = some (.ptr 1 0)) (h4 : sget 4 s = some (.ptr 2 0)) (h5 : sget 5 s = some (.ptr 3 0)) (hh : h.take 4 = s_h o z L a b c) {r : PV} (hr : finR (SS.prm 99).ro (.tuple [.sl false z L, .int .i64 a, .int .i64 b, .int .i64 c]) = r) :
 ∃ v, (results Tryz.f99 a'.tmps).run Tryz.prog w' = .ok v w' ∧ ∃ M' B', Post [] B out M w r [] v M' B' w' := by
 have hh0 : h[0]? = some (some [.sl o z L]) := by have := congrArg (fun l => l[0]?) hh; simpa [List.getElem?_take] using this
 have hh1 : h[1]? = some (some [.int .i64 a]) := by have := congrArg (fun l => l[1]?) hh; simpa [List.getElem?_take] using this
 have hh2 : h[2]? = some (some [.int .i64 b]) := by have := congrArg (fun l => l[2]?) hh; simpa [List.getElem?_take] using this
 have hh3 : h[3]? = some (some [.int .i64 c]) := by have := congrArg (fun l => l[3]?) hh; simpa [List.getElem?_take] using this
 have hres : Tryz.f99.results.toList = [.cell 2 130, .cell 3 3, .cell 4 3, .cell 5 31] := by kernel_rfl
 have hret : retOK Tryz.prog Tryz.f99.results.toList ([] : Objs).length (.tuple [.sl false z L, .int .i64 a, .int .i64 b, .int .i64 c]) [] ⟨s, h⟩ := by
  refine ⟨Nat.le_refl _, rfl, rfl, rfl, ?_⟩
  rw [hres]
  have t24 : ti Tryz.prog 130 = some ⟨1, 24, false, [.sl true 0 []]⟩ := by kernel_rfl
  have t3 : ti Tryz.prog 3 = some ⟨1, 8, false, [.int .i64 0]⟩ := by kernel_rfl
  have t25 : ti Tryz.prog 31 = some ⟨1, 8, false, [.int .i64 0]⟩ := by kernel_rfl
  simp only [List.map_cons, List.map_nil, resV, t24, t3, t25, h2, h3, h4, h5, loadV, hh0, hh1, hh2, hh3, Bool.false_eq_true, if_false, List.getElem?_cons_zero, Option.map_some, allSome, PV.un]
 obtain ⟨v, h6, h7⟩ := post_of hheap hfp hG hret (SS.prm 99).ro
 rw [hr] at h7
 exact ⟨v, h6, _, _, h7⟩
end Go.Proofs.YtcdceiloganlnaaGreatDoor
namespace Go.Proofs.YtcdceiloganlnaaGreatDoor
open Go.RowKit
set_option maxRecDepth 1000000
abbrev R12 (out : Nat → Nat) (M : Mem) (B : Blk) (w : World) (r : PV) : Ending → World → Prop := fun e w' => ∃ v M' B', e = .returned v ∧ Post [] B out M w r [] v M' B' w'
def sI (l : Nat) (s : ByteArray) : Slots := [(0, .func (.yield l) [] []), (1, .cst (.str s))]
theorem iter_calls {l : Nat} {rc : Loop} {out : Nat → Nat} (ho : 1 ≤ out l) (hrc : RcOK rc) (full : List UInt8) (hf : full.length ≤ 1000000) {n : Nat} {M : Mem} {B : Blk} {vals : Array Value} {w : World}
 (hI : Inv 86 M B out ⟨sI l (bs full), s_h true 5 [] 0 0 0⟩ (vals ++ Array.replicate (86 - vals.size) undef) w) (hr : w.heap[l]? = some (.loop (recOf rc .normal))) (hO : OutOK (Y16 l rc out).sO 27 7 rc.tmps M B) {R : Ending → World → Prop}
 (hR : ∀ σ' j M' B' t' w', PostS 0 0 0 (scanS (full.length + 1) full 0 1 0 []) .ret σ' j → GoodL l 86 out 7 M B ⟨sI l (bs full), s_h true 5 [] 0 0 0⟩ (vals ++ Array.replicate (86 - vals.size) undef) w M' B' σ' t' w' → w'.heap[l]? = some (.loop (recOf rc j)) → R (.returned (.tuple #[])) w') :
 CallsIn Fence.wide n Tryz.prog 249 vals w R := by
 have hf58 : Tryz.prog.funcs[249]? = some Tryz.f249 := by kernel_rfl
 have hb58 : Tryz.f249.body = some p58a_c := by kernel_rfl
 have hn : Tryz.f249.ntmps = 86 := by kernel_rfl
 have hres : Tryz.f249.results = #[] := by kernel_rfl
 refine callsIn_of_wp hf58 hb58 trivial ?_
 rw [hn]
 refine wpIn_mono (iter ho hrc full hf n M B { tmps := vals ++ Array.replicate (86 - vals.size) undef, defers := [] } w hI hr hO) fun e a' w' hl => ?_
 obtain ⟨ax, σ', j, M', B', rfl, hq, hd, hG, hr'⟩ := hl
 obtain ⟨rfl, hq'⟩ := hq
 exact ⟨hd, _, results_none hres _ _ _, hR σ' j M' B' _ w' ⟨rfl, hq'⟩ hG hr'⟩
theorem ev12 (full : List UInt8) : Ev Tryz.prog 99 [.str (bs full)] [] (scanP (scanT full)) [] := by
 refine ⟨by kernel_rfl, fun out M B w vals hmem hheap hcnt hnew hv => ?_⟩
 have hf12 : Tryz.prog.funcs[99]? = some Tryz.f99 := by kernel_rfl
 have hb12 : Tryz.f99.body = some p12a_c := by kernel_rfl
 have hn : Tryz.f99.ntmps = 27 := by kernel_rfl
 have hI0 := start_inv (n := 27) (args := [.str (bs full)]) (show 1 ≤ 27 by decide) hmem hheap hcnt hnew hv
 have hfp := fun b => slots0_fp (B := B) (args := [.str (bs full)]) (h := []) (vals ++ Array.replicate (27 - vals.size) undef) w b
 refine callsIn_wide.1 (callsIn_of_wp_marks (n := 0) (R := R12 out M B w (scanP (scanT full))) hf12 hb12 trivial ?_)
 rw [hn]
 have e : p12a_c = s := by kernel_rfl
 rw [e, s_eq]
 refine wpIn_seq (wpIn_mono (aw (fun K => s0_x K (bs full)) (a := { tmps := vals ++ Array.replicate (27 - vals.size) undef, defers := [] }) hI0) ?_)
 rintro e1 a1 w1 ⟨rfl, hd1, M1, B1, hG1⟩
 show s1.wpIn Fence.wide 0 Tryz.prog _ a1 w1
 rw [s1_eq]
 by_cases hbig : 65536 < full.length
 ·have hT : scanT full = .err 1 1 15 := if_pos hbig
  refine wpIn_seq (wpIn_mono (aw (ax := .ret) (fun K => by rw [s10_x, decT (by rw [bs_size]; omega), bsel_true]) hG1.inv) ?_)
  rintro e2 a2 w2 ⟨rfl, hd2, M2, B2, hG2⟩
  show LeavesInM Fence.wide 0 Tryz.prog Tryz.f99 a2.tmps _ a2.defers .returning w2
  rw [hd2, hd1]
  obtain ⟨v, h6, M', B', h7⟩ := end12 hheap hfp (hG1.trans hG2) rfl rfl rfl rfl (show _ = s_h true 0 [] 1 1 15 from rfl) (r := scanP (scanT full)) (by rw [hT]; rfl)
  exact ⟨v, h6, v, M', B', rfl, h7⟩
 ·have hT : scanT full = scanS (full.length + 1) full 0 1 0 [] := if_neg hbig
  rw [hT]
  refine wpIn_seq (wpIn_mono (aw (ax := .normal) (fun K => by rw [s10_x, decF (by rw [bs_size]; omega), bsel_false]) hG1.inv) ?_)
  rintro e2 a2 w2 ⟨rfl, hd2, M2, B2, hG2⟩
  show s11.wpIn Fence.wide 0 Tryz.prog _ a2 w2
  have hg3 := gc_good (m0 := 0) (l := [0, 2, 3, 4, 5]) (m := 4) hG2.inv (by decide) rfl
  have hG12 := (hG1.trans hG2).trans hg3
  rw [s11_eq]
  refine wpIn_seq ?_
  rw [s110_eq]
  refine wpIn_seq (wpIn_mono (aw (fun K => s1100_x K (bs full)) hg3.inv) ?_)
  rintro e4 a4 w4 ⟨rfl, hd4, M4, B4, hG4⟩
  show s1101.wpIn Fence.wide 0 Tryz.prog _ a4 w4
  have hGa := hG12.trans hG4
  rw [s1101_eq]
  refine wpIn_block ?_
  rw [s11010_eq]
  have hI4 := hG4.inv
  obtain ⟨f12v, c12v, h12, hr1, hr2⟩ := rep_func.1 (hI4.slots 12 (.func (.func 249) [] [.cst (.str (bs full))]) rfl).2.1
  rw [reps_nil] at hr1
  obtain ⟨bx, us, hus, hbx, hus2⟩ := reps_cons.1 hr2
  rw [reps_nil] at hus2
  subst hus2
  have hev : a4.tmps.getD 12 undef = .func (.func 249) #[] #[bx] := by
   rw [h12]; congr 1 <;> (apply Array.ext'; simp [*])
  refine wpIn_rangeFunc fun fn hfn => ?_
  obtain ⟨rc, hrcdef⟩ : ∃ rc : Loop, rc = { state := .ready, pending := none, fn, tmps := a4.tmps, params := #[13, 14], assign := sc_asg, body := sc_body, defers := w4.heap.size } := ⟨_, rfl⟩
  have hrc : RcOK rc := by subst hrcdef; exact ⟨rfl, rfl, rfl, hI4.size⟩
  have hrec0 : recOf rc .normal = rc := by subst hrcdef; rfl
  obtain ⟨hIe, hfe⟩ := enter_inv hI4 rc
  refine ⟨w4.heap.size + 1, [{ target := .collected w4.heap.size, args := #[] }], enterW w4 rc, { target := .fn (.func 249) #[bx], args := #[.func (.yield (w4.heap.size + 1)) #[] #[]] }, enterW w4 rc, 249,
   #[.func (.yield (w4.heap.size + 1)) #[] #[], bx], enterW w4 rc, ?_, ?_, ?_, ?_, fun h => absurd h (by decide), ?_⟩
  ·subst hrcdef; exact run_enterLoop_outer _ _ _ _ _
  ·simp [resolve, go_sem, hev]
  ·intro f' hf'; trivial
  ·simp [invoke, go_sem]
  ·have ho1 : 1 ≤ outE out w4.heap.size (w4.heap.size + 1) := by simp [outE]
   have hoD : 1 ≤ outE out w4.heap.size w4.heap.size := by simp [outE]
   have hIi := inv_frame (n' := 86) (sr := sI (w4.heap.size + 1) (bs full)) (tr := #[.func (.yield (w4.heap.size + 1)) #[] #[], bx] ++ Array.replicate (86 - (#[.func (.yield (w4.heap.size + 1)) #[] #[], bx] : Array Value).size) undef) hIe (by simp) (by simp [Srt, sI]) (fun kp hk => by
    simp only [sI, List.mem_cons, List.not_mem_nil, or_false] at hk
    rcases hk with rfl | rfl
    ·exact ⟨show 0 < 86 by decide, by rw [app_get0]; exact rep_func.2 ⟨#[], #[], rfl, reps_nil.2 rfl, reps_nil.2 rfl⟩, rfl⟩
    ·exact ⟨show 1 < 86 by decide, by rw [app_get1]; exact hbx, rfl⟩)
   refine iter_calls (rc := rc) (by show 1 ≤ outE out w4.heap.size (w4.heap.size + 1) + _; omega) hrc full (by omega) hIi (by rw [hrec0]; exact enterW_rec rc) ?_ fun σ' j M' B' t' w' hq hG hr' => ?_
   ·intro kp hk
    have ht : rc.tmps = a4.tmps := by subst hrcdef; rfl
    rw [ht]
    simp only [Y16, List.mem_cons, List.not_mem_nil, or_false] at hk
    rcases hk with rfl | rfl | rfl | rfl
    ·exact ⟨by decide, (hI4.slots 2 (.ptr 0 0) rfl).2.1, rfl, rfl⟩
    ·exact ⟨by decide, (hI4.slots 3 (.ptr 1 0) rfl).2.1, rfl, rfl⟩
    ·exact ⟨by decide, (hI4.slots 4 (.ptr 2 0) rfl).2.1, rfl, rfl⟩
    ·exact ⟨by decide, (hI4.slots 5 (.ptr 3 0) rfl).2.1, rfl, rfl⟩
   ·have hblw : blwH 4 (σ'.h.take 4) = true := by
     obtain ⟨_, hq⟩ := hq
     split at hq <;> (rw [hq.2]; rfl)
    have hback := yield_back (m0 := 4) hIe ho1 (σr := ⟨sI (w4.heap.size + 1) (bs full), s_h true 5 [] 0 0 0⟩) rfl (fun kp hk => by
     simp only [sI, List.mem_cons, List.not_mem_nil, or_false] at hk
     rcases hk with rfl | rfl <;> rfl) rfl (hG.weak (by decide)) hblw
    have hend := run_endLoop (P := Tryz.prog) hr' (by
     unfold recOf; cases j.jump <;> simp)
    have hput := putObj_l (m0 := 4) hback.inv ho1 hr' { recOf rc j with state := .exhausted }
    have hall := hback.trans hput
    have hDs : w'.heap[w4.heap.size]? = some (.deferred (some [])) := by
     have := (hback.blk w4.heap.size (by rw [enterW_size]; omega) (by omega) (fp_rec hIe hoD)).1
     rw [this]; exact enterW_def rc
    have hD : (w'.putObj (w4.heap.size + 1) (.loop { recOf rc j with state := .exhausted })).heap[w4.heap.size]? = some (.deferred (some [])) := (World.putObj_heap_other (by omega)).trans hDs
    refine ⟨_, _, hend, ?_⟩
    obtain ⟨_, hq⟩ := hq
    cases hsc : scanS (full.length + 1) full 0 1 0 [] with
    | ok ts =>
     rw [hsc] at hq
     obtain ⟨rfl, hq⟩ := hq
     show s111.wpIn Fence.wide 0 Tryz.prog _ _ _
     rw [hq] at hall
     have hg5 := gc_good (m0 := 0) (l := [2, 3, 4, 5]) (m := 4) hall.inv (by decide) rfl
     rw [s111_eq]
     refine wpIn_seq (wpIn_mono (aw (a := { tmps := a4.tmps, defers := { target := .collected w4.heap.size, args := #[] } :: a4.defers }) (fun K => s1110_x K (ts.map tokP)) hg5.inv) ?_)
     rintro e6 a6 w6 ⟨rfl, hd6, M6, B6, hG6⟩
     show s1111.wpIn Fence.wide 0 Tryz.prog _ a6 w6
     rw [s1111_eq]
     refine wpIn_ret ?_
     show LeavesInM Fence.wide 0 Tryz.prog Tryz.f99 a6.tmps _ a6.defers .returning w6
     rw [hd6, hd4, hd2, hd1]
     have hG56 := hg5.trans hG6
     have hD6 : w6.heap[w4.heap.size]? = some (.deferred (some [])) := by
      have hlt : w4.heap.size < (w'.putObj (w4.heap.size + 1) (.loop { recOf rc .normal with state := .exhausted })).heap.size := (Array.getElem?_eq_some_iff.1 hD).1
      rw [(hG56.fr.blk w4.heap.size hlt (fp_rec hall.inv hoD)).1]; exact hD
     refine ⟨by simp, .inl ⟨w4.heap.size, _, rfl, run_takeDeferred hD6, ?_⟩⟩
     have hsh := putObj_d (m0 := 0) hG56.inv hoD hD6 (.deferred none)
     have htot := ((hall.weak (show 0 ≤ 4 by decide)).trans hG56.gl)
     have hfin := hGa.trans (leave_good hI4 htot hsh)
     obtain ⟨v, h6, M', B', h7⟩ := end12 hheap hfp hfin rfl rfl rfl rfl (show _ = s_h false 5 (ts.map tokP) 0 0 0 from rfl) (r := scanP (.ok ts)) rfl
     exact ⟨v, h6, v, M', B', rfl, h7⟩
    | err a b e =>
     rw [hsc] at hq
     obtain ⟨rfl, hq⟩ := hq
     refine wpIn_ret ?_
     show LeavesInM Fence.wide 0 Tryz.prog Tryz.f99 a4.tmps _ ({ target := .collected w4.heap.size, args := #[] } :: a4.defers) .returning _
     rw [hd4, hd2, hd1]
     refine ⟨by simp, .inl ⟨w4.heap.size, _, rfl, run_takeDeferred hD, ?_⟩⟩
     rw [hq] at hall
     have hsh := putObj_d (m0 := 0) hall.inv hoD hD (.deferred none)
     have hfin := hGa.trans (leave_good hI4 (hall.weak (show 0 ≤ 4 by decide)) hsh)
     obtain ⟨v, h6, M', B', h7⟩ := end12 hheap hfp hfin rfl rfl rfl rfl (show _ = s_h true 0 [] a b e from rfl) (r := scanP (.err a b e)) rfl
     exact ⟨v, h6, v, M', B', rfl, h7⟩
end Go.Proofs.YtcdceiloganlnaaGreatDoor
namespace Go.Proofs
open Go.Shelf
def Tryz.lays105_ren:Go.Shelf.Ren:=⟨fun|105=>30|212=>119|99=>120|165=>51|166=>52|170=>121|169=>53|263=>211|264=>212|206=>213|240=>162|241=>163|276=>238|277=>239|n=>n,fun|46=>175|109=>176|72=>119|76=>123|51=>260|146=>261|53=>263|148=>264|70=>116|37=>117|75=>122|127=>223|164=>276|80=>125|n=>n,id⟩
theorem Tryz.lays105 : Lays.n105 Tryz.prog Tryz.lays105_ren:=by constructor<;>first|kernel_rfl|(intro w;kernel_rfl)
def Tryz.lays144_ren:Go.Shelf.Ren:=⟨fun|144=>41|143=>157|219=>236|217=>293|225=>294|224=>295|267=>296|266=>331|314=>332|n=>n,fun|46=>175|146=>261|51=>260|n=>n,fun|1=>0|n=>n⟩
theorem Tryz.lays144 : Lays.n144 Tryz.prog Tryz.lays144_ren:=by constructor<;>first|kernel_rfl|(intro w;kernel_rfl)
end Go.Proofs
namespace Go.Proofs.YtcdceiloganlnaaGreatDoor
open Go.RowKit Go.Shelf
theorem ev_below {P : Program} {g : FuncId} {args : List PV} {r : PV} {v : Value} (hc : callable P g = true) (hr : ∀ M B, Rep M B r v) (ho : r.own = false)
 (h : ∀ (M : Mem) (w : World) (vals : Array Value), memOK M w → Reps M [] args vals.toList → Calls P g vals w fun e w' => e = .returned v ∧ Below w.heap.size w w') : Ev P g args [] r [] := by
 refine ⟨hc, fun out M B w vals hmem hheap hcnt hnew hv => ?_⟩
 have hB : B = [] := List.eq_nil_of_length_eq_zero (by have := hheap.1; simpa using this.symm)
 subst hB
 refine (h M w vals hmem hv).mono ?_
 rintro e w' ⟨rfl, hb⟩
 have hz : ∀ w b, ownH w [] [] b = 0 := fun w b => by simp [ownH]
 refine ⟨v, M, [], rfl, fun b o u e => ?_, MLe.refl _ _, ⟨hb.os, hb.tape, hb.output, hb.size, fun b hlt _ => ⟨hb.block b hlt, fun _ => rfl⟩⟩, ⟨rfl, fun i cs hi => by simp at hi⟩, hr M [], tl_no ho, fun b hb' => ?_, fun b => ?_, fun b hb' => ?_⟩
 ·obtain ⟨h1, h2⟩ := hmem b o u e
  have := World.block_lt_of_cell? _ _ h1
  exact ⟨(World.cell?_of_block (hb.block b this)).trans h1, h2⟩
 ·rw [hz, ownV_no ho]; omega
 ·have := hcnt b; rw [hz] at this; rw [hz, ownV_no ho]; omega
 ·have := hnew b (Nat.le_trans hb.size hb'); rw [hz] at this; rw [hz, ownV_no ho]; omega
def strsOf : List PV → Option (List ByteArray)
 | [] => some []
 | .str s :: l => (strsOf l).map (s :: ·)
 | _ => none
theorem strsOf_spec : ∀ {es : List PV} {xs : List ByteArray}, strsOf es = some xs → es = xs.map .str
 | [], xs, h => by simp [strsOf] at h; subst h; rfl
 | p :: es, xs, h => by
  unfold strsOf at h
  split at h
  ·rename_i e; cases e
  ·rename_i s l e
   injection e with e1 e2; subst e1; subst e2
   cases hl : strsOf es with
   | none => simp [hl] at h
   | some ys => simp [hl] at h; subst h; rw [strsOf_spec hl]; rfl
  ·cases h
def joinB (xs : List ByteArray) (sep : ByteArray) : List UInt8 := Lib.join (xs.map (·.data.toList)) sep.data.toList
theorem flats_strs (xs : List ByteArray) : PV.flats (xs.map .str) = true := by
 induction xs with
 | nil => rfl
 | cons x xs ih => rw [List.map_cons]; simp [PV.flats, PV.flat, ih]
theorem vals_two {M : Mem} {B : Blk} {p q : PV} {vals : Array Value} (hv : Reps M B [p, q] vals.toList) : ∃ u v, vals = #[u, v] ∧ Rep M B p u ∧ Rep M B q v := by
 obtain ⟨u1, us, e1, r1, hv⟩ := reps_cons.1 hv
 obtain ⟨u2, us, rfl, r2, hv⟩ := reps_cons.1 hv
 rw [reps_nil] at hv; subst hv
 exact ⟨u1, u2, by rw [← Array.toList_inj]; exact e1, r1, r2⟩
theorem ev_join (o : Bool) (xs : List ByteArray) (sep : ByteArray) (h1 : (joinB xs sep).length ≤ 140737488355328) (h2 : xs.length ≤ 140737488355328) : Ev Tryz.prog 15 [.sl o 1 (xs.map .str), .str sep] [] (.str ⟨(joinB xs sep).toArray⟩) [] := by
 refine ev_below (v := .string ⟨(joinB xs sep).toArray⟩) (by kernel_rfl) (fun _ _ => rep_str.2 rfl) rfl fun M w vals hmem hv => ?_
 obtain ⟨u, v, rfl, hu, hv⟩ := vals_two hv
 rw [rep_str.1 hv]
 obtain ⟨A, cap, rfl, hle, _, _, hA⟩ := rep_sl.1 hu
 rw [List.length_map] at hle ⊢
 by_cases hx : xs = []
 ·subst hx
  refine (join_none A cap sep w).mono ?_
  rintro e w' ⟨rfl, rfl⟩
  exact ⟨rfl, Below.refl _ _⟩
 ·obtain ⟨b, off, rfl, hloc⟩ := hA (by simpa using hx)
  have hcells : ∀ (j : Nat) x, xs[j]? = some x → w.cell? ⟨b, off + j, none⟩ = some (.string x) := fun j x hj => by
   have hl := locs_get hloc (show (xs.map PV.str)[j]? = some (.str x) by rw [List.getElem?_map, hj]; rfl)
   obtain ⟨u, hu1, hu2⟩ := (loc_of_one rfl).1 hl
   rw [Nat.mul_one] at hu1
   rw [rep_str.1 hu2] at hu1
   exact (hmem _ _ _ hu1).1
  have hbk : b < w.heap.size := by
   match xs, hx with
   | x :: r, _ => exact World.block_lt_of_cell? _ _ (hcells 0 x rfl)
  exact join_run b off cap xs sep w hcells hbk h2 hle h1
theorem post_same {h : Objs} {B : Blk} {out : Nat → Nat} {M : Mem} {w : World} {r : PV} {v : Value} (hmem : memOK M w) (hheap : HeapOK M B w h) (hcnt : ∀ b, ownH w h B b + out b ≤ 1) (hnew : ∀ b, w.heap.size ≤ b → ownH w h B b + out b = 0)
 (hr : Rep M B r v) (ho : r.own = false) : Post h B out M w r h v M B w :=
 ⟨hmem, MLe.refl _ _, Fr.refl _ _ _, hheap, hr, tl_no ho, fun b _ => by rw [ownV_no ho]; exact Nat.le_refl _, fun b => by rw [ownV_no ho]; exact hcnt b, fun b hb => by rw [ownV_no ho]; exact hnew b hb⟩
theorem one_blk {M : Mem} {B : Blk} {w : World} {o : Option (List PV)} (hheap : HeapOK M B w [o]) : ∃ c, B = [c] := by
 have := hheap.1
 match B, this with
 | [c], _ => exact ⟨c, rfl⟩
theorem vals_one {M : Mem} {B : Blk} {p : PV} {vals : Array Value} (hv : Reps M B [p] vals.toList) : ∃ u, vals = #[u] ∧ Rep M B p u := by
 obtain ⟨u1, us, e1, r1, hv⟩ := reps_cons.1 hv
 rw [reps_nil] at hv; subst hv
 exact ⟨u1, by rw [← Array.toList_inj]; exact e1, r1⟩
theorem ev_copyCheck (l : List UInt8) : Ev Tryz.prog 162 [.ptr 0 0] [some [.bld 119 0, .slT l]] (.tuple []) [some [.bld 119 0, .slT l]] := by
 refine ⟨by kernel_rfl, fun out M B w vals hmem hheap hcnt hnew hv => ?_⟩
 obtain ⟨c, rfl⟩ := one_blk hheap
 obtain ⟨u, rfl, hu⟩ := vals_one hv
 obtain ⟨c', ⟨hc', _⟩, rfl⟩ := rep_ptr.1 hu
 simp at hc'; subst hc'
 obtain ⟨c', hc', vs, ty, o1, ⟨o2, o2'⟩, o3, o4, o5⟩ := hheap.2 0 _ rfl
 simp at hc'; subst hc'
 obtain ⟨v0, hv0, hr0, _, _⟩ := o4 0 _ rfl
 obtain ⟨c2, hc2, hp⟩ := rep_bld.1 hr0
 simp at hc2; subst hc2
 obtain ⟨hc3, hp⟩ := hp.2 (by decide)
 have hs2 : vs.size = 2 := by rw [o2, hc3]
 have ht2 : ty = 119 + 1 := by rw [o2', hc3]
 subst ht2
 obtain ⟨ty, hty, o1⟩ := rowAt_inv o1 (by decide)
 have ht2 : ty = 119 := by injection hty with h; exact h.symm
 have hcell : w.cell? ⟨c.1, 0, none⟩ = some v0 := by simp [World.cell?, o1, hv0]
 rcases hp with rfl | rfl
 ·refine (cc_fresh c.1 w hcell (by simp [World.shape?, o1, hs2, ht2]) (by simp [World.frozen?, o1])).mono ?_
  rintro e w' ⟨rfl, rfl⟩
  have hI : Inv 0 M [c] out ⟨slots0 0 [], [some [.bld 119 0, .slT l]]⟩ (#[] ++ Array.replicate (0 - 0) undef) w := start_inv (vals := #[]) (args := []) (by simp) hmem hheap hcnt hnew (reps_nil.2 rfl)
  have hfp := fun (t : Array Value) (w : World) b => slots0_fp (B := [c]) (args := []) (h := [some [.bld 119 0, .slT l]]) t w b
  obtain ⟨g1, g2, g3, _, _⟩ := hI.setCell (i := 0) (j := 0) (p := .bld 119 0) (v := .pointer (some ⟨c.1, 0, none⟩)) rfl rfl (by rw [hc3]; decide) (by simp) (rep_bld.2 ⟨c, rfl, (fun h => absurd h (by decide)), fun _ => ⟨hc3, .inr rfl⟩⟩) (tl_no rfl) rfl (fun b => by rw [hfp, ownV_no rfl]; exact hcnt b) (fun b _ => ownV_no rfl _ _)
  have k1 : Inv 0 M [c] out ⟨slots0 0 [], [some [.bld 119 0, .slT l]]⟩ (#[] ++ Array.replicate (0 - 0) undef) (w.setCell ⟨c.1, 0, none⟩ (.pointer (some ⟨c.1, 0, none⟩))) := g1
  have k2 : ∀ b, fp [c] ⟨slots0 0 [], [some [.bld 119 0, .slT l]]⟩ (#[] ++ Array.replicate (0 - 0) undef) (w.setCell ⟨c.1, 0, none⟩ (.pointer (some ⟨c.1, 0, none⟩))) b ≤ fp [c] ⟨slots0 0 [], [some [.bld 119 0, .slT l]]⟩ (#[] ++ Array.replicate (0 - 0) undef) w b + ownV (.bld 119 0) (.pointer (some ⟨c.1, 0, none⟩)) b := g2
  refine ⟨_, M, [c], rfl, ⟨k1.mem, MLe.refl _ _, g3.mono fun b hb h0 => by rw [hfp]; exact h0, k1.heap, rep_tuple.2 ⟨_, rfl, reps_nil.2 rfl⟩, tl_no rfl, fun b hb => ?_, fun b => ?_, fun b hb => ?_⟩⟩
  ·have h := k2 b
   rw [hfp, hfp, ownV_no rfl] at h
   rw [ownV_no rfl]; exact h
  ·have h := k1.cnt b
   rw [hfp] at h
   rw [ownV_no rfl]; exact h
  ·have h := k1.new b hb
   rw [hfp] at h
   rw [ownV_no rfl]; exact h
 ·refine (cc_used c.1 w hcell).mono ?_
  rintro e w' ⟨rfl, rfl⟩
  exact ⟨_, M, [c], rfl, post_same hmem hheap hcnt hnew (rep_tuple.2 ⟨_, rfl, reps_nil.2 rfl⟩) rfl⟩
theorem str_post {c : Nat × Nat × TypeId} {out : Nat → Nat} {M : Mem} {w w2 : World} {l : List UInt8} {v : Value} {vs : Array Value} (hmem : memOK M w) (hheap : HeapOK M [c] w [some [.bld 119 0, .slT l]]) (hcnt : ∀ b, ownH w [some [.bld 119 0, .slT l]] [c] b + out b ≤ 1) (hnew : ∀ b, w.heap.size ≤ b → ownH w [some [.bld 119 0, .slT l]] [c] b + out b = 0)
 {ty : TypeId} (hrow : w.heap[c.1]? = some (.cells vs ty (0, 0))) (hv : vs[1]? = some v) (h1 : ∀ x, x < w.heap.size → ownV (.slT l) v x = 0 → w2.heap[x]? = w.heap[x]?) (h2 : ∀ b o u, w.cell? ⟨b, o, none⟩ = some u → w2.cell? ⟨b, o, none⟩ = some u)
 (hos : w2.os = w.os) (htape : w2.tape = w.tape) (hout : w2.output = w.output) (hsize : w.heap.size ≤ w2.heap.size) :
 Post [some [.bld 119 0, .slT l]] [c] out M w (.str ⟨l.toArray⟩) [some [.bld 119 0, .sl false 1 (bytesPV l)]] (.string ⟨l.toArray⟩) M [c] w2 := by
 obtain ⟨c', hc', vs', ty', o1, o2, o3, o4, o5⟩ := hheap.2 0 _ rfl
 simp at hc'; subst hc'
 rw [rowAt_of hrow] at o1
 injection o1 with o1; injection o1 with e1 e2; subst e1; subst e2
 have hcl : cellsAt w c.1 = vs.toList := by simp [cellsAt, rowAt_of hrow]
 have hvl : vs.toList[1]? = some v := by simpa using hv
 have hown : ∀ b, (if c.1 = b then 1 else 0) + ownV (.slT l) v b ≤ ownH w [some [.bld 119 0, .slT l]] [c] b := fun b => by
  have g1 := ownH_get (w := w) (h := [some [.bld 119 0, .slT l]]) (B := [c]) (i := 0) b rfl rfl
  have g2 := ownC_get (cs := [.bld 119 0, .slT l]) (vs := vs.toList) (j := 1) b rfl hvl
  rw [hcl] at g1; omega
 have hc0 : ownV (.slT l) v c.1 = 0 := by
  have := hown c.1; have := hcnt c.1
  rw [if_pos rfl] at *; omega
 have hlt : c.1 < w.heap.size := (Array.getElem?_eq_some_iff.1 hrow).1
 have hrow2 : w2.heap[c.1]? = some (.cells vs ty (0, 0)) := (h1 c.1 hlt hc0).trans hrow
 have hown2 : ∀ b, ownH w2 [some [.bld 119 0, .sl false 1 (bytesPV l)]] [c] b ≤ if c.1 = b then 1 else 0 := fun b => by
  simp only [ownH]
  have : ∀ vl, ownC [.bld 119 0, .sl false 1 (bytesPV l)] vl b = 0 := fun vl => by
   match vl with
   | [] => rfl
   | [x] => simp [ownC, ownV, PV.own]
   | x :: y :: r => simp [ownC, ownV, PV.own]
  rw [this]; omega
 refine ⟨fun b o u e => ?_, MLe.refl _ _, ⟨hos, htape, hout, hsize, fun b hb h0 => ⟨h1 b hb (by have := hown b; omega), fun _ => rfl⟩⟩, ⟨rfl, fun i cs hi => ?_⟩, rep_str.2 rfl, tl_no rfl, fun b hb => ?_, fun b => ?_, fun b hb => ?_⟩
 ·obtain ⟨g1, g2⟩ := hmem b o u e
  exact ⟨h2 b o u g1, g2⟩
 ·match i, hi with
  | 0, hi =>
   simp at hi; subst hi
   refine ⟨c, rfl, vs, ty + 1, rowAt_of hrow2, o2, by simpa using o3, fun j p hj => ?_, o5⟩
   match j, hj with
   | 0, hj =>
    simp at hj; subst hj
    obtain ⟨u, a1, a2, a3, a4⟩ := o4 0 _ rfl
    exact ⟨u, a1, a2, tl_no rfl, a4⟩
   | 1, hj =>
    simp at hj; subst hj
    obtain ⟨u, a1, a2, a3, a4⟩ := o4 1 _ rfl
    exact ⟨u, a1, rep_slT_un.2 a2, tl_no rfl, a4⟩
   | j + 2, hj => simp at hj
  | i + 1, hi => simp at hi
 ·rw [ownV_no rfl]; have := hown2 b; have := hown b; omega
 ·rw [ownV_no rfl]; have := hown2 b; have := hown b; have := hcnt b; omega
 ·rw [ownV_no rfl]; have := hown2 b; have := hown b; have := hnew b (Nat.le_trans hsize hb); omega
section
variable {P : Program} {ρ : Ren}
set_option maxHeartbeats 2000000 in
set_option maxRecDepth 100000 in
theorem str_run (L : Lays.n169 P ρ) (X : Builder.Extra P ρ) (T : TypeId) (b n cap : Nat) (A q : Option Addr) (p : Value) (r : ByteArray) (w w2 : World) (hbk : w.heap[b]? = some (.cells #[p, .slice A n cap] T (0, 0)))
 (hSD : (Builtin.unsafeSliceData_ #[(ρ.t 37)] (ρ.t 127) #[.slice A n cap]).run P w.drew = .ok (.pointer q) w.drew)
 (hUS : (Builtin.unsafeString_ #[(ρ.t 127), (ρ.t 3)] (ρ.t 9) #[.pointer q, .int .i64 n]).run P w.drew = .ok (.string r) w2) :
 Calls P (ρ.f 169) #[.pointer (some ⟨b, 0, none⟩)] w fun e w' => e = .returned (.string r) ∧ w' = w2 := by
 have c1 : w.drew.cell? ⟨b, 1, none⟩ = some (.slice A n cap) := by
  have : w.drew.heap[b]? = some (.cells #[p, .slice A n cap] T (0, 0)) := hbk
  rw [Lib.cell_of_heap this]; rfl
 have mixed := L.mixed
 have t72 := L.t72; have a72 := L.a72; have z72 := L.z72; have v72 := L.v72; have u72 := run_underlying L.t72
 have t70 := L.t70; have a70 := L.a70; have z70 := L.z70; have v70 := L.v70; have u70 := run_underlying L.t70
 have t37 := L.t37; have a37 := L.a37; have z37 := L.z37; have v37 := L.v37; have u37 := run_underlying L.t37
 have t127 := L.t127; have a127 := L.a127; have z127 := L.z127; have v127 := L.v127; have u127 := run_underlying L.t127
 have t3 := L.t3; have a3 := L.a3; have z3 := L.z3; have v3 := L.v3; have u3 := run_underlying L.t3
 have t9 := L.t9; have a9 := L.a9; have z9 := L.z9; have v9 := L.v9; have u9 := run_underlying L.t9
 have t5 := X.t5; have a5 := X.a5; have z5 := X.z5; have v5 := X.v5; have u5 := run_underlying X.t5
 go_enter L.f169, Body.n169_ntmps ρ
 go_wp2
 go_region_o
 all_goals (go_wp2; go_ret; exact ⟨rfl, rfl⟩)
set_option maxHeartbeats 2000000 in
set_option maxRecDepth 100000 in
theorem str_run0 (L : Lays.n169 P ρ) (X : Builder.Extra P ρ) (T : TypeId) (b g : Nat) (cur : Array Value) (p : Value) (w : World) (hbk : w.heap[b]? = some (.cells #[p, .slice (some ⟨g, 0, none⟩) 0 0] T (0, 0))) (hg : w.heap[g]? = some (.cells cur (ρ.t 5) (0, 0))) :
 Calls P (ρ.f 169) #[.pointer (some ⟨b, 0, none⟩)] w fun e w' => e = .returned (.string ⟨#[]⟩) ∧ ∃ u : World, u.heap = w.heap ∧ u.os = w.os ∧ u.tape = w.tape ∧ u.output = w.output ∧ w' = u.alloc (.view ⟨g, 0, none⟩ (ρ.t 5)) := by
 have hUS := Any.unsafeString_none L X
 have hlt : b < w.heap.size := (Array.getElem?_eq_some_iff.1 hbk).1
 have c1 : w.drew.cell? ⟨b, 1, none⟩ = some (.slice (some ⟨g, 0, none⟩) 0 0) := by
  have : w.drew.heap[b]? = some (.cells #[p, .slice (some ⟨g, 0, none⟩) 0 0] T (0, 0)) := hbk
  rw [Lib.cell_of_heap this]; rfl
 have hSD : (Builtin.unsafeSliceData_ #[(ρ.t 37)] (ρ.t 127) #[.slice (some ⟨g, 0, none⟩) 0 0]).run P w.drew = .ok (.pointer (some ⟨w.drew.heap.size, 0, none⟩)) (w.drew.alloc (.view ⟨g, 0, none⟩ (ρ.t 5))) :=
  Lib.run_unsafeSliceData_zero w.drew _ _ (ρ.t 5) L.t127 ⟨g, 0, none⟩ 0 ((ρ.t 5), cur.size) (by have hg' : w.drew.heap[g]? = some (.cells cur (ρ.t 5) (0, 0)) := hg; simp [World.shape?, hg'])
 have c2 : (w.drew.alloc (.view ⟨g, 0, none⟩ (ρ.t 5))).cell? ⟨b, 1, none⟩ = some (.slice (some ⟨g, 0, none⟩) 0 0) := by
  have : (w.drew.alloc (.view ⟨g, 0, none⟩ (ρ.t 5))).heap[b]? = _ := (Lib.alloc_old w.drew _ b hlt).trans hbk
  rw [Lib.cell_of_heap this]; rfl
 have c3 : (w.alloc (.view ⟨g, 0, none⟩ (ρ.t 5))).drew.cell? ⟨b, 1, none⟩ = some (.slice (some ⟨g, 0, none⟩) 0 0) := c2
 have c0 : w.cell? ⟨b, 1, none⟩ = some (.slice (some ⟨g, 0, none⟩) 0 0) := c1
 have mixed := L.mixed
 have t72 := L.t72; have a72 := L.a72; have z72 := L.z72; have v72 := L.v72; have u72 := run_underlying L.t72
 have t70 := L.t70; have a70 := L.a70; have z70 := L.z70; have v70 := L.v70; have u70 := run_underlying L.t70
 have t37 := L.t37; have a37 := L.a37; have z37 := L.z37; have v37 := L.v37; have u37 := run_underlying L.t37
 have t127 := L.t127; have a127 := L.a127; have z127 := L.z127; have v127 := L.v127; have u127 := run_underlying L.t127
 have t3 := L.t3; have a3 := L.a3; have z3 := L.z3; have v3 := L.v3; have u3 := run_underlying L.t3
 have t9 := L.t9; have a9 := L.a9; have z9 := L.z9; have v9 := L.v9; have u9 := run_underlying L.t9
 have t5 := X.t5; have a5 := X.a5; have z5 := X.z5; have v5 := X.v5; have u5 := run_underlying X.t5
 go_enter L.f169, Body.n169_ntmps ρ
 go_wp2
 go_region_o
 all_goals (go_wp2; go_ret; exact ⟨rfl, w.drew, rfl, rfl, rfl, rfl, rfl⟩)
end
theorem freeze_other {w : World} {b g n : Nat} (hb : b ≠ g) : (w.drew.freeze ⟨g, 0, none⟩ n).heap[b]? = w.heap[b]? := by
 unfold World.freeze
 split
 ·rfl
 ·show (w.heap.modify g _)[b]? = _
  rw [Array.getElem?_modify, if_neg (Ne.symm hb)]
theorem freeze_at {w : World} {g n : Nat} {cs : Array Value} {ty : TypeId} (h : w.heap[g]? = some (.cells cs ty (0, 0))) (hn : n ≠ 0) : (w.drew.freeze ⟨g, 0, none⟩ n).heap[g]? = some (.cells cs ty (0, 0 + n)) := by
 unfold World.freeze
 rw [if_neg hn]
 show (w.heap.modify g _)[g]? = _
 rw [Array.getElem?_modify, if_pos rfl, h]
 rfl
theorem ev_String (l : List UInt8) : Ev Tryz.prog 53 [.ptr 0 0] [some [.bld 119 0, .slT l]] (.str ⟨l.toArray⟩) [some [.bld 119 0, .sl false 1 (bytesPV l)]] := by
 refine ⟨by kernel_rfl, fun out M B w vals hmem hheap hcnt hnew hv => ?_⟩
 obtain ⟨c, rfl⟩ := one_blk hheap
 obtain ⟨u, rfl, hu⟩ := vals_one hv
 obtain ⟨c', ⟨hc', _⟩, rfl⟩ := rep_ptr.1 hu
 simp at hc'; subst hc'
 obtain ⟨c', hc', vs, ty, o1, ⟨o2, o2'⟩, o3, o4, o5⟩ := hheap.2 0 _ rfl
 simp at hc'; subst hc'
 obtain ⟨v0, hv0, hr0, _, _⟩ := o4 0 _ rfl
 obtain ⟨c2, hc2, hp⟩ := rep_bld.1 hr0
 simp at hc2; subst hc2
 obtain ⟨hc3, _⟩ := hp.2 (by decide)
 obtain ⟨v1, hv1, hr1, ht1, _⟩ := o4 1 _ rfl
 have hs2 : vs.size = 2 := by rw [o2, hc3]
 have ht2 : ty = 119 + 1 := by rw [o2', hc3]
 subst ht2
 obtain ⟨ty, hty, o1⟩ := rowAt_inv o1 (by decide)
 have ht2 : ty = 119 := by injection hty with h; exact h.symm
 subst ht2
 have hvs : vs = #[v0, v1] := by
  apply Array.ext'
  match hl : vs.toList, (show vs.toList.length = 2 by simpa using hs2) with
  | [x, y], _ =>
   have e0 : vs.toList[0]? = some v0 := by simpa using hv0
   have e1 : vs.toList[1]? = some v1 := by simpa using hv1
   rw [hl] at e0 e1
   simp at e0 e1
   rw [e0, e1]
 have hrow : w.heap[c.1]? = some (.cells #[v0, v1] 119 (0, 0)) := by rw [← hvs]; exact o1
 obtain ⟨A, cap, rfl, hle, hA⟩ := rep_slT.1 hr1
 obtain ⟨t1, t2⟩ := ht1.t l A _ cap rfl rfl
 have hkeep : ∀ b o u, w.cell? ⟨b, o, none⟩ = some u → w.drew.cell? ⟨b, o, none⟩ = some u := fun _ _ _ h => h
 have hpost := fun (w2 : World) h1 h2 a1 a2 a3 a4 => str_post (w2 := w2) hmem hheap hcnt hnew o1 hv1 h1 h2 a1 a2 a3 a4
 cases A with
 | none =>
  have hc0 := t1 rfl
  subst hc0
  have hl : l = [] := List.eq_nil_of_length_eq_zero (by omega)
  subst hl
  refine (str_run Tryz.lays169 bx169 119 c.1 0 0 none none v0 ⟨#[]⟩ w w.drew hrow rfl (Any.unsafeString_none Tryz.lays169 bx169 _ _)).mono ?_
  rintro e w' ⟨rfl, rfl⟩
  exact ⟨_, M, [c], rfl, hpost w.drew (fun _ _ _ => rfl) hkeep rfl rfl rfl (Nat.le_refl _)⟩
 | some a =>
  obtain ⟨cs, g1, g2, g3, g4, g5, g6⟩ := t2 a rfl
  obtain ⟨g, off, sp⟩ := a
  simp only at g1 g4 g5 g6
  subst g5; subst g6
  by_cases hl : l = []
  ·subst hl
   by_cases hc0 : cap = 0
   ·subst hc0
    refine (str_run0 Tryz.lays169 bx169 119 c.1 g cs v0 w hrow g1).mono ?_
    rintro e w' ⟨rfl, x, x1, x2, x3, x4, rfl⟩
    have hold : ∀ b, b < w.heap.size → (x.alloc (.view ⟨g, 0, none⟩ (Tryz.lays169_ren.t 5))).heap[b]? = w.heap[b]? := fun b hb => by
     rw [← x1]; exact Below.heap_alloc _ _ b (by rw [x1]; exact hb)
    refine ⟨_, M, [c], rfl, hpost _ (fun b hb _ => hold b hb) (fun b o u h => ?_) x2 x3 x4 (by rw [World.size_alloc, x1]; omega)⟩
    exact (World.cell?_of_block (hold b (World.block_lt_of_cell? _ _ h))).trans h
   ·refine (str_run Tryz.lays169 bx169 119 c.1 0 cap (some ⟨g, 0, none⟩) (some ⟨g, 0, none⟩) v0 ⟨#[]⟩ w w.drew hrow (Lib.run_unsafeSliceData_row _ _ _ _ _ _ hc0) (Any.unsafeString_none Tryz.lays169 bx169 _ _)).mono ?_
    rintro e w' ⟨rfl, rfl⟩
    exact ⟨_, M, [c], rfl, hpost w.drew (fun _ _ _ => rfl) hkeep rfl rfl rfl (Nat.le_refl _)⟩
  ·have hlen : l.length ≠ 0 := fun h => hl (List.eq_nil_of_length_eq_zero h)
   obtain ⟨b', off', e1, hcells⟩ := hA hl
   cases e1
   refine (str_run Tryz.lays169 bx169 119 c.1 l.length cap (some ⟨g, 0, none⟩) (some ⟨g, 0, none⟩) v0 ⟨l.toArray⟩ w (w.drew.freeze ⟨g, 0, none⟩ l.length) hrow (Lib.run_unsafeSliceData_row _ _ _ _ _ _ (by omega)) ?_).mono ?_
   ·refine Lib.run_unsafeString_row w.drew _ _ _ (Tryz.lays169_ren.t 5) (Lays.n169.t127 Tryz.lays169) (Builder.Extra.cellsByte bx169) g cs.size (by have hg' : w.drew.heap[g]? = some (.cells cs byteT (0, 0)) := g1; simp [World.shape?, hg']; rfl) l hl (by omega) (by unfold maxLen at g3; omega) ?_
    intro j x hx
    have h := (hmem g (0 + j) _ (hcells j x hx)).1
    rw [Nat.zero_add] at h
    have e : (⟨g, 0, none⟩ : Addr).add j = ⟨g, j, none⟩ := by
     unfold Addr.add
     split
     ·rename_i h0; rw [h0]
     ·rw [Nat.zero_add]
    rw [e]; exact h
   ·rintro e w' ⟨rfl, rfl⟩
    refine ⟨_, M, [c], rfl, hpost _ (fun b hb h0 => ?_) (fun b o u h => ?_) ?_ ?_ ?_ ?_⟩
    ·have hbg : b ≠ g := fun e => by subst e; simp [ownV, PV.own] at h0
     exact freeze_other hbg
    ·by_cases hbg : b = g
     ·subst hbg
      unfold World.cell? at h ⊢
      simp only [freeze_at g1 hlen]
      simp only [g1] at h; exact h
     ·exact (World.cell?_of_block (freeze_other hbg)).trans h
    ·unfold World.freeze; rw [if_neg hlen]; rfl
    ·unfold World.freeze; rw [if_neg hlen]; rfl
    ·unfold World.freeze; rw [if_neg hlen]; rfl
    ·unfold World.freeze; rw [if_neg hlen]
     show w.heap.size ≤ (w.heap.modify g _).size
     simp
theorem flats_strsL (l : List (List UInt8)) : PV.flats (strsL l) = true := by
 have : strsL l = (l.map fun x : List UInt8 => (⟨x.toArray⟩ : ByteArray)).map PV.str := by simp [strsL, Function.comp_def]
 rw [this]; exact flats_strs _
def ITOAB : Int := 4611686018427387904
def CS : Cal := fun g args h => match g, args, h with
 | 99, [.str s], h => some (scanP (scanT s.data.toList), h)
 | 35, [.int .i64 n], h => (match decide (0 ≤ n) && decide (n < ITOAB) with | true => some (.str ⟨(Lib.decDigits n.toNat).toArray⟩, h) | false => none)
 | 293, [.str s, .int .u8 c], h => some (.int .i64 (Lib.indexByte s.data.toList c.toNat.toUInt8), h)
 | 30, [.str s, .int .i64 n], h => (match decide (0 ≤ n) && (Nat.ble n.toNat 9223372036854775807 && Nat.ble (s.size * n.toNat) 140737488355328) with
  | true => some (.str ⟨(Lib.repeatL s.data.toList n.toNat).toArray⟩, h)
  | false => none)
 | 41, [.str s, .str x], h => (match Nat.ble s.size 1073741824 with
  | true => some (.bool (Lib.contains s.data.toList x.data.toList), h)
  | false => none)
 | 15, [.sl _ 1 es, .str sep], h => (match strsOf es with
  | some xs => (match Nat.ble (joinB xs sep).length 140737488355328 && Nat.ble xs.length 140737488355328 with
   | true => some (.str ⟨(joinB xs sep).toArray⟩, h)
   | false => none)
  | none => none)
 | 53, [.ptr 0 0], [some [.bld 119 0, .slT l]] => some (.str ⟨l.toArray⟩, [some [.bld 119 0, .sl false 1 (bytesPV l)]])
 | 162, [.ptr 0 0], [some [.bld 119 0, .slT l]] => some (.tuple [], [some [.bld 119 0, .slT l]])
 | 39, [.str s, .str ⟨⟨[c]⟩⟩], h => (match Nat.ble s.size 1073741824 with
  | true => some (.sl false 1 (strsL (splitC c s.data.toList)), h)
  | false => none)
 | _, _, _ => none
theorem pow_at {M : Mem} {w : World} (hm : memOK M w) : PowAt Tryz.prog Tryz.laysM171_ren w := fun i hi => by
 refine (hm _ i _ (M.g _ _ _ ?_)).1
 show Glob M.m (Tryz.laysM171_ren.g 17) i = _
 have e : (tabsG M.m).lookup (Tryz.laysM171_ren.g 17) = some (Lib.pow10Tab.map (Value.int .u64)) := by kernel_rfl
 unfold Glob
 rw [e, Option.bind_some, List.getElem?_map]
 unfold Lib.pow10Tab
 simp [hi]
theorem ev_itoa (n : Int) (h0 : 0 ≤ n) (h1 : n < ITOAB) (h : Objs) : Ev Tryz.prog 35 [.int .i64 n] h (.str ⟨(Lib.decDigits n.toNat).toArray⟩) h := by
 unfold ITOAB at h1
 have ev : ∀ {M : Mem} {B : Blk} {vals : Array Value}, Reps M B [.int .i64 n] vals.toList → vals = #[.int .i64 n] := fun hv => by
  obtain ⟨u1, us, e1, r1, hv⟩ := reps_cons.1 hv
  rw [reps_nil] at hv; subst hv
  rw [rep_int] at r1; subst r1
  rw [← Array.toList_inj]; exact e1
 by_cases hs : n < 100
 ·refine ev_still (v := .string ⟨(Lib.decDigits n.toNat).toArray⟩) (by kernel_rfl) (fun _ _ => rep_str.2 rfl) rfl (fun M B w vals hv => ?_) h
  rw [ev hv]
  have := itoa_small n.toNat (by omega) w
  rwa [Int.toNat_of_nonneg h0] at this
 ·refine (ev_below (v := .string ⟨(Lib.decDigits n.toNat).toArray⟩) (by kernel_rfl) (fun _ _ => rep_str.2 rfl) rfl fun M w vals hm hv => ?_).frame' rfl rfl h
  rw [ev hv]
  have := itoa_run Tryz.laysM171 n.toNat (by omega) (by omega) w (pow_at hm)
  rwa [Int.toNat_of_nonneg h0] at this
theorem vals_two' {M : Mem} {B : Blk} {p q : PV} {vals : Array Value} (hv : Reps M B [p, q] vals.toList) : ∃ u v, vals = #[u, v] ∧ Rep M B p u ∧ Rep M B q v := vals_two hv
theorem bx105 : Builder.Extra Tryz.prog Tryz.lays105_ren where
 sizeBuilder := by kernel_rfl
 liesBuilder := by kernel_rfl
 t5 := Tryz.underlying5
 a5 := Tryz.isAgg5
 z5 := Tryz.sizeOf5
 v5 := Tryz.zeroValue5
 infoByte := by kernel_rfl
 cellsByte := by kernel_rfl
 sizeByte := by kernel_rfl
 neB5 := by decide
theorem repeat_run (s : ByteArray) (c : Nat) (w : World) (hc : c ≤ 9223372036854775807) (hlen : s.size * c ≤ 140737488355328) :
 Calls Tryz.prog 30 #[.string s, .int .i64 c] w fun e w' => e = .returned (.string ⟨(Lib.repeatL s.data.toList c).toArray⟩) ∧ Below w.heap.size w w' :=
 Any.strings_Repeat Tryz.lays105 bx105 s c w hc hlen
theorem ev_repeat (s : ByteArray) (n : Int) (h0 : 0 ≤ n) (h1 : n.toNat ≤ 9223372036854775807) (h2 : s.size * n.toNat ≤ 140737488355328) : Ev Tryz.prog 30 [.str s, .int .i64 n] [] (.str ⟨(Lib.repeatL s.data.toList n.toNat).toArray⟩) [] := by
 refine ev_below (v := .string ⟨(Lib.repeatL s.data.toList n.toNat).toArray⟩) (by kernel_rfl) (fun _ _ => rep_str.2 rfl) rfl fun M w vals hmem hv => ?_
 obtain ⟨u, v, rfl, hu, hv⟩ := vals_two hv
 rw [rep_str.1 hu, rep_int.1 hv]
 have := repeat_run s n.toNat w h1 h2
 rwa [Int.toNat_of_nonneg h0] at this
theorem max_at {M : Mem} {w : World} (hm : memOK M w) : w.cell? ⟨Tryz.lays144_ren.g 1, 0, none⟩ = some (.int .i64 M.m) := by
 refine (hm _ 0 _ (M.g _ _ _ ?_)).1
 show Glob M.m (Tryz.lays144_ren.g 1) 0 = _
 rfl
theorem ev_contains (s x : ByteArray) (h1 : s.size < 4294967281) (h : Objs) : Ev Tryz.prog 41 [.str s, .str x] h (.bool (Lib.contains s.data.toList x.data.toList)) h := by
 refine (ev_below (v := .bool (Lib.contains s.data.toList x.data.toList)) (by kernel_rfl) (fun _ _ => rep_bool.2 rfl) rfl fun M w vals hmem hv => ?_).frame' rfl rfl h
 obtain ⟨u, v, rfl, hu, hv⟩ := vals_two hv
 rw [rep_str.1 hu, rep_str.1 hv]
 refine (Any.strings_Contains Tryz.lays144 s x M.m w h1 (max_at hmem)).mono ?_
 rintro e w' ⟨rfl, rfl⟩
 exact ⟨rfl, Below.refl _ _⟩
theorem flats_tok (ts : List Tok) : PV.flats (ts.map tokP) = true := by
 induction ts with
 | nil => rfl
 | cons t ts ih => rw [List.map_cons]; simp [PV.flats, PV.flat, tokP, ih]
theorem flat_scanP (r : ScanR) : (scanP r).flat = true := by
 cases r with
 | ok ts => simp [scanP, PV.flat, PV.flats, flats_tok]
 | err a b e => rfl
theorem CS_ok : calOK Tryz.prog CS := by
 intro g args h r h' hv
 unfold CS at hv
 split at hv
 ·rename_i h s
  cases hv
  have := ev12 s.data.toList
  have e : bs s.data.toList = s := by cases s; simp [bs]
  rw [e] at this
  exact this.frame' (flat_scanP _) rfl _
 ·rename_i h n
  split at hv
  ·rename_i hc
   cases hv
   simp only [Bool.and_eq_true, decide_eq_true_eq] at hc
   exact ev_itoa n hc.1 hc.2 _
  ·cases hv
 ·rename_i h s c
  cases hv
  refine ev_still (v := .int .i64 (Lib.indexByte s.data.toList c.toNat.toUInt8)) (by kernel_rfl) (fun _ _ => rep_int.2 rfl) rfl (fun M B w vals hv => ?_) _
  obtain ⟨u, v, rfl, hu, hv⟩ := vals_two' hv
  rw [rep_str.1 hu, rep_int.1 hv]
  exact Any.stringslite_IndexByte Tryz.lays217 s c w
 ·rename_i h s n
  split at hv
  ·rename_i hc
   cases hv
   simp only [Bool.and_eq_true, decide_eq_true_eq] at hc
   exact (ev_repeat s n hc.1 (Nat.le_of_ble_eq_true hc.2.1) (Nat.le_of_ble_eq_true hc.2.2)).frame' rfl rfl _
  ·cases hv
 ·rename_i h s x
  split at hv
  ·rename_i hc
   cases hv
   exact ev_contains s x (by have := Nat.le_of_ble_eq_true hc; omega) _
  ·cases hv
 ·rename_i h o es sep
  split at hv
  ·rename_i xs hx
   split at hv
   ·rename_i hc
    cases hv
    simp only [Bool.and_eq_true] at hc
    rw [strsOf_spec hx]
    exact (ev_join o xs sep (Nat.le_of_ble_eq_true hc.1) (Nat.le_of_ble_eq_true hc.2)).frame' rfl (by simp [PV.flats, PV.flat, flats_strs]) _
   ·cases hv
  ·cases hv
 ·rename_i l
  cases hv
  exact ev_String l
 ·rename_i l
  cases hv
  exact ev_copyCheck l
 ·rename_i h s c
  split at hv
  ·rename_i hc
   cases hv
   have hc := Nat.le_of_ble_eq_true hc
   exact (ev_split s c (by omega)).frame' (by simp [PV.flat, flats_strsL]) rfl _
  ·cases hv
 ·cases hv
end Go.Proofs.YtcdceiloganlnaaGreatDoor
namespace Go.Proofs.YtcdceiloganlnaaGreatDoor
end Go.Proofs.YtcdceiloganlnaaGreatDoor

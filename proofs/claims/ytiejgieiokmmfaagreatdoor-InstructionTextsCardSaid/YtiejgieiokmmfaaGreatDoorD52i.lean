/-
  The contract of strconv.Itoa at numbers that are not negative; the table of powers of ten is among the seat's tables.
-/
import Derived.Test.YtiejgieiokmmfaaGreatDoorAbU
import Derived.Test.YtiejgieiokmmfaaGreatDoorChecked
import Derived.Shelf.LaysM
import Derived.Shelf.Lay
import Derived.Shelf.Strconv.Itoa3
namespace Go.Proofs
open Go.Shelf Go.RowKit Go.Sort Go.Lib
def Tryz.laysM171_ren:Go.Shelf.Ren:=⟨fun|171=>25|243=>48|246=>73|283=>80|284=>81|285=>82|286=>83|129=>92|317=>91|318=>93|319=>94|320=>95|337=>101|338=>102|n=>n,fun|171=>117|53=>118|37=>55|173=>121|212=>135|51=>127|213=>136|46=>112|232=>144|233=>145|n=>n,fun|17=>0|18=>4|19=>5|n=>n⟩
theorem Tryz.laysM171 : LaysM.n171 Tryz.prog Tryz.laysM171_ren:=by constructor<;>first|kernel_rfl|(intro w;kernel_rfl)|(constructor<;>first|kernel_rfl|(intro w;kernel_rfl))
namespace YtiejgieiokmmfaaGreatDoor
set_option linter.unusedVariables false
set_option linter.unusedSimpArgs false
set_option linter.unnecessarySimpa false
set_option linter.unusedSectionVars false
section
variable {P : Program} {ρ : Ren}
theorem below_grown (w : World) (k : Nat) (os : Array Obj) : Below w.heap.size w (grow (w.drewN k) os) :=
  ⟨rfl, rfl, rfl, by show w.heap.size ≤ (w.heap ++ os).size; simp, fun i hi => by show (w.heap ++ os)[i]? = _; rw [Array.getElem?_append_left hi]⟩
/-- The table's cells. -/
def PowAt (P : Program) (ρ : Ren) (w : World) : Prop := ∀ i, i < 20 → w.cell? ⟨ρ.g 17, i, none⟩ = some (.int .u64 ((10 ^ i : Nat) : Int))
theorem PowAt.alloc {w : World} (h : PowAt P ρ w) (o : Obj) : PowAt P ρ (w.alloc o) := fun i hi => by
  have hb := World.block_lt_of_cell? _ _ (h i hi)
  rw [World.cell?_alloc_old _ _ _ (Nat.ne_of_lt hb)]; exact h i hi
set_option maxHeartbeats 2000000 in
set_option maxRecDepth 100000 in
theorem digits_run (L : LaysM.n284 P ρ) (u : Nat) (h1 : 1 ≤ u) (h2 : u < 18446744073709551616) (w : World) (htab : PowAt P ρ w) :
    Calls P (ρ.f 284) #[.int .u64 u] w fun e w' => e = .returned (.int .i64 (Lib.nDigits u)) ∧ w' = w := by
  have mixed := L.mixed
  have t53 := L.t53; have a53 := L.a53; have z53 := L.z53; have v53 := L.v53
  have t3 := L.t3; have a3 := L.a3; have z3 := L.z3; have v3 := L.v3
  have t212 := L.t212; have a212 := L.a212; have z212 := L.z212; have v212 := L.v212
  have t0 := L.t0; have a0 := L.a0; have z0 := L.z0; have v0 := L.v0
  have t4 := L.t4; have a4 := L.a4; have z4 := L.z4; have v4 := L.v4
  have e129 : ∀ args w, (callFunc (ρ.f 129) args).run P w = .ok (.enter (ρ.f 129) args) w := enters_of L.f129 (by kernel_rfl) rfl
  have e317 : ∀ args w, (callFunc (ρ.f 317) args).run P w = .ok (.enter (ρ.f 317) args) w := enters_of L.f317 (by kernel_rfl) rfl
  have e318 : ∀ args w, (callFunc (ρ.f 318) args).run P w = .ok (.enter (ρ.f 318) args) w := enters_of L.f318 (by kernel_rfl) rfl
  obtain ⟨hnd, h19⟩ := Lib.numDigits_eq u h1 h2
  have hL : Lib.bitLen u ≤ 64 := Lib.bitLen_le u 64 (Nat.le_refl _) h2
  have hcell := htab (Lib.l10 (Lib.bitLen u)) (by omega)
  have hto : ((u : Int)).toNat = u := by omega
  generalize hq : Lib.l10 (Lib.bitLen u) = q at hnd h19 hcell
  generalize hT : 10 ^ q = T at hnd hcell
  have h20 : q < 20 := by omega
  have Hnd := Lib.hid hnd
  clear hnd htab
  go_enter L.f284, Body.n284_ntmps ρ
  go_wp2_with (first
    | (go_at_fn (ρ.f 129); refine (Any.bits_Len64 { L with } _ _ (by omega) (by omega)).mono ?_; rintro e w' ⟨rfl, rfl⟩)
    | (go_at_fn (ρ.f 317); refine (Any.internal_strconv_log10Pow2 { L with } _ (by first | exact hL | (rw [hto]; exact hL)) _).mono ?_; rintro e w' ⟨rfl, rfl⟩)
    | (go_at_fn (ρ.f 318); refine (Any.internal_strconv_bool2_int { L with } _ _).mono ?_; rintro e w' ⟨rfl, rfl⟩))
  all_goals go_ret
  all_goals (
    refine ⟨?_, rfl⟩
    have hnd := Hnd.out
    congr 2
    split at hnd <;> simp_all <;> omega)
set_option maxHeartbeats 6400000 in
set_option maxRecDepth 100000 in
theorem format_run (L : LaysM.n246 P ρ) (u : Nat) (hu1 : 100 ≤ u) (hu : u < 9223372036854775808) (w : World) (htab : PowAt P ρ w) :
    Calls P (ρ.f 246) #[.int .i64 u, .int .i64 10] w fun e w' => e = .returned (.string ⟨(Lib.decDigits u).toArray⟩) ∧ Below w.heap.size w w' := by
  have mixed := L.mixed
  have t2 := L.t2; have a2 := L.a2; have z2 := L.z2; have v2 := L.v2
  have t3 := L.t3; have a3 := L.a3; have z3 := L.z3; have v3 := L.v3
  have t9 := L.t9; have a9 := L.a9; have z9 := L.z9; have v9 := L.v9
  have t4 := L.t4; have a4 := L.a4; have z4 := L.z4; have v4 := L.v4
  have t171 := L.t171; have a171 := L.a171; have z171 := L.z171; have v171 := L.v171
  have t0 := L.t0; have a0 := L.a0; have z0 := L.z0; have v0 := L.v0
  have t53 := L.t53; have a53 := L.a53; have z53 := L.z53; have v53 := L.v53
  have t37 := L.t37; have a37 := L.a37; have z37 := L.z37; have v37 := L.v37
  have t5 := L.t5; have a5 := L.a5; have z5 := L.z5; have v5 := L.v5
  have t173 := L.t173; have a173 := L.a173; have z173 := L.z173; have v173 := L.v173
  have e283 : ∀ args w, (callFunc (ρ.f 283) args).run P w = .ok (.enter (ρ.f 283) args) w := enters_of L.f283 (by kernel_rfl) rfl
  have e284 : ∀ args w, (callFunc (ρ.f 284) args).run P w = .ok (.enter (ρ.f 284) args) w := enters_of L.f284 (by kernel_rfl) rfl
  have e285 : ∀ args w, (callFunc (ρ.f 285) args).run P w = .ok (.enter (ρ.f 285) args) w := enters_of L.f285 (by kernel_rfl) rfl
  have hu64 : u < 18446744073709551616 := by omega
  have hnd20 : Lib.nDigits u ≤ 20 := by have := Lib.numDigits_eq u (by omega) hu64; split at this <;> omega
  have hb3 : Lib.nDigits u ≤ 23 := by omega
  have hal : P.arrayLen (ρ.t 171) = 24 := by simp [Program.arrayLen, L.t171]
  have hsl1 : ∀ W, (Instr.sliceAt (ρ.t 171) (.pointer (some ⟨w.heap.size, 0, none⟩)) (some (.int .i64 1)) (some (.int .i64 (1 + (Lib.nDigits u : Int)))) none).run P W = .ok (.slice (some ⟨w.heap.size, 1, none⟩) (Lib.nDigits u) 23) W := fun W => by
    rw [run_sliceAt_array_lh W (ρ.t 171) ⟨w.heap.size, 0, none⟩ (by simp [Program.arrayLen, Program.elem, L.t171]) .i64 .i64 1 (1 + (Lib.nDigits u : Int)) (by omega) (by omega) (by rw [hal]; omega)]
    go_simp
    omega
  have hH0 := Lib.holds_zero w (ρ.t 171) (Lib.nDigits u) (by omega)
  have hfmt := Any.internal_strconv_formatBase10 { L with } w.heap.size 1 23 u (Array.replicate (Lib.nDigits u) 0) (w.alloc (.cells Lib.zeros24 (ρ.t 171))) hH0 (by rw [Array.size_replicate]; exact Lib.lt_pow_nDigits u) hu64 (by rw [Array.size_replicate]; omega)
  rw [Array.size_replicate] at hfmt
  have HH0 := Lib.hid hH0
  clear hH0 hal
  go_enter L.f246, Body.n246_ntmps ρ
  go_wp2_with (first
    | (go_at_fn (ρ.f 284); refine (digits_run { L with } u (by omega) hu64 _ (htab.alloc _)).mono ?_; rintro e w' ⟨rfl, rfl⟩))
  go_at_fn (ρ.f 285)
  refine hfmt.mono ?_
  rintro e w' ⟨rfl, k, v', dk, rfl, hF⟩
  have hcv : (convert (ρ.t 37) (ρ.t 9) (.slice (some ⟨w.heap.size, 1, none⟩) (Lib.nDigits u) 23)).run P ((putRow (fun (b : UInt8) => Value.int .u8 (b.toNat : Int)) (w.alloc (.cells Lib.zeros24 (ρ.t 171))) w.heap.size 1 dk).drewN k) = .ok (.string ⟨(Lib.decDigits u).toArray⟩) ((putRow (fun (b : UInt8) => Value.int .u8 (b.toNat : Int)) (w.alloc (.cells Lib.zeros24 (ρ.t 171))) w.heap.size 1 dk).drewN k) := by
    have h := run_convert_bytes_back (P := P) ((putRow (fun (b : UInt8) => Value.int .u8 (b.toNat : Int)) (w.alloc (.cells Lib.zeros24 (ρ.t 171))) w.heap.size 1 dk).drewN k) (ρ.t 37) (ρ.t 9) (ρ.t 5) ⟨w.heap.size, 1, none⟩ 23 (Lib.decDigits u) L.t37 L.t5 L.t9 (fun j hj => by
      rw [Lib.row_is_numeral hF j hj, Lib.add_plain, World.cell?_drewN]
      exact cell?_putRow (fun (b : UInt8) => Value.int .u8 (b.toNat : Int)) _ w.heap.size 1 _ dk HH0.out (by rw [hF.size, Array.size_replicate]) j (by rw [hF.size]; rw [Lib.decDigits_length] at hj; exact hj))
    rw [Lib.decDigits_length] at h
    exact h
  go_wp2
  go_ret
  obtain ⟨os, eo⟩ := Lib.fin_pos w (.cells Lib.zeros24 (ρ.t 171)) dk k
  refine ⟨rfl, ?_⟩
  rw [eo]
  exact below_grown w k os
set_option maxRecDepth 100000 in
theorem itoaI_run (L : LaysM.n243 P ρ) (u : Nat) (hu1 : 100 ≤ u) (hu : u < 9223372036854775808) (w : World) (htab : PowAt P ρ w) :
    Calls P (ρ.f 243) #[.int .i64 u] w fun e w' => e = .returned (.string ⟨(Lib.decDigits u).toArray⟩) ∧ Below w.heap.size w w' := by
  have mixed := L.mixed
  have t3 := L.t3; have a3 := L.a3; have z3 := L.z3; have v3 := L.v3
  have t9 := L.t9; have a9 := L.a9; have z9 := L.z9; have v9 := L.v9
  have t2 := L.t2; have a2 := L.a2; have z2 := L.z2; have v2 := L.v2
  have e246 : ∀ args w, (callFunc (ρ.f 246) args).run P w = .ok (.enter (ρ.f 246) args) w := enters_of L.f246 (by kernel_rfl) rfl
  go_enter L.f243, Body.n243_ntmps ρ
  go_wp2_with (go_at_fn (ρ.f 246); refine (format_run { L with } u hu1 hu _ htab).mono ?_; rintro e w' ⟨rfl, hb⟩)
  go_ret
  exact ⟨rfl, hb⟩
set_option maxRecDepth 100000 in
theorem itoa_run (L : LaysM.n171 P ρ) (u : Nat) (hu1 : 100 ≤ u) (hu : u < 9223372036854775808) (w : World) (htab : PowAt P ρ w) :
    Calls P (ρ.f 171) #[.int .i64 u] w fun e w' => e = .returned (.string ⟨(Lib.decDigits u).toArray⟩) ∧ Below w.heap.size w w' := by
  have mixed := L.mixed
  have t3 := L.t3; have a3 := L.a3; have z3 := L.z3; have v3 := L.v3
  have t9 := L.t9; have a9 := L.a9; have z9 := L.z9; have v9 := L.v9
  have e243 : ∀ args w, (callFunc (ρ.f 243) args).run P w = .ok (.enter (ρ.f 243) args) w := enters_of L.f243 (by kernel_rfl) rfl
  go_enter L.f171, Body.n171_ntmps ρ
  go_wp2_with (go_at_fn (ρ.f 243); refine (itoaI_run { L with } u hu1 hu _ htab).mono ?_; rintro e w' ⟨rfl, hb⟩)
  go_ret
  exact ⟨rfl, hb⟩
end
end YtiejgieiokmmfaaGreatDoor
end Go.Proofs

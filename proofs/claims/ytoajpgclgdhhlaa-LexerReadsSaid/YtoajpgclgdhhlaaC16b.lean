/-
  The rule that reads a token: the range over rules().
-/
import Derived.Test.YtoajpgclgdhhlaaT16p
namespace Go.Proofs.Ytoajpgclgdhhlaa
set_option linter.unusedVariables false
set_option linter.unusedSimpArgs false
set_option linter.unnecessarySimpa false
set_option linter.unusedSectionVars false
open Go.RowKit
set_option maxRecDepth 1000000
def RL : List PV := [.agg [.func (.func 78) [] [], .func (.func 79) [] []], .agg [.func (.func 80) [] [], .func (.func 81) [] []]]
theorem c62 : SS.CC 62 [] [] = Ret (.sl false 2 RL) := g62_eq
noncomputable def p8_c : Code := Code.sub [false, true, true, false, false, false, true, true, true, true, true, true, false] p58a_c
noncomputable def p8_x : Code := Code.sub [false, true, true, false, false, false, true, true, true, true, true, true, false, true, false, false] p58a_c
abbrev c8P : PV := .func (.func 60) [] [.ptr 4 0, .ptr 6 0, .ptr 5 0]
abbrev H58 (L : List PV) (c1 c2 c3 line start at_ : Int) : Objs := [some [.sl true 5 L], some [.int .i64 c1], some [.int .i64 c2], some [.int .i64 c3], some [.int .i64 line], some [.int .i64 start], some [.int .i64 at_]]
noncomputable def L8 (l : Nat) (K : AX → ASt → R) (L : List PV) (c1 c2 c3 : Int) (s : ByteArray) (line start at_ : Int) (f9 : Nat) (i : Int) : R :=
  SS.LL p58a_E 7 [0, 1, 3, 4, 5, 8, 9, 47, 48, 49] 7 p8_x (blkK 4 K) ⟨[(0, .func (.yield l) [] []), (1, .cst (.str s)), (3, .ptr 4 0), (4, .ptr 5 0), (5, .ptr 6 0), (8, c8P), (9, .func (.func f9) [] []), (47, .sl false 2 RL), (48, .int .i64 (RL.length : Int)), (49, .int .i64 i)], H58 L c1 c2 c3 line start at_⟩
theorem L8_start (l : Nat) (K : AX → ASt → R) (L : List PV) (c1 c2 c3 : Int) (s : ByteArray) (line start at_ : Int) :
    exK p58a_X p8_c K ⟨[(0, .func (.yield l) [] []), (1, .cst (.str s)), (3, .ptr 4 0), (4, .ptr 5 0), (5, .ptr 6 0), (8, c8P), (9, .func (.func 61) [] [])], H58 L c1 c2 c3 line start at_⟩ = L8 l K L c1 c2 c3 s line start at_ 61 0 := by
  have : exK p58a_X p8_c K ⟨[(0, .func (.yield l) [] []), (1, .cst (.str s)), (3, .ptr 4 0), (4, .ptr 5 0), (5, .ptr 6 0), (8, c8P), (9, .func (.func 61) [] [])], H58 L c1 c2 c3 line start at_⟩ = clX SS.CC 62 [] fun r2 => vL false 2 r2 fun l1 => SS.LL p58a_E 7 [0, 1, 3, 4, 5, 8, 9, 47, 48, 49] 7 p8_x (blkK 4 K) ⟨[(0, .func (.yield l) [] []), (1, .cst (.str s)), (3, .ptr 4 0), (4, .ptr 5 0), (5, .ptr 6 0), (8, c8P), (9, .func (.func 61) [] []), (47, .sl false 2 l1), (48, .int .i64 (l1.length : Int)), (49, .int .i64 0)], H58 L c1 c2 c3 line start at_⟩ := by kernel_rfl
  rw [this, clX_of c62, vL_mk]; rfl
theorem L8_0 (l : Nat) (K : AX → ASt → R) (L : List PV) (c1 c2 c3 : Int) (s : ByteArray) (line start at_ : Int) (f9 : Nat) : L8 l K L c1 c2 c3 s line start at_ f9 0 =
    byteX s at_ fun c => clX SS.CC 78 [.int .u8 c] fun r => vB r fun b => bsel b (L8 l K L c1 c2 c3 s line start at_ 79 1) (L8 l K L c1 c2 c3 s line start at_ f9 1) := (LL_eq SS_ok (by decide) (by kernel_rfl) (by kernel_rfl)).trans (by kernel_rfl)
theorem L8_1 (l : Nat) (K : AX → ASt → R) (L : List PV) (c1 c2 c3 : Int) (s : ByteArray) (line start at_ : Int) (f9 : Nat) : L8 l K L c1 c2 c3 s line start at_ f9 1 =
    byteX s at_ fun c => clX SS.CC 80 [.int .u8 c] fun r => vB r fun b => bsel b (L8 l K L c1 c2 c3 s line start at_ 81 2) (L8 l K L c1 c2 c3 s line start at_ f9 2) := (LL_eq SS_ok (by decide) (by kernel_rfl) (by kernel_rfl)).trans (by kernel_rfl)
theorem L8_2 (l : Nat) (K : AX → ASt → R) (L : List PV) (c1 c2 c3 : Int) (s : ByteArray) (line start at_ : Int) (f9 : Nat) : L8 l K L c1 c2 c3 s line start at_ f9 2 =
    K .normal ⟨[(0, .func (.yield l) [] []), (1, .cst (.str s)), (3, .ptr 4 0), (4, .ptr 5 0), (5, .ptr 6 0), (8, c8P), (9, .func (.func f9) [] []), (47, .sl false 2 RL), (48, .int .i64 (RL.length : Int)), (49, .int .i64 2), (50, .bool false)], H58 L c1 c2 c3 line start at_⟩ := (LL_eq SS_ok (by decide) (by kernel_rfl) (by kernel_rfl)).trans (by kernel_rfl)
end Go.Proofs.Ytoajpgclgdhhlaa

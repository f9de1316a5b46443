/-
  (a b - c d) / by with numerators of two words: where the products are small it is what it says.
-/
import Derived.Test.YtkkgfoknknehfaaDoorTD1
import Derived.Shelf.Bits.Mul64
import Derived.Shelf.Spec.BitsCarry
namespace Go.Proofs
open Go.Shelf
def Tryd.lays264_ren:Go.Shelf.Ren:=⟨fun|264=>83|n=>n,fun|53=>134|46=>150|n=>n,id⟩
theorem Tryd.lays264 : Lays.n264 Tryd.prog Tryd.lays264_ren:=by constructor<;>first|kernel_rfl|(intro w;kernel_rfl)
def Tryd.lays7a_ren:Go.Shelf.Ren:=⟨fun|25=>77|n=>n,fun|22=>134|n=>n,id⟩
theorem Tryd.lays7a : Lays7.n25 Tryd.prog Tryd.lays7a_ren:=by constructor<;>first|kernel_rfl|(intro w;kernel_rfl)
def Tryd.lays7b_ren:Go.Shelf.Ren:=⟨fun|26=>78|n=>n,fun|22=>134|n=>n,id⟩
theorem Tryd.lays7b : Lays7.n26 Tryd.prog Tryd.lays7b_ren:=by constructor<;>first|kernel_rfl|(intro w;kernel_rfl)
end Go.Proofs
namespace Go.Proofs.YtkkgfoknknehfaaDoor
set_option linter.unusedVariables false
set_option linter.unusedSimpArgs false
set_option linter.unnecessarySimpa false
set_option linter.unusedSectionVars false
open Go.RowKit Go.Shelf
set_option maxRecDepth 100000
theorem res3 {fn : Func} {t u v : Tmp} (h : fn.results = #[.tmp t, .tmp u, .tmp v]) (tmps : Array Value) (P : Program) (w : World) :
 (results fn tmps).run P w = .ok (.tuple #[tmps.getD t undef, tmps.getD u undef, tmps.getD v undef]) w := by
 simp [results, h]
theorem mag_run (a : Int) (h1 : -4611686018427387904 ≤ a) (h2 : a ≤ 4611686018427387904) (w : World) :
 Calls Tryd.prog 70 #[.int .i64 a] w fun e w' => e = .returned (.int .u64 ((a.natAbs : Nat) : Int)) ∧ w' = w := by
 go_enter Tryd.func70, Tryd.ntmps70
 go_wp2
 all_goals (go_ret; refine ⟨congrArg (fun z => Ending.returned (Value.int .u64 z)) ?_, rfl⟩; omega)
theorem mul_run (x y : Nat) (hx : x < 18446744073709551616) (hy : y < 18446744073709551616) (w : World) :
 Calls Tryd.prog 83 #[.int .u64 x, .int .u64 y] w fun e w' => e = .returned (.tuple #[.int .u64 ((x * y / 18446744073709551616 : Nat) : Int), .int .u64 ((x * y % 18446744073709551616 : Nat) : Int)]) ∧ w' = w := by
 have h := Any.bits_Mul64 Tryd.lays264 x y hx hy w
 rw [show Tryd.lays264_ren.f 264 = 83 from rfl] at h
 exact h
set_option maxHeartbeats 2000000 in
theorem prod_run (a b : Int) (ha : a.natAbs ≤ 2147483648) (hb : b.natAbs ≤ 2147483648) (w : World) :
 Calls Tryd.prog 76 #[.int .i64 a, .int .i64 b] w fun e w' => e = .returned (.tuple #[.bool (decide (a < 0) != decide (b < 0)), .int .u64 0, .int .u64 ((a.natAbs * b.natAbs : Nat) : Int)]) ∧ w' = w := by
 have e70 : ∀ args w, (callFunc 70 args).run Tryd.prog w = .ok (.enter 70 args) w := enters_of Tryd.func70 (by kernel_rfl) rfl
 have e83 : ∀ args w, (callFunc 83 args).run Tryd.prog w = .ok (.enter 83 args) w := enters_of Tryd.func83 (by kernel_rfl) rfl
 have c1 := fun w => mag_run a (by omega) (by omega) w
 have c2 := fun w => mag_run b (by omega) (by omega) w
 have c3 := fun w => mul_run a.natAbs b.natAbs (by omega) (by omega) w
 have hp : a.natAbs * b.natAbs ≤ 2147483648 * 2147483648 := Nat.mul_le_mul ha hb
 generalize a.natAbs * b.natAbs = p at c3 hp ⊢
 rw [show p / 18446744073709551616 = 0 by omega, show p % 18446744073709551616 = p by omega] at c3
 generalize a.natAbs = A at c1 c3
 generalize b.natAbs = B at c2 c3
 go_enter Tryd.func76, Tryd.ntmps76
 go_wp2_with (first
  | (go_at_fn 70; refine (c1 _).mono ?_; rintro e w' ⟨rfl, rfl⟩)
  | (go_at_fn 70; refine (c2 _).mono ?_; rintro e w' ⟨rfl, rfl⟩)
  | (go_at_fn 83; refine (c3 _).mono ?_; rintro e w' ⟨rfl, rfl⟩))
 all_goals ((try simp only [Exit.inBlock, Exit.then]); refine bodyPost_ret (res3 rfl _ _ _) rfl ?_)
 all_goals (refine ⟨?_, rfl⟩; rfl)
end Go.Proofs.YtkkgfoknknehfaaDoor

/-
  (a b - c d) / by with numerators of two words: where the products are small it is what it says.
-/
import Derived.Test.YtkkgfoknknehfaaDoorTD2
namespace Go.Proofs.YtkkgfoknknehfaaDoor
set_option linter.unusedVariables false
set_option linter.unusedSimpArgs false
set_option linter.unnecessarySimpa false
set_option linter.unusedSectionVars false
open Go.RowKit Go.Shelf
set_option maxRecDepth 100000
noncomputable def SD : SE := ⟨Tryd.prog, fun _ => ⟨List.range 110, [], [], [], [], [], [], [], [], [], [], [], false⟩, fun _ p K => K p, fun _ _ r h K => K r h, fun _ _ _ => none⟩
theorem SD_ok : SD.OK := ⟨fun _ _ => .inl fun _ => rfl, fun _ _ _ _ => .inl fun _ => rfl⟩
theorem div_eq (x y : Int) : SD.CC 79 [.int .u64 0, .int .u64 x, .int .u64 y] [] = bsel (y == 0) none (bsel (decide (y ≤ 0)) none (chk (!(y == 0)) (chk (!(y == 0)) (some (.tuple [.int .u64 (IntKind.u64.wrap (x.tdiv y)), .int .u64 (x.tmod y)], []))))) :=
 (CC_run SD_ok rfl).trans (by kernel_rfl)
theorem ev_div (x y : Nat) (hx : x < 18446744073709551616) (h0 : 0 < y) : Ev Tryd.prog 79 [.int .u64 0, .int .u64 x, .int .u64 y] [] (.tuple [.int .u64 ((x / y : Nat) : Int), .int .u64 ((x % y : Nat) : Int)]) [] := by
 refine CC_sound (S := SD) (by kernel_rfl) SD_ok (fun _ _ _ _ _ h => by cases h) _ _ _ _ _ ?_
 rw [div_eq]
 have h1 : ((y : Int) == 0) = false := by simp; omega
 have h2 : decide ((y : Int) ≤ 0) = false := by simp; omega
 have h3 : IntKind.u64.wrap (Int.tdiv (x : Int) (y : Int)) = ((x / y : Nat) : Int) := by
  have : x / y ≤ x := Nat.div_le_self _ _
  rw [show Int.tdiv (x : Int) (y : Int) = ((x / y : Nat) : Int) from rfl, IntKind.wrap_u64]
  generalize x / y = z at this ⊢
  omega
 rw [h1, h2, h3, show Int.tmod (x : Int) (y : Int) = ((x % y : Nat) : Int) from rfl]; rfl
theorem div_calls {M : Mem} {w : World} (hm : memOK M w) (x y : Nat) (hx : x < 18446744073709551616) (h0 : 0 < y) :
 Calls Tryd.prog 79 #[.int .u64 0, .int .u64 x, .int .u64 y] w fun e w' => e = .returned (.tuple #[.int .u64 ((x / y : Nat) : Int), .int .u64 ((x % y : Nat) : Int)]) ∧ Below w.heap.size w w' := by
 have hz : ∀ w b, ownH w [] [] b = 0 := fun w b => by simp [ownH]
 refine ((ev_div x y hx h0).2 (fun _ => 0) M [] w #[.int .u64 0, .int .u64 x, .int .u64 y] hm ⟨rfl, fun i cs hi => by simp at hi⟩ (fun b => by simp [hz]) (fun b _ => by simp [hz]) ?_).mono ?_
 ·exact reps_cons.2 ⟨_, _, rfl, rep_int.2 rfl, reps_cons.2 ⟨_, _, rfl, rep_int.2 rfl, reps_cons.2 ⟨_, _, rfl, rep_int.2 rfl, reps_nil.2 rfl⟩⟩⟩
 ·rintro e w' ⟨v, M', B', rfl, hP⟩
  obtain ⟨vs, rfl, hr⟩ := rep_tuple.1 hP.rep
  obtain ⟨u1, us, e1, r1, hr⟩ := reps_cons.1 hr
  obtain ⟨u2, us2, rfl, r2, hr⟩ := reps_cons.1 hr
  rw [reps_nil] at hr; subst hr
  have : vs = #[u1, u2] := by rw [← Array.toList_inj]; exact e1
  subst this
  rw [rep_int.1 r1, rep_int.1 r2]
  exact ⟨rfl, hP.fr.os, hP.fr.tape, hP.fr.output, hP.fr.size, fun b hb => (hP.fr.blk b hb (by simp [hz])).1⟩
theorem add_run (A C : Nat) (hA : A ≤ 4611686018427387904) (hC : C ≤ 4611686018427387904) (w : World) : (callFunc 77 #[.int .u64 (A : Int), .int .u64 (C : Int), .int .u64 0]).run Tryd.prog w = .ok (.value (.tuple #[.int .u64 ((A + C : Nat) : Int), .int .u64 0])) w := by
 have add := Any7.bits_Add64 Tryd.lays7a A C 0 (by omega) w
 rw [show Tryd.lays7a_ren.f 25 = 77 from rfl] at add
 rwa [show (A + C + 0) % 18446744073709551616 = A + C by omega, show (A + C + 0) / 18446744073709551616 = 0 by omega] at add
theorem sub_run (A C : Nat) (hA : A ≤ 4611686018427387904) (h : C ≤ A) (w : World) : (callFunc 78 #[.int .u64 (A : Int), .int .u64 (C : Int), .int .u64 0]).run Tryd.prog w = .ok (.value (.tuple #[.int .u64 ((A - C : Nat) : Int), .int .u64 0])) w := by
 have sub := Any7.bits_Sub64 Tryd.lays7b A C 0 (by omega) w
 rw [show Tryd.lays7b_ren.f 26 = 78 from rfl] at sub
 rwa [show (A + 18446744073709551616 - C - 0) % 18446744073709551616 = A - C by omega, if_neg (by omega)] at sub
theorem add_zero_run (w : World) : (callFunc 77 #[.int .u64 0, .int .u64 0, .int .u64 0]).run Tryd.prog w = .ok (.value (.tuple #[.int .u64 0, .int .u64 0])) w := add_run 0 0 (by omega) (by omega) w
theorem sub_zero_run (w : World) : (callFunc 78 #[.int .u64 0, .int .u64 0, .int .u64 0]).run Tryd.prog w = .ok (.value (.tuple #[.int .u64 0, .int .u64 0])) w := sub_run 0 0 (by omega) (by omega) w
def sg (a b : Int) : Bool := decide (a < 0) != decide (b < 0)
def pm (a b : Int) : Nat := a.natAbs * b.natAbs
theorem prod_run' (a b : Int) (ha : a.natAbs ≤ 2147483648) (hb : b.natAbs ≤ 2147483648) (w : World) :
 Calls Tryd.prog 76 #[.int .i64 a, .int .i64 b] w fun e w' => e = .returned (.tuple #[.bool (sg a b), .int .u64 0, .int .u64 ((pm a b : Nat) : Int)]) ∧ w' = w := prod_run a b ha hb w
set_option maxHeartbeats 1000000 in
theorem cross_add_false (a b c d e : Int) (ha : a.natAbs ≤ 2147483648) (hb : b.natAbs ≤ 2147483648) (hc : c.natAbs ≤ 2147483648) (hd : d.natAbs ≤ 2147483648) (he : e.natAbs ≤ 2147483648) (h1 : sg a b = false) (h2 : sg c d = true) {M : Mem} {w : World} (S Q : Nat) (hQ : Q < 9223372036854775808)
 (add1 : ∀ w, (callFunc 77 #[.int .u64 ((pm a b : Nat) : Int), .int .u64 ((pm c d : Nat) : Int), .int .u64 0]).run Tryd.prog w = .ok (.value (.tuple #[.int .u64 (S : Int), .int .u64 0])) w)
 (dv : Calls Tryd.prog 79 #[.int .u64 0, .int .u64 (S : Int), .int .u64 (e.natAbs : Int)] w fun e' w' => e' = .returned (.tuple #[.int .u64 (Q : Int), .int .u64 ((S % e.natAbs : Nat) : Int)]) ∧ Below w.heap.size w w') :
 Calls Tryd.prog 68 #[.int .i64 a, .int .i64 b, .int .i64 c, .int .i64 d, .int .i64 e] w fun r w' => r = .returned (.int .i64 (if false != decide (e < 0) then -(Q : Int) else (Q : Int))) ∧ Below w.heap.size w w' := by
 have e76 : ∀ args w, (callFunc 76 args).run Tryd.prog w = .ok (.enter 76 args) w := enters_of Tryd.func76 (by kernel_rfl) rfl
 have e70 : ∀ args w, (callFunc 70 args).run Tryd.prog w = .ok (.enter 70 args) w := enters_of Tryd.func70 (by kernel_rfl) rfl
 have e79 : ∀ args w, (callFunc 79 args).run Tryd.prog w = .ok (.enter 79 args) w := enters_of Tryd.func79 (by kernel_rfl) rfl
 have add0 := add_zero_run
 go_enter Tryd.func68, Tryd.ntmps68
 go_wp2_with (first
  | (go_at_call 76; refine (prod_run' _ _ (by assumption) (by assumption) _).mono ?_; rintro e w' ⟨rfl, rfl⟩; first | rw [h1] | rw [h2])
  | (go_at_call 70; refine (mag_run e (by omega) (by omega) _).mono ?_; rintro e' w' ⟨rfl, rfl⟩)
  | (go_at_call 79; refine dv.mono ?_; rintro e' w' ⟨rfl, hbelow⟩))
 all_goals go_ret
 all_goals (refine ⟨congrArg (fun z => Ending.returned (Value.int .i64 z)) ?_, hbelow⟩; simp_all [IntKind.wrap_i64]; try omega)
set_option maxHeartbeats 1000000 in
theorem cross_add_true (a b c d e : Int) (ha : a.natAbs ≤ 2147483648) (hb : b.natAbs ≤ 2147483648) (hc : c.natAbs ≤ 2147483648) (hd : d.natAbs ≤ 2147483648) (he : e.natAbs ≤ 2147483648) (h1 : sg a b = true) (h2 : sg c d = false) {M : Mem} {w : World} (S Q : Nat) (hQ : Q < 9223372036854775808)
 (add1 : ∀ w, (callFunc 77 #[.int .u64 ((pm a b : Nat) : Int), .int .u64 ((pm c d : Nat) : Int), .int .u64 0]).run Tryd.prog w = .ok (.value (.tuple #[.int .u64 (S : Int), .int .u64 0])) w)
 (dv : Calls Tryd.prog 79 #[.int .u64 0, .int .u64 (S : Int), .int .u64 (e.natAbs : Int)] w fun e' w' => e' = .returned (.tuple #[.int .u64 (Q : Int), .int .u64 ((S % e.natAbs : Nat) : Int)]) ∧ Below w.heap.size w w') :
 Calls Tryd.prog 68 #[.int .i64 a, .int .i64 b, .int .i64 c, .int .i64 d, .int .i64 e] w fun r w' => r = .returned (.int .i64 (if true != decide (e < 0) then -(Q : Int) else (Q : Int))) ∧ Below w.heap.size w w' := by
 have e76 : ∀ args w, (callFunc 76 args).run Tryd.prog w = .ok (.enter 76 args) w := enters_of Tryd.func76 (by kernel_rfl) rfl
 have e70 : ∀ args w, (callFunc 70 args).run Tryd.prog w = .ok (.enter 70 args) w := enters_of Tryd.func70 (by kernel_rfl) rfl
 have e79 : ∀ args w, (callFunc 79 args).run Tryd.prog w = .ok (.enter 79 args) w := enters_of Tryd.func79 (by kernel_rfl) rfl
 have add0 := add_zero_run
 go_enter Tryd.func68, Tryd.ntmps68
 go_wp2_with (first
  | (go_at_call 76; refine (prod_run' _ _ (by assumption) (by assumption) _).mono ?_; rintro e w' ⟨rfl, rfl⟩; first | rw [h1] | rw [h2])
  | (go_at_call 70; refine (mag_run e (by omega) (by omega) _).mono ?_; rintro e' w' ⟨rfl, rfl⟩)
  | (go_at_call 79; refine dv.mono ?_; rintro e' w' ⟨rfl, hbelow⟩))
 all_goals go_ret
 all_goals (refine ⟨congrArg (fun z => Ending.returned (Value.int .i64 z)) ?_, hbelow⟩; simp_all [IntKind.wrap_i64]; try omega)
set_option maxHeartbeats 1000000 in
theorem cross_ge_false (a b c d e : Int) (ha : a.natAbs ≤ 2147483648) (hb : b.natAbs ≤ 2147483648) (hc : c.natAbs ≤ 2147483648) (hd : d.natAbs ≤ 2147483648) (he : e.natAbs ≤ 2147483648) (h1 : sg a b = false) (h2 : sg c d = false) {M : Mem} {w : World} (S Q : Nat) (hQ : Q < 9223372036854775808) (hlt : ¬ ((pm a b : Nat) : Int) < ((pm c d : Nat) : Int))
 (add1 : ∀ w, (callFunc 78 #[.int .u64 ((pm a b : Nat) : Int), .int .u64 ((pm c d : Nat) : Int), .int .u64 0]).run Tryd.prog w = .ok (.value (.tuple #[.int .u64 (S : Int), .int .u64 0])) w)
 (dv : Calls Tryd.prog 79 #[.int .u64 0, .int .u64 (S : Int), .int .u64 (e.natAbs : Int)] w fun e' w' => e' = .returned (.tuple #[.int .u64 (Q : Int), .int .u64 ((S % e.natAbs : Nat) : Int)]) ∧ Below w.heap.size w w') :
 Calls Tryd.prog 68 #[.int .i64 a, .int .i64 b, .int .i64 c, .int .i64 d, .int .i64 e] w fun r w' => r = .returned (.int .i64 (if false != decide (e < 0) then -(Q : Int) else (Q : Int))) ∧ Below w.heap.size w w' := by
 have e76 : ∀ args w, (callFunc 76 args).run Tryd.prog w = .ok (.enter 76 args) w := enters_of Tryd.func76 (by kernel_rfl) rfl
 have e70 : ∀ args w, (callFunc 70 args).run Tryd.prog w = .ok (.enter 70 args) w := enters_of Tryd.func70 (by kernel_rfl) rfl
 have e79 : ∀ args w, (callFunc 79 args).run Tryd.prog w = .ok (.enter 79 args) w := enters_of Tryd.func79 (by kernel_rfl) rfl
 have add0 := sub_zero_run
 go_enter Tryd.func68, Tryd.ntmps68
 go_wp2_with (first
  | (go_at_call 76; refine (prod_run' _ _ (by assumption) (by assumption) _).mono ?_; rintro e w' ⟨rfl, rfl⟩; first | rw [h1] | rw [h2])
  | (go_at_call 70; refine (mag_run e (by omega) (by omega) _).mono ?_; rintro e' w' ⟨rfl, rfl⟩)
  | (go_at_call 79; refine dv.mono ?_; rintro e' w' ⟨rfl, hbelow⟩))
 all_goals go_ret
 all_goals (refine ⟨congrArg (fun z => Ending.returned (Value.int .i64 z)) ?_, hbelow⟩; simp_all [IntKind.wrap_i64]; try omega)
set_option maxHeartbeats 1000000 in
theorem cross_ge_true (a b c d e : Int) (ha : a.natAbs ≤ 2147483648) (hb : b.natAbs ≤ 2147483648) (hc : c.natAbs ≤ 2147483648) (hd : d.natAbs ≤ 2147483648) (he : e.natAbs ≤ 2147483648) (h1 : sg a b = true) (h2 : sg c d = true) {M : Mem} {w : World} (S Q : Nat) (hQ : Q < 9223372036854775808) (hlt : ¬ ((pm a b : Nat) : Int) < ((pm c d : Nat) : Int))
 (add1 : ∀ w, (callFunc 78 #[.int .u64 ((pm a b : Nat) : Int), .int .u64 ((pm c d : Nat) : Int), .int .u64 0]).run Tryd.prog w = .ok (.value (.tuple #[.int .u64 (S : Int), .int .u64 0])) w)
 (dv : Calls Tryd.prog 79 #[.int .u64 0, .int .u64 (S : Int), .int .u64 (e.natAbs : Int)] w fun e' w' => e' = .returned (.tuple #[.int .u64 (Q : Int), .int .u64 ((S % e.natAbs : Nat) : Int)]) ∧ Below w.heap.size w w') :
 Calls Tryd.prog 68 #[.int .i64 a, .int .i64 b, .int .i64 c, .int .i64 d, .int .i64 e] w fun r w' => r = .returned (.int .i64 (if true != decide (e < 0) then -(Q : Int) else (Q : Int))) ∧ Below w.heap.size w w' := by
 have e76 : ∀ args w, (callFunc 76 args).run Tryd.prog w = .ok (.enter 76 args) w := enters_of Tryd.func76 (by kernel_rfl) rfl
 have e70 : ∀ args w, (callFunc 70 args).run Tryd.prog w = .ok (.enter 70 args) w := enters_of Tryd.func70 (by kernel_rfl) rfl
 have e79 : ∀ args w, (callFunc 79 args).run Tryd.prog w = .ok (.enter 79 args) w := enters_of Tryd.func79 (by kernel_rfl) rfl
 have add0 := sub_zero_run
 go_enter Tryd.func68, Tryd.ntmps68
 go_wp2_with (first
  | (go_at_call 76; refine (prod_run' _ _ (by assumption) (by assumption) _).mono ?_; rintro e w' ⟨rfl, rfl⟩; first | rw [h1] | rw [h2])
  | (go_at_call 70; refine (mag_run e (by omega) (by omega) _).mono ?_; rintro e' w' ⟨rfl, rfl⟩)
  | (go_at_call 79; refine dv.mono ?_; rintro e' w' ⟨rfl, hbelow⟩))
 all_goals go_ret
 all_goals (refine ⟨congrArg (fun z => Ending.returned (Value.int .i64 z)) ?_, hbelow⟩; simp_all [IntKind.wrap_i64]; try omega)
set_option maxHeartbeats 1000000 in
theorem cross_lt_false (a b c d e : Int) (ha : a.natAbs ≤ 2147483648) (hb : b.natAbs ≤ 2147483648) (hc : c.natAbs ≤ 2147483648) (hd : d.natAbs ≤ 2147483648) (he : e.natAbs ≤ 2147483648) (h1 : sg a b = false) (h2 : sg c d = false) {M : Mem} {w : World} (S Q : Nat) (hQ : Q < 9223372036854775808) (hlt : ((pm a b : Nat) : Int) < ((pm c d : Nat) : Int))
 (add1 : ∀ w, (callFunc 78 #[.int .u64 ((pm c d : Nat) : Int), .int .u64 ((pm a b : Nat) : Int), .int .u64 0]).run Tryd.prog w = .ok (.value (.tuple #[.int .u64 (S : Int), .int .u64 0])) w)
 (dv : Calls Tryd.prog 79 #[.int .u64 0, .int .u64 (S : Int), .int .u64 (e.natAbs : Int)] w fun e' w' => e' = .returned (.tuple #[.int .u64 (Q : Int), .int .u64 ((S % e.natAbs : Nat) : Int)]) ∧ Below w.heap.size w w') :
 Calls Tryd.prog 68 #[.int .i64 a, .int .i64 b, .int .i64 c, .int .i64 d, .int .i64 e] w fun r w' => r = .returned (.int .i64 (if (!false) != decide (e < 0) then -(Q : Int) else (Q : Int))) ∧ Below w.heap.size w w' := by
 have e76 : ∀ args w, (callFunc 76 args).run Tryd.prog w = .ok (.enter 76 args) w := enters_of Tryd.func76 (by kernel_rfl) rfl
 have e70 : ∀ args w, (callFunc 70 args).run Tryd.prog w = .ok (.enter 70 args) w := enters_of Tryd.func70 (by kernel_rfl) rfl
 have e79 : ∀ args w, (callFunc 79 args).run Tryd.prog w = .ok (.enter 79 args) w := enters_of Tryd.func79 (by kernel_rfl) rfl
 have add0 := sub_zero_run
 go_enter Tryd.func68, Tryd.ntmps68
 go_wp2_with (first
  | (go_at_call 76; refine (prod_run' _ _ (by assumption) (by assumption) _).mono ?_; rintro e w' ⟨rfl, rfl⟩; first | rw [h1] | rw [h2])
  | (go_at_call 70; refine (mag_run e (by omega) (by omega) _).mono ?_; rintro e' w' ⟨rfl, rfl⟩)
  | (go_at_call 79; refine dv.mono ?_; rintro e' w' ⟨rfl, hbelow⟩))
 all_goals go_ret
 all_goals (refine ⟨congrArg (fun z => Ending.returned (Value.int .i64 z)) ?_, hbelow⟩; simp_all [IntKind.wrap_i64]; try omega)
set_option maxHeartbeats 1000000 in
theorem cross_lt_true (a b c d e : Int) (ha : a.natAbs ≤ 2147483648) (hb : b.natAbs ≤ 2147483648) (hc : c.natAbs ≤ 2147483648) (hd : d.natAbs ≤ 2147483648) (he : e.natAbs ≤ 2147483648) (h1 : sg a b = true) (h2 : sg c d = true) {M : Mem} {w : World} (S Q : Nat) (hQ : Q < 9223372036854775808) (hlt : ((pm a b : Nat) : Int) < ((pm c d : Nat) : Int))
 (add1 : ∀ w, (callFunc 78 #[.int .u64 ((pm c d : Nat) : Int), .int .u64 ((pm a b : Nat) : Int), .int .u64 0]).run Tryd.prog w = .ok (.value (.tuple #[.int .u64 (S : Int), .int .u64 0])) w)
 (dv : Calls Tryd.prog 79 #[.int .u64 0, .int .u64 (S : Int), .int .u64 (e.natAbs : Int)] w fun e' w' => e' = .returned (.tuple #[.int .u64 (Q : Int), .int .u64 ((S % e.natAbs : Nat) : Int)]) ∧ Below w.heap.size w w') :
 Calls Tryd.prog 68 #[.int .i64 a, .int .i64 b, .int .i64 c, .int .i64 d, .int .i64 e] w fun r w' => r = .returned (.int .i64 (if (!true) != decide (e < 0) then -(Q : Int) else (Q : Int))) ∧ Below w.heap.size w w' := by
 have e76 : ∀ args w, (callFunc 76 args).run Tryd.prog w = .ok (.enter 76 args) w := enters_of Tryd.func76 (by kernel_rfl) rfl
 have e70 : ∀ args w, (callFunc 70 args).run Tryd.prog w = .ok (.enter 70 args) w := enters_of Tryd.func70 (by kernel_rfl) rfl
 have e79 : ∀ args w, (callFunc 79 args).run Tryd.prog w = .ok (.enter 79 args) w := enters_of Tryd.func79 (by kernel_rfl) rfl
 have add0 := sub_zero_run
 go_enter Tryd.func68, Tryd.ntmps68
 go_wp2_with (first
  | (go_at_call 76; refine (prod_run' _ _ (by assumption) (by assumption) _).mono ?_; rintro e w' ⟨rfl, rfl⟩; first | rw [h1] | rw [h2])
  | (go_at_call 70; refine (mag_run e (by omega) (by omega) _).mono ?_; rintro e' w' ⟨rfl, rfl⟩)
  | (go_at_call 79; refine dv.mono ?_; rintro e' w' ⟨rfl, hbelow⟩))
 all_goals go_ret
 all_goals (refine ⟨congrArg (fun z => Ending.returned (Value.int .i64 z)) ?_, hbelow⟩; simp_all [IntKind.wrap_i64]; try omega)
end Go.Proofs.YtkkgfoknknehfaaDoor

/-
  The law Checks: every function with a wrong program returns its error.
-/
import Derived.Test.YtiejgieiokmmfaaGreatDoorZC52b
import Derived.Test.YtiejgieiokmmfaaGreatDoorZT52g
import Derived.Test.YtiejgieiokmmfaaGreatDoorZK52
namespace Go.Proofs.YtiejgieiokmmfaaGreatDoor
set_option linter.unusedVariables false
set_option linter.unusedSimpArgs false
set_option linter.unnecessarySimpa false
set_option linter.unusedSectionVars false
open Go.RowKit
theorem c23 (a : Int) : SS.CC 21 [.int .i64 a] [] = Ret (.bool (decide (11 ≤ a) && decide (a ≤ 13))) := by rw [g21_eq]; cases decide (11 ≤ a) <;> rfl
theorem c32 (a : Int) : SS.CC 22 [.int .i64 a] [] = Ret (.bool (decide (7 ≤ a) && decide (a ≤ 10))) := by rw [g22_eq]; cases decide (7 ≤ a) <;> rfl
def eqPB (p q : Prg) : Bool := decide (p.ni = q.ni) && (decide (p.no = q.no) && (decide (p.nm = q.nm) && (decide (p.start = q.start) && decide (p.list = q.list))))
theorem eqPB_refl (p : Prg) : eqPB p p = true := by simp [eqPB]
theorem neT {a b : Int} (h : a ≠ b) : (a != b) = true := by simpa using h
theorem neF {a b : Int} (h : a = b) : (a != b) = false := by simp [h]
theorem eqT {a b : Int} (h : a = b) : (a == b) = true := by simp [h]
theorem eqF {a b : Int} (h : a ≠ b) : (a == b) = false := by simpa using h
theorem c24 (p q : Prg) (hp : p.start.length ≤ 1000000) (hl : p.list.length ≤ 1000000) : SS.CC 7 [prgP p, prgP q] [] = Ret (.bool (eqPB p q)) := by
  unfold prgP eqPB
  rw [g7_eq]
  by_cases h1 : p.ni = q.ni
  · rw [neF h1, bsel_false, decT h1, Bool.true_and]
    by_cases h2 : p.no = q.no
    · rw [neF h2, bsel_false, decT h2, Bool.true_and]
      by_cases h3 : p.nm = q.nm
      · rw [neF h3, bsel_false, decT h3, Bool.true_and, clX_of (c38 _ _ hp), vB_mk]
        by_cases h4 : p.start = q.start
        · rw [decT h4, Bool.not_true, bsel_false, Bool.true_and, insL_len, insL_len]
          by_cases h5 : p.list.length = q.list.length
          · rw [neF (by omega), bsel_false]
            have key : ∀ m k : Nat, k + m = p.list.length → p.list.take k = q.list.take k → g7_L5 p.ni p.no p.nm (bitL p.start) (insL p.list) q.ni q.no q.nm (bitL q.start) (insL q.list) (k : Int) = Ret (.bool (decide (p.list = q.list))) := by
              intro m
              induction m with
              | zero =>
                intro k h h2
                rw [List.take_of_length_le (by omega), List.take_of_length_le (by omega)] at h2
                rw [g7_L5_eq, decF (by simp; omega), bsel_false, decT h2]
              | succ m ih =>
                intro k h h2
                obtain ⟨x, hx⟩ := get_lt (show k < p.list.length by omega)
                obtain ⟨y, hy⟩ := get_lt (show k < q.list.length by omega)
                rw [g7_L5_eq, decT (by simp; omega), bsel_true, lget_ins hx, v42_mk, lget_ins hy, v42_mk, wrs (by omega)]
                by_cases hxy : x = y
                · rw [show (!((x.1 == y.1) && ((x.2 == y.2) && true))) = false by subst hxy; simp, bsel_false]
                  exact ih (k + 1) (by omega) ((take_snoc_eq hx hy).2 ⟨h2, hxy⟩)
                · have : (!((x.1 == y.1) && ((x.2 == y.2) && true))) = true := by
                    cases hb : ((x.1 == y.1) && ((x.2 == y.2) && true)) with
                    | false => rfl
                    | true =>
                      simp only [Bool.and_eq_true, beq_iff_eq] at hb
                      exact absurd (Prod.ext hb.1 hb.2.1) hxy
                  rw [this, bsel_true, decF (fun e => by rw [e, hy] at hx; injection hx with hx; exact hxy hx.symm)]
            exact key p.list.length 0 (by omega) rfl
          · rw [neT (by omega), bsel_true, decF (fun e => h5 (by rw [e]))]
        · rw [decF h4, Bool.not_false, bsel_true, Bool.false_and]
      · rw [neT h3, bsel_true, decF h3, Bool.false_and]
    · rw [neT h2, bsel_true, decF h2, Bool.false_and]
  · rw [neT h1, bsel_true, decF h1, Bool.false_and]
theorem c33 (p : Prg) : SS.CC 5 [prgP p] [] = Ret (.bool (decide (p.list.length ≤ 14) && decide (p.start.length ≤ 20))) := by
  unfold prgP
  rw [g5_eq, insL_len, bitL_len]
  by_cases h : p.list.length ≤ 14
  · rw [decT h, decT (by omega), bsel_true, Bool.true_and]
    by_cases h2 : p.start.length ≤ 20
    · rw [decT h2, decT (by omega)]
    · rw [decF h2, decF (by omega)]
  · rw [decF h, decF (by omega), bsel_false, Bool.false_and]
theorem check_head {p : Prg} {e : Int} (h : headS p = e) (he : e ≠ 0) : checkS p = e := by unfold checkS; rw [h, if_pos he]
theorem check_first {p : Prg} (h : headS p = 0) : checkS p = firstE p 0 p.list := by unfold checkS; rw [if_neg (by simpa using h)]
theorem first_err {p : Prg} {k : Nat} {x : Ins} {e z : Int} (h : insE p k x = e) (he : e ≠ 0) : (if insE p k x ≠ 0 then insE p k x else z) = e := by rw [h, if_pos he]
theorem first_ok {p : Prg} {k : Nat} {x : Ins} {z : Int} (h : insE p k x = 0) : (if insE p k x ≠ 0 then insE p k x else z) = z := by rw [h, if_neg (by decide)]
theorem c34 (p : Prg) : SS.CC 8 [prgP p] [] = Ret (.int .i64 (checkS p)) := by
  unfold prgP
  have i0 : ∀ (K : PV → R) (a b c : Int), lgetX [.int .i64 a, .int .i64 b, .int .i64 c] 0 K = K (.int .i64 a) := fun K a b c => lgetX_of (by omega) rfl
  have i1 : ∀ (K : PV → R) (a b c : Int), lgetX [.int .i64 a, .int .i64 b, .int .i64 c] 1 K = K (.int .i64 b) := fun K a b c => lgetX_of (by omega) rfl
  have i2 : ∀ (K : PV → R) (a b c : Int), lgetX [.int .i64 a, .int .i64 b, .int .i64 c] 2 K = K (.int .i64 c) := fun K a b c => lgetX_of (by omega) rfl
  rw [g8_eq, g8_L4_eq]
  simp only [show decide ((0 : Int) < 3) = true from rfl, bsel_true, i0, vI_mk]
  have e2 : (2 : Int) ≠ 0 := by decide
  have two : (p.ni < 0 ∨ 256 < p.ni ∨ p.no < 0 ∨ 256 < p.no ∨ p.nm < 0 ∨ 256 < p.nm) → checkS p = 2 := fun h => check_head (by unfold headS; rw [if_pos h]) e2
  by_cases h1 : p.ni < 0
  · rw [decT h1, bsel_true, two (.inl h1)]
  rw [decF h1, bsel_false]
  by_cases h2 : 256 < p.ni
  · rw [decT h2, bsel_true, two (.inr (.inl h2))]
  rw [decF h2, bsel_false, show IntKind.i64.wrap (0 + 1) = 1 from rfl, g8_L4_eq]
  simp only [show decide ((1 : Int) < 3) = true from rfl, bsel_true, i1, vI_mk]
  by_cases h3 : p.no < 0
  · rw [decT h3, bsel_true, two (.inr (.inr (.inl h3)))]
  rw [decF h3, bsel_false]
  by_cases h4 : 256 < p.no
  · rw [decT h4, bsel_true, two (.inr (.inr (.inr (.inl h4))))]
  rw [decF h4, bsel_false, show IntKind.i64.wrap (1 + 1) = 2 from rfl, g8_L4_eq]
  simp only [show decide ((2 : Int) < 3) = true from rfl, bsel_true, i2, vI_mk]
  by_cases h5 : p.nm < 0
  · rw [decT h5, bsel_true, two (.inr (.inr (.inr (.inr (.inl h5)))))]
  rw [decF h5, bsel_false]
  by_cases h6 : 256 < p.nm
  · rw [decT h6, bsel_true, two (.inr (.inr (.inr (.inr (.inr h6)))))]
  rw [decF h6, bsel_false, show IntKind.i64.wrap (2 + 1) = 3 from rfl, g8_L4_eq]
  simp only [show decide ((3 : Int) < 3) = false from rfl, bsel_false, bitL_len, insL_len]
  by_cases h7 : (p.start.length : Int) = p.nm
  · rw [neF h7, bsel_false]
    by_cases h8 : 2048 < p.list.length
    · rw [decT (by omega), bsel_true, check_head (e := 3) (by unfold headS; rw [if_neg (by omega), if_neg (by simpa using h7), if_pos h8]) (by decide)]
    · rw [decF (by omega), bsel_false, check_first (by unfold headS; rw [if_neg (by omega), if_neg (by simpa using h7), if_neg h8])]
      have key : ∀ m k : Nat, k + m = p.list.length → g8_L13 p.ni p.no p.nm (bitL p.start) (insL p.list) (k : Int) = Ret (.int .i64 (firstE p k (p.list.drop k))) := by
        intro m
        induction m with
        | zero =>
          intro k h
          rw [g8_L13_eq, decF (by simp; omega), bsel_false, List.drop_of_length_le (by omega)]; rfl
        | succ m ih =>
          intro k h
          obtain ⟨x, hx⟩ := get_lt (show k < p.list.length by omega)
          have hd : p.list.drop k = x :: p.list.drop (k + 1) := by
            obtain ⟨h1, rfl⟩ := List.getElem?_eq_some_iff.1 hx
            exact List.drop_eq_getElem_cons h1
          have hih := ih (k + 1) (by omega)
          rw [g8_L13_eq, decT (by simp; omega), bsel_true, lget_ins hx, v42_mk, wrs (by omega), hd, firstE, hih, wr0 (k := p.ni + p.no) (by omega) (by omega), wr0 (by omega) (by omega), insL_len]
          have e11 : (11 : Int) ≠ 0 := by decide
          have e19 : (19 : Int) ≠ 0 := by decide
          by_cases a1 : x.1 < 1
          · rw [decT a1, bsel_true, first_err (e := 11) (by unfold insE; rw [if_pos (.inl a1)]) e11]
          rw [decF a1, bsel_false]
          by_cases a2 : 13 < x.1
          · rw [decT a2, bsel_true, first_err (e := 11) (by unfold insE; rw [if_pos (.inr a2)]) e11]
          rw [decF a2, bsel_false, clX_of (c23 _), vB_mk]
          by_cases a3 : 11 ≤ x.1
          · rw [decT a3, decT (show x.1 ≤ 13 by omega), Bool.and_self, bsel_true]
            by_cases a4 : x.2 ≤ (k : Int)
            · rw [decT a4, bsel_true, first_err (e := 2) (by unfold insE; rw [if_neg (by omega), if_pos a3, if_pos (.inl a4)]) e2]
            rw [decF a4, bsel_false]
            by_cases a5 : (p.list.length : Int) < x.2
            · rw [decT a5, bsel_true, first_err (e := 2) (by unfold insE; rw [if_neg (by omega), if_pos a3, if_pos (.inr a5)]) e2]
            rw [decF a5, bsel_false, first_ok (by unfold insE; rw [if_neg (by omega), if_pos a3, if_neg (by omega)]), clX_of (c23 _), vB_mk, decT a3, decT (show x.1 ≤ 13 by omega), Bool.and_self, Bool.not_true, bsel_false, clX_of (c32 _), vB_mk, decF (show ¬ x.1 ≤ 10 by omega), Bool.and_false, bsel_false]
          · rw [decF a3, Bool.false_and, bsel_false, clX_of (c23 _), vB_mk, decF a3, Bool.false_and, Bool.not_false, bsel_true]
            by_cases a6 : x.2 < 0
            · rw [decT a6, bsel_true, first_err (e := 2) (by unfold insE; rw [if_neg (by omega), if_neg a3, if_pos (.inl a6)]) e2]
            rw [decF a6, bsel_false]
            by_cases a7 : p.ni + p.no + p.nm ≤ x.2
            · rw [decT a7, bsel_true, first_err (e := 2) (by unfold insE; rw [if_neg (by omega), if_neg a3, if_pos (.inr a7)]) e2]
            rw [decF a7, bsel_false, clX_of (c32 _), vB_mk]
            by_cases a8 : 7 ≤ x.1
            · rw [decT a8, decT (show x.1 ≤ 10 by omega), Bool.and_self, bsel_true]
              by_cases a9 : x.2 < p.ni
              · rw [decT a9, bsel_true, first_err (e := 19) (by unfold insE; rw [if_neg (by omega), if_neg a3, if_neg (by omega), if_pos ⟨a8, a9⟩]) e19]
              · rw [decF a9, bsel_false, first_ok (by unfold insE; rw [if_neg (by omega), if_neg a3, if_neg (by omega), if_neg (by omega)])]
            · rw [decF a8, Bool.false_and, bsel_false, first_ok (by unfold insE; rw [if_neg (by omega), if_neg a3, if_neg (by omega), if_neg (by omega)])]
      exact key p.list.length 0 (by omega)
  · rw [neT h7, bsel_true, check_head (e := 4) (by unfold headS; rw [if_neg (by omega), if_pos h7]) (by decide)]
theorem CC_c0 {g : FuncId} {args : List PV} {h : Objs} {v : PV × Objs} (e : CS g args h = some v) : SS.CC g args h = some v := by
  rw [CC_eq SS_ok]
  show orR (CS g args h) _ = _
  rw [e]; rfl
theorem c10k {K : PV → R} : clX SS.CC 4 [] K = K (.bool true) := clX_of c10
end Go.Proofs.YtiejgieiokmmfaaGreatDoor

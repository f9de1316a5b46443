/-
  The iterator tokens$1, walked.
-/
import Derived.Test.YtoajpgclgdhhlaaC16f
import Derived.Test.YtoajpgclgdhhlaaPS16
namespace Go.Proofs.Ytoajpgclgdhhlaa
set_option linter.unusedVariables false
set_option linter.unusedSimpArgs false
set_option linter.unnecessarySimpa false
set_option linter.unusedSectionVars false
open Go.RowKit
set_option maxRecDepth 1000000
noncomputable def Y16 (l : Nat) (rc : Loop) (out : Nat → Nat) : YC := ⟨p58a_E, p12a_E, l, 7, rc, out, [(2, .ptr 0 0), (3, .ptr 1 0), (4, .ptr 2 0), (5, .ptr 3 0)]⟩
structure RcOK (rc : Loop) : Prop where
  par : rc.params = #[13, 14]
  asg : rc.assign = sc_asg
  bod : rc.body = sc_body
  tm : rc.tmps.size = 27
theorem Y16_ok {l : Nat} {rc : Loop} {out : Nat → Nat} (ho : 1 ≤ out l) : (Y16 l rc out).OK := ⟨mixed16, rfl, ho⟩
section
variable {l : Nat} {rc : Loop} {out : Nat → Nat}
theorem pc (ho : 1 ≤ out l) {c : Code} {Q : AX → ASt → AX → Prop} {j ax : AX} {σ σt : ASt} (h : ∀ K, exK p58a_X c K σ = K ax σt) (hq : Q ax σt j) : Tr (Y16 l rc out) c Q j σ :=
  Tr.of_awp (Y16_ok ho) (piece_awp (X := p58a_X) SS_ok.V SS_ok.W (CC_sound mixed16 SS_ok C16_ok) (LL_sound mixed16 SS_ok C16_ok rfl) h) (by rintro e σ' ⟨rfl, rfl⟩; exact hq)
theorem ops_awp {ops : Array Oper} {os : List Oper} {σ σt : ASt} (h : ∀ K : ASt → R, exOps p58a_X false ops os K σ = K σt) : awpOps p58a_E ops os (fun σ' => σ' = σt) σ := by
  have h1 : exOps p58a_X false ops os (fun σ' => onlyK .normal σt .normal σ') σ = some (.nilp, []) := by rw [h]; simp [onlyK]
  refine awpOps_mono (fun σ' he => ?_) _ (exOps_sound (X := p58a_X) SS_ok.V SS_ok.W (CC_sound mixed16 SS_ok C16_ok) os h1)
  unfold onlyK at he
  split at he
  · rename_i h; exact h.2
  · cases he
end
abbrev sl5 (l : Nat) (s : ByteArray) (t : Slots) : Slots := (0, .func (.yield l) [] []) :: (1, .cst (.str s)) :: (3, .ptr 4 0) :: (4, .ptr 5 0) :: (5, .ptr 6 0) :: t
theorem take_drop_succ {α : Type} {l : List α} {i m : Nat} (h : i < l.length) : (l.drop i).take (m + 1) = l[i] :: (l.drop (i + 1)).take m := by
  rw [List.drop_eq_getElem_cons h, List.take_succ_cons]
/-! ### the loop that counts lines -/
theorem lineL (l : Nat) (K : AX → ASt → R) (full : List UInt8) (L : List PV) (c1 c2 c3 : Int) (at_ g : Nat) (hg : at_ + g ≤ full.length) (hf : full.length ≤ 1000000) : ∀ (m i line start : Nat), i + m = at_ + g → line ≤ i + 1 →
    p58b_L4 l K (bs full) (g : Int) (i : Int) L c1 c2 c3 (line : Int) (start : Int) (at_ : Int) =
      K .normal ⟨sl5 l (bs full) [(6, .int .i64 (g : Int)), (7, .int .i64 ((at_ + g : Nat) : Int)), (19, .int .i64 ((at_ + g : Nat) : Int)), (20, .int .i64 (at_ : Int)), (21, .int .i64 (g : Int)), (22, .int .i64 ((at_ + g : Nat) : Int)), (23, .bool false)],
        H58 L c1 c2 c3 ((nlS ((full.drop i).take m) i (line, start)).1 : Nat) ((nlS ((full.drop i).take m) i (line, start)).2 : Nat) (at_ : Int)⟩ := by
  have hw : IntKind.i64.wrap ((at_ : Int) + (g : Int)) = ((at_ + g : Nat) : Int) := by rw [wrap64 (by omega) (by omega)]; omega
  intro m
  induction m with
  | zero =>
    intro i line start hi hl
    rw [p58b_L4_eq, hw, decF (by omega), bsel_false, List.take_zero]
    have : i = at_ + g := by omega
    subst this
    rfl
  | succ m ih =>
    intro i line start hi hl
    have hlt : i < full.length := by omega
    rw [p58b_L4_eq, hw, decT (by omega), bsel_true, byteX_of (b := full[i]) (by omega) (by rw [bs_get]; simp [hlt]), show ((full[i].toNat : Int) == 10) = (full[i].toNat == 10) from beqN _ 10, wrs (by omega), wrs (by omega), take_drop_succ hlt, nlS]
    by_cases hb : full[i] = 10
    · rw [hb, show ((10 : UInt8).toNat == 10) = true from rfl, bsel_true, if_pos rfl]
      exact ih (i + 1) (line + 1) (i + 1) (by omega) (by omega)
    · have : (full[i].toNat == 10) = false := by
        rw [beq_eq_false_iff_ne]; intro e; exact hb (UInt8.toNat_inj.1 (by rw [e]; rfl))
      rw [this, bsel_false, if_neg hb]
      exact ih (i + 1) line start (by omega) (by omega)
/-! ### which rule -/
def ruleF (b : UInt8) : Nat := if isDig b.toNat then 81 else if isLet b.toNat then 79 else 61
theorem ruleL (l : Nat) (K : AX → ASt → R) (full : List UInt8) (L : List PV) (c1 c2 c3 line start : Int) (at_ : Nat) (h : at_ < full.length) :
    exK p58a_X p8_c K ⟨sl5 l (bs full) [(8, c8P), (9, .func (.func 61) [] [])], H58 L c1 c2 c3 line start (at_ : Int)⟩ =
      K .normal ⟨sl5 l (bs full) [(8, c8P), (9, .func (.func (ruleF full[at_])) [] []), (47, .sl false 2 RL), (48, .int .i64 (RL.length : Int)), (49, .int .i64 2), (50, .bool false)], H58 L c1 c2 c3 line start (at_ : Int)⟩ := by
  have hb : ((bs full)[(at_ : Int).toNat]? : Option UInt8) = some full[at_] := by rw [Int.toNat_natCast, bs_get]; simp [h]
  rw [L8_start, L8_0, byteX_of (by omega) hb, clX_of (c78 _), vB_mk]
  unfold ruleF
  cases isLet full[at_].toNat
  · rw [bsel_false, L8_1, byteX_of (by omega) hb, clX_of (c80 _), vB_mk]
    cases isDig full[at_].toNat
    · rw [bsel_false, L8_2]; rfl
    · rw [bsel_true, L8_2]; rfl
  · rw [bsel_true, L8_1, byteX_of (by omega) hb, clX_of (c80 _), vB_mk]
    cases isDig full[at_].toNat
    · rw [bsel_false, L8_2]; rfl
    · rw [bsel_true, L8_2]; rfl
end Go.Proofs.Ytoajpgclgdhhlaa

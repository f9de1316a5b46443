/-
  The model's token and scan are Scan.
-/
import Derived.Test.YtoajpgclgdhhlaaC16s
namespace Go.Proofs.Ytoajpgclgdhhlaa.W
set_option linter.unusedVariables false
set_option linter.unusedSimpArgs false
set_option linter.unnecessarySimpa false
set_option linter.unusedSectionVars false
open Go.RowKit
set_option maxRecDepth 1000000
theorem dig_W : ∀ (l : List UInt8), (runS isDig l).length ≤ (runS isW l).length
  | [] => by simp [runS]
  | b :: l => by
    have := dig_W l
    unfold runS at *
    rw [List.takeWhile_cons, List.takeWhile_cons]
    cases hd : isDig b.toNat with
    | false => simp
    | true =>
      rw [show isW b.toNat = true by simp [isW, hd]]
      simp; exact this
theorem eqB_N {n : Nat} (h : n ≠ 0) : ((n : Int) == 0) = false := by rw [beq_eq_false_iff_ne]; omega
theorem run_pos0 {p : Nat → Bool} {b : UInt8} {r : List UInt8} : (runS p (b :: r)).length = 0 ↔ p b.toNat = false := by
  unfold runS
  rw [List.takeWhile_cons]
  cases p b.toNat <;> simp
theorem m42 (b : UInt8) (r : List UInt8) (hl : (b :: r).length ≤ 1000000) : SS.CC 42 [.str (bs (b :: r))] [] = Ret (rd (readS (b :: r))) := by
  rw [g42_eq, show (0 : Int) = ((0 : Nat) : Int) from rfl, m42L (b :: r) hl (b :: r).length 0 (by omega) (by omega), g42_J5_eq]
  have hb : ∀ {K : Int → R}, byteX (bs (b :: r)) 0 K = K b.toNat := fun {K} => byteX_of (by omega) (by rw [bs_get]; rfl)
  have hW := runS_le isW (b :: r)
  have hDW := dig_W (b :: r)
  have hdig : ∀ c, c ∈ runS isDig (b :: r) → isDig c.toNat = true := fun c hc => runS_mem hc
  rw [show readS (b :: r) = if isDig b.toNat then numberS (b :: r) else if isLet b.toNat then wordS (b :: r) else symbolS (b :: r) from rfl]
  cases hw : isW b.toNat with
  | false =>
    have h0 : (runS isW (b :: r)).length = 0 := run_pos0.2 hw
    have hD : isDig b.toNat = false := by
      unfold isW at hw; simp at hw; exact hw.2
    have hL : isLet b.toNat = false := by
      unfold isW at hw; simp at hw; exact hw.1
    rw [h0, show (((0 : Nat) : Int) == 0) = true from rfl, bsel_true, clX_of (m72 _), vS_mk, hD, hL, if_neg (by decide), if_neg (by decide), bs_toList]
    unfold symbolS
    cases hs : symOf (b :: r) with
    | none =>
      rw [Option.getD_none, show (⟨#[]⟩ : ByteArray).toList = [] from bs_toList []]
      rfl
    | some x =>
      have := syms_pos x (symOf_mem hs).1
      simp only [Option.getD_some]
      have h2 : (x == (⟨#[]⟩ : ByteArray).toList) = false := by
        rw [beq_eq_false_iff_ne]; intro e
        rw [e] at this
        have h3 : (⟨#[]⟩ : ByteArray).toList = [] := bs_toList []
        rw [h3] at this; simp at this
      rw [h2]; rfl
  | true =>
    have h0 : (runS isW (b :: r)).length ≠ 0 := fun h => by rw [run_pos0.1 h] at hw; cases hw
    rw [eqB_N h0, bsel_false]
    simp only [hb, clX_of (m73 b.toNat), vB_mk]
    cases hD : isDig b.toNat with
    | false =>
      have hL : isLet b.toNat = true := by
        unfold isW at hw; simpa [hD] using hw
      simp only [hL, Bool.not_false, bsel_true, if_true, Bool.false_eq_true, if_false]
      unfold wordS
      by_cases h32 : 32 < (runS isW (b :: r)).length
      · rw [decT (by omega), bsel_true, if_pos h32]; rfl
      · rw [decF (by omega), bsel_false, if_neg h32, chk_of (by rw [bs_size, decT (by omega), decT (by omega)]; rfl), bs_extract, show ((((runS isW (b :: r)).length : Nat) : Int)).toNat = (runS isW (b :: r)).length from rfl, Nat.sub_zero, List.drop_zero, ← run_take]; rfl
    | true =>
      simp only [Bool.not_true, bsel_false, if_true]
      rw [g42_J14_eq, show (0 : Int) = ((0 : Nat) : Int) from rfl, m42D (b :: r) _ hW hl _ 0 (Nat.zero_add _) (by omega)]
      unfold numberS
      by_cases hlt : (runS isDig (b :: r)).length < (runS isW (b :: r)).length
      · rw [if_neg (by omega), if_pos hlt]
      · have hlen : (runS isW (b :: r)).length = (runS isDig (b :: r)).length := by omega
        rw [if_pos (by omega), if_neg hlt, g42_L15_eq, decF (by omega), bsel_false, hb, hlen]
        have htk : (bs (b :: r)).extract 0 (((runS isDig (b :: r)).length : Nat) : Int).toNat = bs (runS isDig (b :: r)) := by
          rw [bs_extract, show (((runS isDig (b :: r)).length : Nat) : Int).toNat = (runS isDig (b :: r)).length from rfl, Nat.sub_zero, List.drop_zero, ← run_take]
        have hJ : g42_J21 (bs (b :: r)) ((runS isDig (b :: r)).length : Int) = Ret (rd (match numL (runS isDig (b :: r)) 0 with | none => (.zero, 2) | some n => (⟨2, runS isDig (b :: r), n, 0, 0⟩, 0))) := by
          have hc : (decide ((0 : Int) ≤ ((runS isDig (b :: r)).length : Int)) && decide (((runS isDig (b :: r)).length : Int) ≤ ((bs (b :: r)).size : Int))) = true := by
            rw [bs_size, decT (by omega), decT (by omega)]; rfl
          rw [g42_J21_eq, chk_of hc, htk, clX_of (m74 _ hdig (by omega)), vI_mk, chk_of hc, chk_of hc, clX_of (m74 _ hdig (by omega)), vI_mk, val_num _ 0 (by omega)]
          by_cases hv : 65536 < valS (runS isDig (b :: r)) 0
          · rw [decT (by omega), bsel_true, if_pos hv]; rfl
          · rw [decF (by omega), bsel_false, if_neg hv]; rfl
        have hd0 : (runS isDig (b :: r))[0]? = some b := by
          unfold runS; rw [List.takeWhile_cons, hD]; rfl
        rw [hd0, show ((b.toNat : Int) == 48) = (b.toNat == 48) from beqN _ 48]
        by_cases h48 : b = 48
        · subst h48
          rw [show ((48 : UInt8).toNat == 48) = true from rfl, bsel_true]
          by_cases h1 : 1 < (runS isDig ((48 : UInt8) :: r)).length
          · rw [decT (by omega), bsel_true, if_pos ⟨h1, rfl⟩]; rfl
          · rw [decF (by omega), bsel_false, if_neg (fun h => h1 h.1), hJ]; rfl
        · have : (b.toNat == 48) = false := by
            rw [beq_eq_false_iff_ne]; intro e; exact h48 (UInt8.toNat_inj.1 (by rw [e]; rfl))
          rw [this, bsel_false, if_neg (fun h => h48 (by injection h.2)), hJ]; rfl
end Go.Proofs.Ytoajpgclgdhhlaa.W

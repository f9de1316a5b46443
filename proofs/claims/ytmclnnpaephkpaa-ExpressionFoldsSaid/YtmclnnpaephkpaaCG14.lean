/-
  The statement ExpressionFolds: what its law answers.
-/
import Derived.Test.YtmclnnpaephkpaaCF14
namespace Go.Proofs.Ytmclnnpaephkpaa.W
set_option linter.unusedVariables false
set_option linter.unusedSimpArgs false
set_option linter.unnecessarySimpa false
set_option linter.unusedSectionVars false
open Go.RowKit
set_option maxRecDepth 100000
theorem ev_ofW {g : FuncId} {args : List PV} {r : PV} (h : SS.CC g args [] = Ret r) : Ev Try.prog g args [] r [] := CC_sound mixed14 SS_ok CSW_ok g args [] r [] h
theorem w23_3e (e : EX) (n : Int) (K : Int → Int → Int → List PV → Int → R) : w_23_3 (.tuple [encE e, .int .i64 n]) K = K e.op e.val e.idx (encL e.args) n := by cases e; rfl
theorem intL_enc (l : List Int) : intL l = encI l := rfl
theorem tz1 : triE zeroE := by
  unfold zeroE; rw [triE]; exact ⟨by simp, trivial⟩
theorem selU_len (p : Int → Bool) : ∀ (m : Nat) (v : Int), (selU p m v).length ≤ m
  | 0, _ => by simp [selU]
  | m + 1, v => by
    have := selU_len p m (v + 1)
    rw [selU]; split <;> simp <;> omega
theorem fin11 (A : List PV) (j : Int) (hj : ¬ j < 2) : g11_L6 A j = Ret (.bool true) := by
  have k38 : SS.CC 38 [] [] = Ret (encE trueE) := up rfl c38
  have k40 : SS.CC 40 [] [] = Ret (encE falseE) := up rfl c40
  rw [g11_L6_eq, decF hj, bsel_false, clX_of k38, w23, clX_of (k39 true), w23]
  simp only [mkE, truth_true]
  rw [clX_of (k17 _ _ tt1 tt1), vB_mk, sameE_refl, bsel_true, clX_of k40, w23, clX_of (k39 false), w23]
  simp only [mkE, truth_false]
  rw [clX_of (k17 _ _ tf1 tf1), vB_mk, sameE_refl]
theorem l18 (xs : List EX) (j : Nat) (e : EX) (hy : xs[j]? = some e) (hj : j < 100) (ht : triE e) (u : List Int) (hu : u.length ≤ 16) : ∀ (m v k : Nat), v + m = 16 → k ≤ u.length → u.drop k = selU (fun x => occE x e) m v →
    g11_L18 (encL xs) (intL u) (v : Int) (k : Int) (j : Int) = g11_L6 (encL xs) ((j + 1 : Nat) : Int)
  | 0, v, k, h, hk, hd => by
    have : u.length ≤ k := by rw [selU] at hd; exact List.drop_eq_nil_iff.1 hd
    rw [g11_L18_eq, decF (by omega), bsel_false, intL_len, neF (by omega), bsel_false, wrs (by omega)]
  | m + 1, v, k, h, hk, hd => by
    rw [g11_L18_eq, decT (by omega), bsel_true, lget_encL hy, w23, mkE, clX_of (c37 _ e ht), vB_mk, wrs (by omega)]
    rw [selU] at hd
    cases hp : occE (v : Int) e with
    | false =>
      rw [if_neg (by simp [hp])] at hd
      rw [Bool.not_false, bsel_true]
      exact l18 xs j e hy hj ht u hu m (v + 1) k (by omega) hk hd
    | true =>
      rw [if_pos hp] at hd
      have hk1 : k < u.length := by
        by_cases h1 : k < u.length
        · exact h1
        · rw [List.drop_of_length_le (by omega)] at hd; cases hd
      have hg : u[k]? = some (v : Int) := by
        have := congrArg List.head? hd
        rw [List.head?_drop] at this; simpa using this
      have hd2 : u.drop (k + 1) = selU (fun x => occE x e) m ((v : Int) + 1) := by
        have := congrArg List.tail hd
        rw [List.tail_drop] at this; simpa using this
      rw [Bool.not_true, bsel_false, intL_len, decF (by omega), bsel_false, intL_enc, lget_encI hg, vI_mk, neF rfl, bsel_false, wrs (by omega), ← intL_enc]
      exact l18 xs j e hy hj ht u hu m (v + 1) (k + 1) (by omega) (by omega) hd2
theorem l11 (xs : List EX) (hx : xs.length = 2) : ∀ (m j : Nat), j + m = 2 → g11_L6 (encL xs) (j : Int) = Ret (.bool true)
  | 0, j, h => fin11 _ _ (by omega)
  | m + 1, j, h => by
    obtain ⟨e, hy⟩ := get_lt (show j < xs.length by omega)
    have hrec := l11 xs hx m (j + 1) (by omega)
    have h25 := up (g := 25) rfl (c25 e)
    have h35 := c35 e
    have h15 := up (g := 15) rfl (c15 e 16)
    have hz : PV.agg [.int .i64 0, .int .i64 0, .int .i64 0, .sl false 4 []] = encE zeroE := constE 0
    rw [g11_L6_eq, decT (by omega), bsel_true, lget_encL hy, w23, mkE, clX_of h25, w23_3e, lget_encL hy, w23, mkE, clX_of h35, w_33_3_mk, lget_encL hy, w23, mkE, clX_of h15, w_3_3_mk, wrs (by omega), intL_len]
    simp only [mkE]
    unfold foldS usesS
    by_cases hc : (checkS e 16).2 = 0
    · obtain ⟨hr, _, _⟩ := check_right hc
      have fr := foldE_right e hr
      have te := tri_wf e hr.1
      have tf := tri_wf (foldE e) fr.1.1
      have hrg : rangeE 16 e := hr.2.1
      rw [neF hc, bsel_false, if_neg (by simpa using hc), if_pos hc, lget_encL hy, w23, mkE, clX_of (c36 e hr), w23, mkE, clX_of (k17 _ _ tf tf), vB_mk, sameE_refl, Bool.not_true, bsel_false, neF rfl, bsel_false, bsel_false]
      have hu := use_sel hrg
      have := l18 xs j e hy (by omega) te (useS (uvE e)) (by rw [hu]; exact selU_len _ _ _) 16 0 0 (by omega) (by omega) (by rw [List.drop_zero]; exact hu)
      exact this.trans hrec
    · rw [neT hc, bsel_true, if_pos (by simpa using hc), if_neg hc, hz, clX_of (k17 _ _ tz1 tz1), vB_mk, sameE_refl, Bool.not_true, bsel_false, neF rfl, bsel_false, bsel_false]
      exact hrec
theorem c11 (a : List UInt8) (x : EX) (ha : a.length ≤ lenMax) : SS.CC 11 [.sl false 1 (encB a), encE x] [] = Ret (.bool true) := by
  have k12 : SS.CC 12 [] [] = Ret (.bool true) := up rfl c12
  have k13 := up (g := 13) rfl (c13 x)
  have hk0 : (a.length : Int).tmod 2 = (a.length : Int) % 2 := Int.tmod_eq_emod_of_nonneg (by omega)
  have k18 := up (g := 18) rfl (c18 a 3 (1 + (a.length : Int) % 2) ha (by decide) (by omega))
  have h := l11 [GrowS a 3 (1 + (a.length : Int) % 2), x] rfl 2 0 (by omega)
  obtain ⟨o, v, i, l⟩ := x
  rw [encE_eq] at k13
  rw [encE_eq, g11_eq, clX_of k12, vB_mk, Bool.not_true, bsel_false, clX_of k13, vB_mk]
  cases smallE (.node o v i l)
  · rw [Bool.not_false, bsel_true, clX_of k12, vB_mk]
  · rw [Bool.not_true, bsel_false, encB_length, hk0, wr (n := 1 + _) (by omega) (by omega), clX_of k18, w23, mkE]
    rw [encL, encL, encL, encE_eq o v i l] at h
    exact h
end Go.Proofs.Ytmclnnpaephkpaa.W

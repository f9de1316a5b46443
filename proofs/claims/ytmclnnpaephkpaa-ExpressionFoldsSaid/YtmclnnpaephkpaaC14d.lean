/-
  What the functions of chapter 14 answer: values.
-/
import Derived.Test.YtmclnnpaephkpaaC14c
namespace Go.Proofs.Ytmclnnpaephkpaa
set_option linter.unusedVariables false
set_option linter.unusedSimpArgs false
set_option linter.unnecessarySimpa false
set_option linter.unusedSectionVars false
open Go.RowKit

theorem lget0 (a : Int) (l : List Int) (K : PV → R) : lgetX (encI (a :: l)) 0 K = K (.int .i64 a) := lgetX_of (by decide) rfl
theorem lget1 (a b : Int) (l : List Int) (K : PV → R) : lgetX (encI (a :: b :: l)) 1 K = K (.int .i64 b) := lgetX_of (by decide) rfl
theorem mul_bd {a b : Int} (h1 : -1073741824 ≤ a) (h2 : a ≤ 1073741824) (h3 : -1073741824 ≤ b) (h4 : b ≤ 1073741824) : -9223372036854775808 ≤ a * b ∧ a * b ≤ 9223372036854775807 := by
  have k1 : a.natAbs ≤ 1073741824 := by omega
  have k2 : b.natAbs ≤ 1073741824 := by omega
  have k3 := Nat.mul_le_mul k1 k2
  rw [← Int.natAbs_mul] at k3
  omega
theorem c71 (o : Int) (ns : List Int) (h : AppOK o ns) : SS.CC 71 [.int .i64 o, .sl false 1 (encI ns)] [] = Ret (.int .i64 (applyS o ns)) := by
  rw [g71_eq]
  rcases h with ⟨a, rfl, ho, h1, h2⟩ | ⟨a, b, rfl, ho, h1, h2, h3, h4⟩ | ⟨a, b, rfl, ho, ha, hb⟩
  · rcases ho with rfl | rfl
    · simp only [lget0, vI_mk]; rw [wr (by omega) (by omega)]; simp [applyS]
    · simp only [lget0, vI_mk]; rw [wr (n := 1 - a) (by omega) (by omega)]; simp [applyS]
  · have hm := mul_bd h1 h2 h3 h4
    rcases ho with rfl | rfl | rfl | rfl | rfl | rfl | rfl <;> simp only [lget0, lget1, vI_mk, clX_of (c80 _)]
    · rw [wr (n := a + b) (by omega) (by omega)]; simp [applyS]
    · rw [wr (n := a - b) (by omega) (by omega)]; simp [applyS]
    · rw [wr (n := a * b) hm.1 hm.2]; simp [applyS]
    all_goals simp [applyS]
  · rcases ho with rfl | rfl <;> simp only [lget0, lget1, vI_mk] <;> rcases ha with rfl | rfl <;> rcases hb with rfl | rfl <;> kernel_rfl
theorem c51 (o : Int) (ns : List Int) (h : AppOK o ns) : SS.CC 51 [.int .i64 o, .sl false 1 (encI ns)] [] = Ret (.int .i64 (applyS o ns)) := by
  rw [g51_eq]
  rcases h with ⟨a, rfl, ho, h1, h2⟩ | ⟨a, b, rfl, ho, h1, h2, h3, h4⟩ | ⟨a, b, rfl, ho, ha, hb⟩
  · rcases ho with rfl | rfl
    · simp only [lget0, vI_mk]; rw [wr (by omega) (by omega)]; simp [applyS]
    · simp only [lget0, vI_mk]; rw [wr (n := 1 - a) (by omega) (by omega)]; simp [applyS]
  · have hm := mul_bd h1 h2 h3 h4
    rcases ho with rfl | rfl | rfl | rfl | rfl | rfl | rfl <;> simp only [lget0, lget1, vI_mk, clX_of (c53 _)]
    · rw [wr (n := a + b) (by omega) (by omega)]; simp [applyS]
    · rw [wr (n := a - b) (by omega) (by omega)]; simp [applyS]
    · rw [wr (n := a * b) hm.1 hm.2]; simp [applyS]
    all_goals simp [applyS]
  · rcases ho with rfl | rfl <;> simp only [lget0, lget1, vI_mk] <;> rcases ha with rfl | rfl <;> rcases hb with rfl | rfl <;> kernel_rfl
/-- The number that comes back where a value overflows: 0, but for the last operation's result. -/
def evQ (vs : List Int) : EX → Int
  | .node o v i l =>
    if o = 0 then v
    else if o = 1 then vs.getD i.toNat 0
    else if o = 13 then
      match l with
      | c :: a :: b :: _ => match evalE vs c with
        | none => 0
        | some n => if n = 1 then evQ vs a else evQ vs b
      | _ => 0
    else match evalL vs l with
      | none => 0
      | some ns => applyS o ns
theorem evalL_snoc (vs : List Int) : ∀ (l : List EX) (k : Nat) (y : EX) (ns : List Int), l[k]? = some y → evalL vs (l.take k) = some ns → evalL vs (l.take (k + 1)) = (evalE vs y).map fun n => ns ++ [n]
  | [], k, y, ns, h, _ => by simp at h
  | e :: l, 0, y, ns, h, h2 => by
    simp at h; subst h
    simp [evalL] at h2; subst h2
    simp only [List.take_succ_cons, List.take_zero, evalL]
    cases evalE vs e <;> simp
  | e :: l, k + 1, y, ns, h, h2 => by
    rw [List.take_succ_cons, evalL] at h2 ⊢
    cases he : evalE vs e with
    | none => rw [he] at h2; simp at h2
    | some q =>
      rw [he] at h2
      simp only at h2 ⊢
      cases h3 : evalL vs (l.take k) with
      | none => rw [h3] at h2; simp at h2
      | some ms =>
        rw [h3] at h2
        simp at h2
        subst h2
        rw [evalL_snoc vs l k y ms (by simpa using h) h3]
        cases evalE vs y <;> simp
theorem evalL_fail (vs : List Int) : ∀ (l : List EX) (y : EX), y ∈ l → evalE vs y = none → evalL vs l = none
  | e :: l, y, h, h2 => by
    rw [evalL]
    rcases List.mem_cons.1 h with rfl | h
    · rw [h2]
    · cases evalE vs e with
      | none => rfl
      | some q => simp only; rw [evalL_fail vs l y h h2]; rfl
theorem evQ_some (vs : List Int) : ∀ e r, evalE vs e = some r → evQ vs e = r := by
  refine EX.ind fun o v i l ih => ?_
  intro r h
  unfold evalE at h
  unfold evQ
  split at h
  · rename_i h0; rw [if_pos h0]; simpa using h
  · rename_i h0
    rw [if_neg h0]
    split at h
    · rename_i h1; rw [if_pos h1]; simpa using h
    · rename_i h1
      rw [if_neg h1]
      split at h
      · rename_i h13
        rw [if_pos h13]
        split at h
        · rename_i c a b t
          simp only
          split at h
          · cases h
          · rename_i n hc
            rw [hc]
            simp only
            split at h
            · rename_i h2; rw [if_pos h2]; exact ih a (by simp) r h
            · rename_i h2; rw [if_neg h2]; exact ih b (by simp) r h
        · cases h
      · rename_i h13
        rw [if_neg h13]
        split at h
        · cases h
        · rename_i ns hns
          rw [hns]
          simp only
          split at h
          · cases h
          · simpa using h
theorem evalE0 (vs : List Int) (v i : Int) (l : List EX) : evalE vs (.node 0 v i l) = some v := by unfold evalE; simp
theorem evalE1 (vs : List Int) (v i : Int) (l : List EX) : evalE vs (.node 1 v i l) = some (vs.getD i.toNat 0) := by unfold evalE; simp
theorem evalE13 (vs : List Int) (v i : Int) (c a b : EX) (l : List EX) : evalE vs (.node 13 v i (c :: a :: b :: l)) = (match evalE vs c with | none => none | some n => if n = 1 then evalE vs a else evalE vs b) := by
  conv => lhs; unfold evalE
  simp
  rfl
theorem evQ0 (vs : List Int) (v i : Int) (l : List EX) : evQ vs (.node 0 v i l) = v := by unfold evQ; simp
theorem evQ1 (vs : List Int) (v i : Int) (l : List EX) : evQ vs (.node 1 v i l) = vs.getD i.toNat 0 := by unfold evQ; simp
theorem evQ13 (vs : List Int) (v i : Int) (c a b : EX) (l : List EX) : evQ vs (.node 13 v i (c :: a :: b :: l)) = (match evalE vs c with | none => 0 | some n => if n = 1 then evQ vs a else evQ vs b) := by
  conv => lhs; unfold evQ
  simp
abbrev EvV (vs : List Int) (e : EX) : PV := .tuple [.int .i64 (evQ vs e), .bool (evalE vs e).isSome]
def VsOK (vs : List Int) : Prop := ∀ q, q ∈ vs → -65536 ≤ q ∧ q ≤ 65536
theorem evQ_op {vs : List Int} {o v i : Int} {l : List EX} (h : o ≠ 0 ∧ o ≠ 1 ∧ o ≠ 13) : EvV vs (.node o v i l) = (match evalL vs l with | none => .tuple [.int .i64 0, .bool false] | some ns => .tuple [.int .i64 (applyS o ns), .bool (!(largeS (applyS o ns) 1073741824))]) := by
  unfold EvV
  unfold evQ
  unfold evalE
  rw [if_neg h.1, if_neg h.2.1, if_neg h.2.2, if_neg h.1, if_neg h.2.1, if_neg h.2.2]
  cases evalL vs l with
  | none => rfl
  | some ns => simp only; cases largeS (applyS o ns) 1073741824 <;> rfl
theorem getI {vs : List Int} {i : Int} {K : PV → R} (h0 : 0 ≤ i) (h1 : i < vs.length) : lgetX (encI vs) i K = K (.int .i64 (vs.getD i.toNat 0)) :=
  lgetX_of h0 (by
    have : i.toNat < vs.length := by omega
    simp [encI, List.getElem?_eq_getElem this, List.getD_eq_getElem?_getD])
theorem lgetE {l : List EX} {n : Int} {y : EX} {K : PV → R} (h0 : 0 ≤ n) (h : l[n.toNat]? = some y) : lgetX (encL l) n K = K (encE y) := lgetX_of h0 (by rw [encL_map]; simp [h])
theorem l50 (vs : List Int) (o v i : Int) (l : List EX) (ho : o ≠ 0 ∧ o ≠ 1 ∧ o ≠ 13) (hl3 : l.length ≤ 3) (ih : ∀ e, e ∈ l → SS.CC 50 [encE e, .sl false 1 (encI vs)] [] = Ret (EvV vs e)) (hok : ∀ ns, evalL vs l = some ns → AppOK o ns) :
    ∀ (m k : Nat) (ns : List Int), k + m = l.length → ns.length = k → evalL vs (l.take k) = some ns → g50_L14 (encI vs) o v i (encL l) (encI ns) k = Ret (EvV vs (.node o v i l))
  | 0, k, ns, h, hn, hk => by
    rw [List.take_of_length_le (by omega)] at hk
    rw [g50_L14_eq, decF (by simp; omega), bsel_false, clX_of (c71 o ns (hok ns hk)), vI_mk, clX_of (c49 _ _ (by omega) (by omega)), vB_mk, evQ_op ho, hk]
  | m + 1, k, ns, h, hn, hk => by
    obtain ⟨y, hy⟩ := get_lt (show k < l.length by omega)
    have hi := ih y (get_mem hy)
    have hs := evalL_snoc vs l k y ns hy hk
    have hf := evalL_fail vs l y (get_mem hy)
    rw [g50_L14_eq, decT (by simp; omega), bsel_true, lget_encL hy]
    cases hv : evalE vs y with
    | none =>
      rw [evQ_op ho, hf hv]
      simp only [EvV, hv] at hi
      obtain ⟨o', v', i', l'⟩ := y
      rw [encE_eq] at hi
      rw [v23_enc, clX_of hi, w_3_4_mk]; rfl
    | some q =>
      simp only [EvV, hv, evQ_some vs y q hv] at hi
      rw [hv] at hs
      obtain ⟨o', v', i', l'⟩ := y
      rw [encE_eq] at hi
      rw [v23_enc, clX_of hi, w_3_4_mk]
      simp only [Option.isSome_some, Bool.not_true, bsel_false]
      rw [chk_of (decT (by simp [LIM]; omega)), wrs (by omega)]
      have := l50 vs o v i l ho hl3 ih hok m (k + 1) (ns ++ [q]) (by omega) (by simp [hn]) hs
      rw [encI_app] at this
      exact this
theorem c50 (vs : List Int) (hvs : VsOK vs) : ∀ e, RightE vs.length e → SS.CC 50 [encE e, .sl false 1 (encI vs)] [] = Ret (EvV vs e) := by
  refine EX.ind fun o v i l ih hr => ?_
  have hra := wf_args hr
  have hw : argsS o = some (l.length : Int) := by have := hr.1; rw [wfE] at this; exact this.1
  have ha := argsS_at hw
  rw [encE_eq, g50_eq]
  by_cases h0 : o = 0
  · subst h0; simp [EvV, evQ0, evalE0]
  by_cases h1 : o = 1
  · subst h1
    have hrg : 0 ≤ i ∧ i < vs.length := by
      have := hr.2.1; rw [rangeE] at this
      simp at this; omega
    rw [show ((1 : Int) == 0) = false by decide, bsel_false, show ((1 : Int) == 1) = true by decide, bsel_true, getI hrg.1 hrg.2, vI_mk]
    simp [EvV, evQ1, evalE1]
  by_cases h13 : o = 13
  · subst h13
    obtain ⟨c, x, y, rfl⟩ := ha.2.2.2.2.1 rfl
    have hic := ih c (by simp) (hra c (by simp))
    have hix := ih x (by simp) (hra x (by simp))
    have hiy := ih y (by simp) (hra y (by simp))
    have hk : kindE c = 2 := by
      rcases kind_args hr.1 hr.2.2 with h | h | h | h | h | h | ⟨_, c', a', b', e, _, _, _, h, _⟩
      · exact absurd h.1 (by omega)
      · exact absurd h.1 (by omega)
      · exact absurd h.1 (by omega)
      · exact absurd h.1 (by omega)
      · exact absurd h.1 (by omega)
      · exact absurd h.1 (by omega)
      · simp at e; rw [e.1]; exact h
    rw [show ((13 : Int) == 0) = false by decide, bsel_false, show ((13 : Int) == 1) = false by decide, bsel_false, show ((13 : Int) == 13) = true by decide, bsel_true, lgetE (y := c) (by decide) rfl]
    cases hv : evalE vs c with
    | none =>
      simp only [EvV, hv] at hic
      obtain ⟨o', v', i', l'⟩ := c
      rw [encE_eq] at hic
      rw [v23_enc, clX_of hic, w_3_4_mk]
      simp [EvV, evQ13, evalE13, hv]
    | some q =>
      have hq : q = 0 ∨ q = 1 := (evalE_ok hvs c (hra c (by simp)) q hv).2.2 hk
      have hE : EvV vs (.node 13 v i [c, x, y]) = if q = 1 then EvV vs x else EvV vs y := by
        unfold EvV
        rw [evQ13, evalE13, hv]
        by_cases e : q = 1 <;> simp [e]
      rw [hE]
      simp only [EvV, hv, evQ_some vs c q hv] at hic
      obtain ⟨o', v', i', l'⟩ := c
      rw [encE_eq] at hic
      rw [v23_enc, clX_of hic, w_3_4_mk]
      simp only [Option.isSome_some, Bool.not_true, bsel_false]
      rcases hq with rfl | rfl
      · rw [wr (by omega) (by omega), lgetE (y := y) (by decide) rfl]
        obtain ⟨o2, v2, i2, l2⟩ := y
        rw [encE_eq] at hiy
        rw [v23_enc, clX_of hiy, w_3_4_mk]; simp
      · rw [wr (by omega) (by omega), lgetE (y := x) (by decide) rfl]
        obtain ⟨o2, v2, i2, l2⟩ := x
        rw [encE_eq] at hix
        rw [v23_enc, clX_of hix, w_3_4_mk]; simp
  · rw [show (o == 0) = false by simpa using h0, bsel_false, show (o == 1) = false by simpa using h1, bsel_false, show (o == 13) = false by simpa using h13, bsel_false]
    exact l50 vs o v i l ⟨h0, h1, h13⟩ (by have := argsS_le hw; omega) (fun e he => ih e he (hra e he)) (fun ns hns => app_ok hr.1 hr.2.2 ⟨h0, h1, h13⟩ hns fun e he r hv => evalE_ok hvs e (hra e he) r hv) l.length 0 [] (by omega) rfl (by simp [evalL])
theorem l21 (vs : List Int) (o v i : Int) (l : List EX) (ho : o ≠ 0 ∧ o ≠ 1 ∧ o ≠ 13) (hl3 : l.length ≤ 3) (ih : ∀ e, e ∈ l → SS.CC 21 [encE e, .sl false 1 (encI vs)] [] = Ret (EvV vs e)) (hok : ∀ ns, evalL vs l = some ns → AppOK o ns) :
    ∀ (m k : Nat) (ns : List Int), k + m = l.length → ns.length = k → evalL vs (l.take k) = some ns → g21_L14 (encI vs) o v i (encL l) (encI ns) k = Ret (EvV vs (.node o v i l))
  | 0, k, ns, h, hn, hk => by
    rw [List.take_of_length_le (by omega)] at hk
    rw [g21_L14_eq, decF (by simp; omega), bsel_false, clX_of (c51 o ns (hok ns hk)), vI_mk, clX_of (c19 _ _ (by omega) (by omega)), vB_mk, evQ_op ho, hk]
  | m + 1, k, ns, h, hn, hk => by
    obtain ⟨y, hy⟩ := get_lt (show k < l.length by omega)
    have hi := ih y (get_mem hy)
    have hs := evalL_snoc vs l k y ns hy hk
    have hf := evalL_fail vs l y (get_mem hy)
    rw [g21_L14_eq, decT (by simp; omega), bsel_true, lget_encL hy]
    cases hv : evalE vs y with
    | none =>
      rw [evQ_op ho, hf hv]
      simp only [EvV, hv] at hi
      obtain ⟨o', v', i', l'⟩ := y
      rw [encE_eq] at hi
      rw [v23_enc, clX_of hi, w_3_4_mk]; rfl
    | some q =>
      simp only [EvV, hv, evQ_some vs y q hv] at hi
      rw [hv] at hs
      obtain ⟨o', v', i', l'⟩ := y
      rw [encE_eq] at hi
      rw [v23_enc, clX_of hi, w_3_4_mk]
      simp only [Option.isSome_some, Bool.not_true, bsel_false]
      rw [chk_of (decT (by simp [LIM]; omega)), wrs (by omega)]
      have := l21 vs o v i l ho hl3 ih hok m (k + 1) (ns ++ [q]) (by omega) (by simp [hn]) hs
      rw [encI_app] at this
      exact this
theorem c21 (vs : List Int) (hvs : VsOK vs) : ∀ e, RightE vs.length e → SS.CC 21 [encE e, .sl false 1 (encI vs)] [] = Ret (EvV vs e) := by
  refine EX.ind fun o v i l ih hr => ?_
  have hra := wf_args hr
  have hw : argsS o = some (l.length : Int) := by have := hr.1; rw [wfE] at this; exact this.1
  have ha := argsS_at hw
  rw [encE_eq, g21_eq]
  by_cases h0 : o = 0
  · subst h0; simp [EvV, evQ0, evalE0]
  by_cases h1 : o = 1
  · subst h1
    have hrg : 0 ≤ i ∧ i < vs.length := by
      have := hr.2.1; rw [rangeE] at this
      simp at this; omega
    rw [show ((1 : Int) == 0) = false by decide, bsel_false, show ((1 : Int) == 1) = true by decide, bsel_true, getI hrg.1 hrg.2, vI_mk]
    simp [EvV, evQ1, evalE1]
  by_cases h13 : o = 13
  · subst h13
    obtain ⟨c, x, y, rfl⟩ := ha.2.2.2.2.1 rfl
    have hic := ih c (by simp) (hra c (by simp))
    have hix := ih x (by simp) (hra x (by simp))
    have hiy := ih y (by simp) (hra y (by simp))
    have hk : kindE c = 2 := by
      rcases kind_args hr.1 hr.2.2 with h | h | h | h | h | h | ⟨_, c', a', b', e, _, _, _, h, _⟩
      · exact absurd h.1 (by omega)
      · exact absurd h.1 (by omega)
      · exact absurd h.1 (by omega)
      · exact absurd h.1 (by omega)
      · exact absurd h.1 (by omega)
      · exact absurd h.1 (by omega)
      · simp at e; rw [e.1]; exact h
    rw [show ((13 : Int) == 0) = false by decide, bsel_false, show ((13 : Int) == 1) = false by decide, bsel_false, show ((13 : Int) == 13) = true by decide, bsel_true, lgetE (y := c) (by decide) rfl]
    cases hv : evalE vs c with
    | none =>
      simp only [EvV, hv] at hic
      obtain ⟨o', v', i', l'⟩ := c
      rw [encE_eq] at hic
      rw [v23_enc, clX_of hic, w_3_4_mk]
      simp [EvV, evQ13, evalE13, hv]
    | some q =>
      have hq : q = 0 ∨ q = 1 := (evalE_ok hvs c (hra c (by simp)) q hv).2.2 hk
      have hE : EvV vs (.node 13 v i [c, x, y]) = if q = 1 then EvV vs x else EvV vs y := by
        unfold EvV
        rw [evQ13, evalE13, hv]
        by_cases e : q = 1 <;> simp [e]
      rw [hE]
      simp only [EvV, hv, evQ_some vs c q hv] at hic
      obtain ⟨o', v', i', l'⟩ := c
      rw [encE_eq] at hic
      rw [v23_enc, clX_of hic, w_3_4_mk]
      simp only [Option.isSome_some, Bool.not_true, bsel_false]
      rcases hq with rfl | rfl
      · rw [wr (by omega) (by omega), lgetE (y := y) (by decide) rfl]
        obtain ⟨o2, v2, i2, l2⟩ := y
        rw [encE_eq] at hiy
        rw [v23_enc, clX_of hiy, w_3_4_mk]; simp
      · rw [wr (by omega) (by omega), lgetE (y := x) (by decide) rfl]
        obtain ⟨o2, v2, i2, l2⟩ := x
        rw [encE_eq] at hix
        rw [v23_enc, clX_of hix, w_3_4_mk]; simp
  · rw [show (o == 0) = false by simpa using h0, bsel_false, show (o == 1) = false by simpa using h1, bsel_false, show (o == 13) = false by simpa using h13, bsel_false]
    exact l21 vs o v i l ⟨h0, h1, h13⟩ (by have := argsS_le hw; omega) (fun e he => ih e he (hra e he)) (fun ns hns => app_ok hr.1 hr.2.2 ⟨h0, h1, h13⟩ hns fun e he r hv => evalE_ok hvs e (hra e he) r hv) l.length 0 [] (by omega) rfl (by simp [evalL])
end Go.Proofs.Ytmclnnpaephkpaa

/-
  Contracts: Unreachable, Dead, Compact of ints, Uses; the law Reaches.
-/
import Derived.Test.YtiejgieiokmmfaaDoorC52h
namespace Go.Proofs.YtiejgieiokmmfaaDoor
set_option linter.unusedVariables false
set_option linter.unusedSimpArgs false
set_option linter.unnecessarySimpa false
set_option linter.unusedSectionVars false
open Go.RowKit
/-- The places of a list of bits that hold v. -/
def selS (v : Bool) : Nat → List Bool → List Int
  | _, [] => []
  | i, x :: r => if x = v then (i : Int) :: selS v (i + 1) r else selS v (i + 1) r
theorem sel_len (v : Bool) : ∀ (l : List Bool) (i : Nat), (selS v i l).length ≤ l.length
  | [], _ => by simp [selS]
  | x :: l, i => by
    have := sel_len v l (i + 1)
    rw [selS]; split <;> simp <;> omega
theorem l28 (b : List Bool) (hb : b.length ≤ 3000) : ∀ (m k : Nat) (out : List Int), k + m = b.length → out.length ≤ k → g28_L7 (bitL b) ((b.length : Nat) : Int) (intL out) (k : Int) = Ret (.tuple [.sl false 1 (intL (out ++ selS false k (b.drop k))), .int .i64 0]) := by
  intro m
  induction m with
  | zero =>
    intro k out hk ho
    rw [g28_L7_eq, decF (by omega), bsel_false, List.drop_of_length_le (by omega), selS, List.append_nil]
  | succ m ih =>
    intro k out hk ho
    obtain ⟨x, hx⟩ := get_lt (show k < b.length by omega)
    rw [g28_L7_eq, decT (by omega), bsel_true, lget_bit hx, vB_mk, drop_get hx, selS, wrs (by omega)]
    cases x with
    | false =>
      rw [Bool.not_false, bsel_true, chk_of (decT (by simp [LIM]; omega)), intL_snoc, ih (k + 1) _ (by omega) (by simp; omega), if_pos rfl, List.append_assoc]; rfl
    | true =>
      rw [Bool.not_true, bsel_false, ih (k + 1) _ (by omega) (by omega), if_neg (by simp)]
def unrS (l : List Ins) : List Int := selS false 0 ((reachS l).take l.length)
theorem c28 {p : Prg} (hp : p.ok8) : SS.CC 28 [prgP p] [] = Ret (.tuple [.sl false 1 (intL (unrS p.list)), .int .i64 0]) := by
  have hok := hp.okL
  have hn := hok.1
  have h25 := c25 p
  have h44 := c44 (p := p) (by rw [hp.w8]; exact hok)
  rw [hp.check] at h25
  unfold prgP at h25 h44 ⊢
  rw [g28_eq, clX_of h25, vI_mk, neF rfl, bsel_false, clX_of h44, vL_mk, insL_len, bitL_len, reachS_len, decT (by omega), decT (by omega), Bool.and_self, chk_tt, Int.toNat_natCast]
  have e : (bitL (reachS p.list)).take p.list.length = bitL ((reachS p.list).take p.list.length) := by simp [bitL, List.map_take]
  have hl : ((reachS p.list).take p.list.length).length = p.list.length := by simp
  have h := l28 ((reachS p.list).take p.list.length) (by omega) p.list.length 0 [] (by omega) (by simp)
  rw [e, bitL_len]
  exact h
theorem l29 (b : List Bool) (hb : b.length ≤ 3000) : ∀ (m k : Nat) (out : List Int), k + m = b.length → out.length ≤ k → g29_L7 (bitL b) (intL out) (k : Int) = Ret (.tuple [.sl false 1 (intL (out ++ selS true k (b.drop k))), .int .i64 0]) := by
  intro m
  induction m with
  | zero =>
    intro k out hk ho
    rw [g29_L7_eq, decF (by simp; omega), bsel_false, List.drop_of_length_le (by omega), selS, List.append_nil]
  | succ m ih =>
    intro k out hk ho
    obtain ⟨x, hx⟩ := get_lt (show k < b.length by omega)
    rw [g29_L7_eq, decT (by simp; omega), bsel_true, lget_bit hx, vB_mk, drop_get hx, selS, wrs (by omega)]
    cases x with
    | true =>
      rw [bsel_true, chk_of (decT (by simp [LIM]; omega)), intL_snoc, ih (k + 1) _ (by omega) (by simp; omega), if_pos rfl, List.append_assoc]; rfl
    | false =>
      rw [bsel_false, ih (k + 1) _ (by omega) (by omega), if_neg (by simp)]
theorem c29 {p : Prg} (hp : p.ok8) : SS.CC 29 [prgP p] [] = Ret (.tuple [.sl false 1 (intL (selS true 0 (deadS 8 p.list))), .int .i64 0]) := by
  have hn := hp.okL.1
  have h25 := c25 p
  have h45 := c45 hp
  rw [hp.check] at h25
  unfold prgP at h25 h45 ⊢
  rw [g29_eq, clX_of h25, vI_mk, neF rfl, bsel_false, clX_of h45, vL_mk]
  exact l29 (deadS 8 p.list) (by simp; omega) (deadS 8 p.list).length 0 [] (by omega) (by simp)
/-! ### Compact of ints -/
def dedA (p : Int) : List Int → List Int
  | [] => []
  | y :: r => if y = p then dedA p r else y :: dedA y r
def dedS : List Int → List Int
  | [] => []
  | x :: r => x :: dedA x r
theorem dedA_len : ∀ (l : List Int) (p : Int), (dedA p l).length ≤ l.length
  | [], _ => by simp [dedA]
  | y :: r, p => by
    rw [dedA]; split
    · have := dedA_len r p; simp; omega
    · have := dedA_len r y; simp; omega
theorem intL_flC (l : List Int) : (intL l).all flC = true := by simp [intL, flC, PV.one, PV.flat]
theorem intL_plainC (l : List Int) : (intL l).all plainC = true := by simp [intL, plainC, PV.one, PV.noref]
theorem intL_of (l : List Int) : ((intL l).all fun p => p.one && p.flat) = true := by simp [intL, PV.one, PV.flat]
theorem intL_un (l : List Int) : (intL l).map PV.un = intL l := by simp [intL, PV.un]
theorem intL_set (a : List Int) (k : Nat) (x : Int) : (intL a).set k (.int .i64 x) = intL (a.set k x) := by simp [intL]
theorem nget_int {l : List Int} {k : Nat} {b : Int} {K : PV → R} (h : l[k]? = some b) : ngetX (intL l) k K = K (.int .i64 b) := ngetX_of (by simp [intL, h])
theorem intL_chunk (l : List Int) {n : Nat} (h : n ≤ l.length) : chunkP 1 (intL l) n = intL (l.take n) := by
  show ((intL l).take n).map PV.un = _
  rw [show (intL l).take n = intL (l.take n) by simp [intL, List.map_take], intL_un]
/-- What the compaction leaves of an object: the list, and cells behind. -/
def leftS (D : List Int) (o : Objs) : Prop := ∃ J, o = [some (intL (D ++ J))]
theorem l60a (n : Nat) (hn : n ≤ 100000) (k0 : Nat) : ∀ (rest D M : List Int) (p : Int) (k2 : Nat), k0 + k2 = D.length + M.length → M ≠ [] → M.getLast? = some p → D.length + M.length + rest.length = n → 1 ≤ k2 →
    ∃ o, g60_1i_L10 n (intL (D ++ M ++ rest)) (D.length : Int) (k2 : Int) k0 (n - k0) = some (.slh 0 0 (D ++ dedA p rest).length 1, o) ∧ leftS (D ++ dedA p rest) o := by
  intro rest
  induction rest with
  | nil =>
    intro D M p k2 hk hM hp hl h1
    have hMl : 0 < M.length := List.length_pos_iff.2 hM
    simp only [List.length_nil, Nat.add_zero] at hl
    rw [g60_1i_L10_eq, intL_flC, Bool.true_and, chk_tt, decF (by omega), bsel_false, chk_tt, g60_1i_J15_eq, decT (show (0 : Int) ≤ (D.length : Int) by omega), decT (show (D.length : Int) ≤ (n : Int) by omega), Bool.and_self, chk_tt, decT (show (D.length : Int) < (n : Int) by omega), bsel_true, Int.toNat_natCast, intL_len, decT (show 0 + D.length * 1 + (n - D.length) * 1 ≤ (D ++ M ++ ([] : List Int)).length by simp; omega), chk_tt, decT (show 0 < n by omega), Bool.and_self, chk_tt]
    have e : (intL (D ++ M ++ [])).take (0 + D.length * 1) ++ (List.replicate (n - D.length) (PV.int .i64 0)).map PV.un ++ (intL (D ++ M ++ [])).drop (0 + D.length * 1 + (n - D.length) * 1) = intL (D ++ List.replicate (n - D.length) 0) := by
      rw [List.drop_of_length_le (by simp; omega)]
      simp [intL, PV.un, List.map_replicate]
    rw [e, intL_flC, Bool.true_and, chk_tt, dedA, List.append_nil]
    exact ⟨_, rfl, _, rfl⟩
  | cons y rest ih =>
    intro D M p k2 hk hM hp hl h1
    have hMl : 0 < M.length := List.length_pos_iff.2 hM
    simp only [List.length_cons] at hl
    have g1 : (D ++ M ++ y :: rest)[k0 + k2 * 1]? = some y := by
      rw [Nat.mul_one, hk, List.getElem?_append_right (by simp)]; simp
    have g2 : (D ++ M ++ y :: rest)[k0 + (k2 - 1) * 1]? = some p := by
      rw [List.getElem?_append_left (by simp; omega), List.getElem?_append_right (by omega), ← hp, List.getLast?_eq_getElem?]
      congr 1; omega
    have w1 : IntKind.i64.wrap ((k2 : Int) - 1) = ((k2 - 1 : Nat) : Int) := by rw [wr0 (by omega) (by omega)]; omega
    rw [g60_1i_L10_eq, intL_flC, Bool.true_and, chk_tt, decT (by omega), bsel_true, chk_tt, w1, Int.toNat_natCast, Int.toNat_natCast, decT (show (0 : Int) ≤ (k2 : Int) by omega), decT (show (0 : Int) ≤ ((k2 - 1 : Nat) : Int) by omega), decT (show ((k2 - 1 : Nat) : Int) < ((n - k0 : Nat) : Int) by omega), Bool.and_self, chk_tt]
    rw [nget_int g1, vI_mk, chk_tt, nget_int g2, vI_mk, wrs (k := k2) (by omega), dedA]
    by_cases hyp : y = p
    · rw [neF hyp, bsel_false, chk_tt, if_pos hyp]
      have := ih D (M ++ [y]) p (k2 + 1) (by simp; omega) (by simp) (by simp [hyp]) (by simp; omega) (by omega)
      rw [show D ++ (M ++ [y]) ++ rest = D ++ M ++ y :: rest by simp] at this
      exact this
    · rw [neT hyp, bsel_true, chk_tt, nget_int g1, vI_mk, if_neg hyp, decT (show (0 : Int) ≤ (D.length : Int) by omega), decT (show (D.length : Int) < (n : Int) by omega), Bool.and_self, chk_tt, Int.toNat_natCast, intL_len, decT (show D.length < (D ++ M ++ y :: rest).length by simp; omega), chk_tt, intL_set, intL_flC, Bool.true_and, chk_tt, wrs (k := D.length) (by omega)]
      obtain ⟨q, M', rfl⟩ : ∃ q M', M = q :: M' := by
        match M, hM with
        | q :: M', _ => exact ⟨q, M', rfl⟩
      have := ih (D ++ [y]) (M' ++ [y]) y (k2 + 1) (by simp at hk ⊢; omega) (by simp) (by simp) (by simp at hl ⊢; omega) (by omega)
      have e : (D ++ q :: M' ++ y :: rest).set D.length y = D ++ [y] ++ (M' ++ [y]) ++ rest := by
        rw [List.append_assoc, List.set_append_right _ _ (by omega), Nat.sub_self]; simp
      rw [e]
      have e2 : D ++ y :: dedA y rest = D ++ [y] ++ dedA y rest := by simp
      rw [e2]
      rw [show (D ++ [y]).length = D.length + 1 by simp] at this
      exact this
theorem l60 (s : List Int) (hn : s.length ≤ 100000) : ∀ (m k : Nat) (p : Int), k + m = s.length → 1 ≤ k → s[k - 1]? = some p → dedS s = s.take k ++ dedA p (s.drop k) →
    ∃ o, g60_1i_L5 s.length (intL s) (k : Int) = some (.slh 0 0 (dedS s).length 1, o) ∧ leftS (dedS s) o := by
  intro m
  induction m with
  | zero =>
    intro k p hk h1 hp hd
    rw [List.take_of_length_le (by omega), List.drop_of_length_le (by omega), dedA, List.append_nil] at hd
    rw [g60_1i_L5_eq, intL_flC, Bool.true_and, chk_tt, decF (by omega), bsel_false, chk_tt, chk_tt, hd]
    exact ⟨_, rfl, [], by simp⟩
  | succ m ih =>
    intro k p hk h1 hp hd
    obtain ⟨y, hy⟩ := get_lt (show k < s.length by omega)
    have w1 : IntKind.i64.wrap ((k : Int) - 1) = ((k - 1 : Nat) : Int) := by rw [wr0 (by omega) (by omega)]; omega
    rw [g60_1i_L5_eq, intL_flC, Bool.true_and, chk_tt, decT (by omega), bsel_true, chk_tt, w1, Int.toNat_natCast, Int.toNat_natCast, decT (show (0 : Int) ≤ (k : Int) by omega), decT (show (0 : Int) ≤ ((k - 1 : Nat) : Int) by omega), decT (show ((k - 1 : Nat) : Int) < (s.length : Int) by omega), Bool.and_self, chk_tt]
    rw [nget_int hy, vI_mk, chk_tt, nget_int hp, vI_mk, wrs (by omega)]
    rw [drop_get hy, dedA] at hd
    by_cases hyp : y = p
    · rw [eqT hyp, bsel_true, show (true && decide ((k : Int) ≤ (s.length : Int))) = true by rw [decT (by omega)]; rfl, chk_tt, bsel_true]
      rw [if_pos hyp] at hd
      have h := l60a s.length hn k (s.drop (k + 1)) (s.take k) [y] p 1 (by simp; omega) (by simp) (by simp [hyp]) (by simp; omega) (by omega)
      rw [show s.take k ++ [y] ++ s.drop (k + 1) = s by rw [List.append_assoc]; exact take_drop_cons hy, ← hd, show (s.take k).length = k by simp; omega] at h
      rw [Nat.zero_add, Nat.mul_one]
      exact h
    · rw [eqF hyp, bsel_false, chk_tt]
      rw [if_neg hyp] at hd
      refine ih (k + 1) y (by omega) (by omega) hy ?_
      rw [hd]
      obtain ⟨hk2, rfl⟩ := List.getElem?_eq_some_iff.1 hy
      rw [← List.take_append_getElem hk2, List.append_assoc]; rfl
theorem c60 (s : List Int) (hs : s ≠ []) (hn : s.length ≤ 100000) : ∃ o, SS.CC 60 [.slh 0 0 s.length 1] [some (intL s)] = some (.slh 0 0 (dedS s).length 1, o) ∧ leftS (dedS s) o := by
  obtain ⟨x, r, rfl⟩ : ∃ x r, s = x :: r := by
    match s, hs with
    | x :: r, _ => exact ⟨x, r, rfl⟩
  rw [g60_1i_eq, intL_flC, Bool.true_and, chk_tt, chk_tt]
  by_cases h2 : r = []
  · subst h2
    rw [decT (by simp), bsel_true]
    exact ⟨_, rfl, [], by simp [dedS, dedA]⟩
  · have hr : 0 < r.length := List.length_pos_iff.2 h2
    rw [decF (by simp; omega), bsel_false]
    exact l60 (x :: r) hn r.length 1 x (by simp; omega) (by omega) rfl rfl
theorem c59 (zs : List Int) (h : zs.length ≤ 100000) : SS.CC 59 [.slh 0 0 zs.length 1] [some (intL zs)] = some (.tuple [], [some (intL (sortI zs))]) := by
  refine CC_c0 ?_
  show (match intsOf (intL zs) with
    | some ys => (match Nat.beq ys.length zs.length && Nat.ble zs.length 1073741824 with | true => some (PV.tuple [], [some (intsL (sortI ys))]) | false => none)
    | none => none) = _
  rw [show intsOf (intL zs) = some zs from intsOf_ints zs]
  have : (Nat.beq zs.length zs.length && Nat.ble zs.length 1073741824) = true := by
    rw [Nat.beq_refl, Bool.true_and, Nat.ble_eq]; omega
  simp only [this]
  rfl
theorem c59n : SS.CC 59 [.sl false 1 []] [] = Ret (.tuple []) := CC_c0 rfl
theorem c60n : SS.CC 60 [.sl false 1 []] [] = Ret (.sl false 1 []) := CC_of_sem SS_ok 60 (by kernel_rfl)
/-! ### Uses -/
def readsF (R : List Bool) : Nat → List Ins → List Int
  | _, [] => []
  | i, x :: l => if R.getD i false = true ∧ x.1 ≤ 6 then x.2 :: readsF R (i + 1) l else readsF R (i + 1) l
def writesF (R : List Bool) : Nat → List Ins → List Int
  | _, [] => []
  | i, x :: l => if R.getD i false = true ∧ 7 ≤ x.1 ∧ x.1 ≤ 10 then x.2 :: writesF R (i + 1) l else writesF R (i + 1) l
def useS (zs : List Int) : List Int := dedS (sortI zs)
theorem sort_len (zs : List Int) : (sortI zs).length = zs.length := List.length_mergeSort zs
theorem use_end (a b : List Int) (ha : a.length ≤ 3000) (hb : b.length ≤ 3000) (l6 l17 : List PV) (x19 : Int) (h : ¬ x19 < (l17.length : Int)) : g30_L7 l6 l17 x19 a.length (intL a) b.length (intL b) = Ret (.tuple [.sl false 1 (intL (useS a)), .sl false 1 (intL (useS b)), .int .i64 0]) := by
  have hA := c59 a (by omega)
  have hB := c59 b (by omega)
  rw [g30_L7_eq, decF h, bsel_false]
  have pos : ∀ {z : List Int}, z ≠ [] → Nat.ble 1 z.length = true := fun h => by rw [Nat.ble_eq]; exact List.length_pos_iff.2 h
  have sne : ∀ {z : List Int}, z ≠ [] → sortI z ≠ [] := fun {z} h e => h (List.eq_nil_of_length_eq_zero (by rw [← sort_len, e]; rfl))
  have fin : ∀ (D J : List Int), (decide (D.length * 1 ≤ (intL (D ++ J)).length) && decide (0 < 1) && (intL (D ++ J)).all fun p => p.one && p.flat) = true := fun D J => by rw [intL_of, decT (by simp)]; rfl
  have ch : ∀ (D J : List Int), chunkP 1 (intL (D ++ J)) D.length = intL D := fun D J => by rw [intL_chunk _ (by simp)]; simp
  have use0 : useS [] = [] := by simp [useS, sortI, dedS]
  by_cases ea : a = []
  · subst ea
    rw [show Nat.ble 1 ([] : List Int).length = false from rfl, bsel_false]
    by_cases eb : b = []
    · subst eb
      rw [show Nat.ble 1 ([] : List Int).length = false from rfl, bsel_false, clX_of c59n, w0_mk, clX_of c59n, w0_mk, clX_of c60n, vL_mk, clX_of c60n, vL_mk, use0]; rfl
    · obtain ⟨o, h60, J, rfl⟩ := c60 (sortI b) (sne eb) (by rw [sort_len]; omega)
      rw [sort_len] at h60
      rw [pos eb, bsel_true]
      simp only [intL_flC, intL_plainC, Bool.and_self, chk_tt]
      rw [clX_of c59n, w0_mk, clH_of hB, h59_0_mk]
      simp only [intL_plainC, Bool.and_self, chk_tt]
      rw [clX_of c60n, vL_mk, clH_of h60, h60_0_mk]
      simp only [intL_plainC, Bool.and_self, chk_tt]
      rw [chk_of (fin _ _), ch, use0]; rfl
  · obtain ⟨o, h60, J, rfl⟩ := c60 (sortI a) (sne ea) (by rw [sort_len]; omega)
    rw [sort_len] at h60
    rw [pos ea, bsel_true]
    by_cases eb : b = []
    · subst eb
      rw [show Nat.ble 1 ([] : List Int).length = false from rfl, bsel_false]
      simp only [intL_flC, intL_plainC, Bool.and_self, chk_tt]
      rw [clH_of hA, h59_0_mk]
      simp only [intL_plainC, Bool.and_self, chk_tt]
      rw [clX_of c59n, w0_mk, clH_of h60, h60_0_mk]
      simp only [intL_plainC, Bool.and_self, chk_tt]
      rw [clX_of c60n, vL_mk, chk_of (fin _ _), ch, use0]; rfl
    · obtain ⟨o2, h60b, J2, rfl⟩ := c60 (sortI b) (sne eb) (by rw [sort_len]; omega)
      rw [sort_len] at h60b
      rw [pos eb, bsel_true]
      simp only [intL_flC, intL_plainC, Bool.and_self, chk_tt]
      rw [clH_of hA, h59_0_mk]
      simp only [intL_plainC, Bool.and_self, chk_tt]
      rw [clH_of hB, h59_0_mk]
      simp only [intL_plainC, Bool.and_self, chk_tt]
      rw [clH_of h60, h60_0_mk]
      simp only [intL_plainC, Bool.and_self, chk_tt]
      rw [clH_of h60b, h60_0_mk]
      simp only [intL_plainC, Bool.and_self, chk_tt]
      rw [chk_of (fin _ _), chk_of (fin _ _), ch, ch]; rfl
theorem l30 {w : Nat} {l : List Ins} (hok : okL w l) {R : List Bool} (hR : R.length = l.length + 1) : ∀ (m k : Nat) (a b : List Int), k + m = l.length → a.length + b.length ≤ k →
    g30_L7 (bitL R) (insL l) (k : Int) a.length (intL a) b.length (intL b) = Ret (.tuple [.sl false 1 (intL (useS (a ++ readsF R k (l.drop k)))), .sl false 1 (intL (useS (b ++ writesF R k (l.drop k)))), .int .i64 0]) := by
  have hn := hok.1
  intro m
  induction m with
  | zero =>
    intro k a b hk hab
    rw [use_end a b (by omega) (by omega) _ _ _ (by simp; omega), List.drop_of_length_le (by omega), readsF, writesF, List.append_nil, List.append_nil]
  | succ m ih =>
    intro k a b hk hab
    obtain ⟨x, hx⟩ := get_lt (show k < l.length by omega)
    obtain ⟨o1, o2, o3, o4⟩ := hok.2 k x hx
    rw [g30_L7_eq, decT (by simp; omega), bsel_true, lget_ins hx, v57_mk, lget_bit (bAt (by omega)), vB_mk, wrs (by omega), drop_get hx, readsF, writesF]
    have nxt := ih (k + 1) a b (by omega) (by omega)
    cases hRk : R.getD k false with
    | false =>
      rw [Bool.not_false, bsel_true, nxt, if_neg (by simp), if_neg (by simp)]
    | true =>
      rw [Bool.not_true, bsel_false]
      by_cases h11 : 11 ≤ x.1
      · rw [decT h11, bsel_true, nxt, if_neg (by omega), if_neg (by omega)]
      · rw [decF h11, bsel_false]
        by_cases h6 : x.1 ≤ 6
        · have := ih (k + 1) (a ++ [x.2]) b (by omega) (by simp; omega)
          rw [← intL_snoc, List.length_append, List.length_singleton] at this
          rw [decT h6, bsel_true, decT (by unfold LIM; omega), Bool.and_self, chk_tt, this, if_pos ⟨rfl, h6⟩, if_neg (by omega), List.append_assoc]; rfl
        · have := ih (k + 1) a (b ++ [x.2]) (by omega) (by simp; omega)
          rw [← intL_snoc, List.length_append, List.length_singleton] at this
          rw [decF h6, bsel_false, decT (by unfold LIM; omega), Bool.and_self, chk_tt, this, if_neg (by omega), if_pos ⟨rfl, by omega, by omega⟩, List.append_assoc]; rfl
def readsS (l : List Ins) : List Int := useS (readsF (reachS l) 0 l)
def writesS (l : List Ins) : List Int := useS (writesF (reachS l) 0 l)
theorem c30 {p : Prg} (hp : p.ok8) : SS.CC 30 [prgP p] [] = Ret (.tuple [.sl false 1 (intL (readsS p.list)), .sl false 1 (intL (writesS p.list)), .int .i64 0]) := by
  have hok := hp.okL
  have h25 := c25 p
  have h44 := c44 (p := p) (by rw [hp.w8]; exact hok)
  rw [hp.check] at h25
  unfold prgP at h25 h44 ⊢
  rw [g30_eq, clX_of h25, vI_mk, neF rfl, bsel_false, clX_of h44, vL_mk]
  have h := l30 hok (R := reachS p.list) (by simp) p.list.length 0 [] [] (by omega) (by simp)
  exact h
end Go.Proofs.YtiejgieiokmmfaaDoor

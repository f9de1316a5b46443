/-
  Contracts of chapter 14, second table: occurs, Sort, Compact, Uses.
-/
import Derived.Test.YtmclnnpaephkpaaW14f
namespace Go.Proofs.Ytmclnnpaephkpaa.W
set_option linter.unusedVariables false
set_option linter.unusedSimpArgs false
set_option linter.unnecessarySimpa false
set_option linter.unusedSectionVars false
open Go.RowKit
set_option maxRecDepth 100000
theorem CC_c0 {g : FuncId} {args : List PV} {h : Objs} {v : PV × Objs} (e : CSW g args h = some v) : SS.CC g args h = some v := by
  rw [CC_eq SS_ok]
  show orR (CSW g args h) _ = _
  rw [e]; rfl
theorem up {g : FuncId} {args : List PV} {h : Objs} {v : PV × Objs} (hk : keepG g = true) (e : Go.Proofs.Ytmclnnpaephkpaa.SS.CC g args h = some v) : SS.CC g args h = some v := CC_c0 (by unfold CSW; rw [hk]; exact e)
theorem upS {g : FuncId} {args : List PV} {h : Objs} {v : PV × Objs} (hk : keepG g = false) (e : CS g args h = some v) : SS.CC g args h = some v := CC_c0 (by unfold CSW; rw [hk]; exact e)
theorem w23 (e : EX) (K : Int → Int → Int → List PV → R) : v23 (encE e) K = K e.op e.val e.idx (encL e.args) := by cases e; rfl
theorem neT {a b : Int} (h : a ≠ b) : (a != b) = true := by simpa using h
theorem neF {a b : Int} (h : a = b) : (a != b) = false := by simp [h]
theorem eqT {a b : Int} (h : a = b) : (a == b) = true := by simp [h]
theorem eqF {a b : Int} (h : a ≠ b) : (a == b) = false := by simpa using h
@[simp] theorem chk_tt (A : R) : chk true A = A := rfl
theorem wr0 {k : Int} (h0 : -1000000000000000 < k) (h : k < 1000000000000000) : IntKind.i64.wrap k = k := by rw [IntKind.wrap_i64]; omega
theorem ngetX_of {es : List PV} {n : Nat} {K : PV → R} {e : PV} (h : es[n]? = some e) : ngetX es n K = K e := by unfold ngetX; rw [h]
theorem drop_get {α : Type} {l : List α} {k : Nat} {x : α} (hx : l[k]? = some x) : l.drop k = x :: l.drop (k + 1) := drop_cons hx
theorem take_drop_cons {α : Type} {l : List α} {i : Nat} {x : α} (h : l[i]? = some x) : l.take i ++ x :: l.drop (i + 1) = l := by rw [← drop_cons h, List.take_append_drop]
def intL (l : List Int) : List PV := l.map (PV.int .i64)
@[simp] theorem intL_len (l : List Int) : (intL l).length = l.length := by simp [intL]
theorem intL_snoc (a : List Int) (x : Int) : intL a ++ [.int .i64 x] = intL (a ++ [x]) := by simp [intL]
/-! ### Compact of ints -/
theorem intL_flC (l : List Int) : (intL l).all flC = true := by simp [intL, flC, PV.one, PV.flat]
theorem intL_plainC (l : List Int) : (intL l).all plainC = true := by simp [intL, plainC, PV.one, PV.noref]
theorem intL_of (l : List Int) : ((intL l).all fun p => p.one && p.flat) = true := by simp [intL, PV.one, PV.flat]
theorem intL_un (l : List Int) : (intL l).map PV.un = intL l := by simp [intL, PV.un]
theorem intL_set (a : List Int) (k : Nat) (x : Int) : (intL a).set k (.int .i64 x) = intL (a.set k x) := by simp [intL]
theorem nget_int {l : List Int} {k : Nat} {b : Int} {K : PV → R} (h : l[k]? = some b) : ngetX (intL l) k K = K (.int .i64 b) := ngetX_of (by simp [intL, h])
theorem intL_chunk (l : List Int) {n : Nat} (h : n ≤ l.length) : chunkP 1 (intL l) n = intL (l.take n) := by
  show ((intL l).take n).map PV.un = _
  rw [show (intL l).take n = intL (l.take n) by simp [intL, List.map_take], intL_un]
/-- What the compaction leaves of an object: the list, and cells behind. -/
def leftS (D : List Int) (o : Objs) : Prop := ∃ J, o = [some (intL (D ++ J))]
theorem l64a (n : Nat) (hn : n ≤ 100000) (k0 : Nat) : ∀ (rest D M : List Int) (p : Int) (k2 : Nat), k0 + k2 = D.length + M.length → M ≠ [] → M.getLast? = some p → D.length + M.length + rest.length = n → 1 ≤ k2 →
    ∃ o, g64_L10 n (intL (D ++ M ++ rest)) (D.length : Int) (k2 : Int) k0 (n - k0) = some (.slh 0 0 (D ++ dedA p rest).length 1, o) ∧ leftS (D ++ dedA p rest) o := by
  intro rest
  induction rest with
  | nil =>
    intro D M p k2 hk hM hp hl h1
    have hMl : 0 < M.length := List.length_pos_iff.2 hM
    simp only [List.length_nil, Nat.add_zero] at hl
    rw [g64_L10_eq, intL_flC, Bool.true_and, chk_tt, decF (by omega), bsel_false, chk_tt, g64_J15_eq, decT (show (0 : Int) ≤ (D.length : Int) by omega), decT (show (D.length : Int) ≤ (n : Int) by omega), Bool.and_self, chk_tt, decT (show (D.length : Int) < (n : Int) by omega), bsel_true, Int.toNat_natCast, intL_len, decT (show 0 + D.length * 1 + (n - D.length) * 1 ≤ (D ++ M ++ ([] : List Int)).length by simp; omega), chk_tt, decT (show 0 < n by omega), Bool.and_self, chk_tt]
    have e : (intL (D ++ M ++ [])).take (0 + D.length * 1) ++ (List.replicate (n - D.length) (PV.int .i64 0)).map PV.un ++ (intL (D ++ M ++ [])).drop (0 + D.length * 1 + (n - D.length) * 1) = intL (D ++ List.replicate (n - D.length) 0) := by
      rw [List.drop_of_length_le (by simp; omega)]
      simp [intL, PV.un, List.map_replicate]
    rw [e, intL_flC, Bool.true_and, chk_tt, dedA, List.append_nil]
    exact ⟨_, rfl, _, rfl⟩
  | cons y rest ih =>
    intro D M p k2 hk hM hp hl h1
    have hMl : 0 < M.length := List.length_pos_iff.2 hM
    simp only [List.length_cons] at hl
    have g1 : (D ++ M ++ y :: rest)[k0 + k2 * 1]? = some y := by
      rw [Nat.mul_one, hk, List.getElem?_append_right (by simp)]; simp
    have g2 : (D ++ M ++ y :: rest)[k0 + (k2 - 1) * 1]? = some p := by
      rw [List.getElem?_append_left (by simp; omega), List.getElem?_append_right (by omega), ← hp, List.getLast?_eq_getElem?]
      congr 1; omega
    have w1 : IntKind.i64.wrap ((k2 : Int) - 1) = ((k2 - 1 : Nat) : Int) := by rw [wr0 (by omega) (by omega)]; omega
    rw [g64_L10_eq, intL_flC, Bool.true_and, chk_tt, decT (by omega), bsel_true, chk_tt, w1, Int.toNat_natCast, Int.toNat_natCast, decT (show (0 : Int) ≤ (k2 : Int) by omega), decT (show (0 : Int) ≤ ((k2 - 1 : Nat) : Int) by omega), decT (show ((k2 - 1 : Nat) : Int) < ((n - k0 : Nat) : Int) by omega), Bool.and_self, chk_tt]
    rw [nget_int g1, vI_mk, chk_tt, nget_int g2, vI_mk, wrs (k := k2) (by omega), dedA]
    by_cases hyp : y = p
    · rw [neF hyp, bsel_false, chk_tt, if_pos hyp]
      have := ih D (M ++ [y]) p (k2 + 1) (by simp; omega) (by simp) (by simp [hyp]) (by simp; omega) (by omega)
      rw [show D ++ (M ++ [y]) ++ rest = D ++ M ++ y :: rest by simp] at this
      exact this
    · rw [neT hyp, bsel_true, chk_tt, nget_int g1, vI_mk, if_neg hyp, decT (show (0 : Int) ≤ (D.length : Int) by omega), decT (show (D.length : Int) < (n : Int) by omega), Bool.and_self, chk_tt, Int.toNat_natCast, intL_len, decT (show D.length < (D ++ M ++ y :: rest).length by simp; omega), chk_tt, intL_set, intL_flC, Bool.true_and, chk_tt, wrs (k := D.length) (by omega)]
      obtain ⟨q, M', rfl⟩ : ∃ q M', M = q :: M' := by
        match M, hM with
        | q :: M', _ => exact ⟨q, M', rfl⟩
      have := ih (D ++ [y]) (M' ++ [y]) y (k2 + 1) (by simp at hk ⊢; omega) (by simp) (by simp) (by simp at hl ⊢; omega) (by omega)
      have e : (D ++ q :: M' ++ y :: rest).set D.length y = D ++ [y] ++ (M' ++ [y]) ++ rest := by
        rw [List.append_assoc, List.set_append_right _ _ (by omega), Nat.sub_self]; simp
      rw [e]
      have e2 : D ++ y :: dedA y rest = D ++ [y] ++ dedA y rest := by simp
      rw [e2]
      rw [show (D ++ [y]).length = D.length + 1 by simp] at this
      exact this
theorem l64 (s : List Int) (hn : s.length ≤ 100000) : ∀ (m k : Nat) (p : Int), k + m = s.length → 1 ≤ k → s[k - 1]? = some p → dedS s = s.take k ++ dedA p (s.drop k) →
    ∃ o, g64_L5 s.length (intL s) (k : Int) = some (.slh 0 0 (dedS s).length 1, o) ∧ leftS (dedS s) o := by
  intro m
  induction m with
  | zero =>
    intro k p hk h1 hp hd
    rw [List.take_of_length_le (by omega), List.drop_of_length_le (by omega), dedA, List.append_nil] at hd
    rw [g64_L5_eq, intL_flC, Bool.true_and, chk_tt, decF (by omega), bsel_false, chk_tt, chk_tt, hd]
    exact ⟨_, rfl, [], by simp⟩
  | succ m ih =>
    intro k p hk h1 hp hd
    obtain ⟨y, hy⟩ := get_lt (show k < s.length by omega)
    have w1 : IntKind.i64.wrap ((k : Int) - 1) = ((k - 1 : Nat) : Int) := by rw [wr0 (by omega) (by omega)]; omega
    rw [g64_L5_eq, intL_flC, Bool.true_and, chk_tt, decT (by omega), bsel_true, chk_tt, w1, Int.toNat_natCast, Int.toNat_natCast, decT (show (0 : Int) ≤ (k : Int) by omega), decT (show (0 : Int) ≤ ((k - 1 : Nat) : Int) by omega), decT (show ((k - 1 : Nat) : Int) < (s.length : Int) by omega), Bool.and_self, chk_tt]
    rw [nget_int hy, vI_mk, chk_tt, nget_int hp, vI_mk, wrs (by omega)]
    rw [drop_get hy, dedA] at hd
    by_cases hyp : y = p
    · rw [eqT hyp, bsel_true, show (true && decide ((k : Int) ≤ (s.length : Int))) = true by rw [decT (by omega)]; rfl, chk_tt, bsel_true]
      rw [if_pos hyp] at hd
      have h := l64a s.length hn k (s.drop (k + 1)) (s.take k) [y] p 1 (by simp; omega) (by simp) (by simp [hyp]) (by simp; omega) (by omega)
      rw [show s.take k ++ [y] ++ s.drop (k + 1) = s by rw [List.append_assoc]; exact take_drop_cons hy, ← hd, show (s.take k).length = k by simp; omega] at h
      rw [Nat.zero_add, Nat.mul_one]
      exact h
    · rw [eqF hyp, bsel_false, chk_tt]
      rw [if_neg hyp] at hd
      refine ih (k + 1) y (by omega) (by omega) hy ?_
      rw [hd]
      obtain ⟨hk2, rfl⟩ := List.getElem?_eq_some_iff.1 hy
      rw [← List.take_append_getElem hk2, List.append_assoc]; rfl
theorem c64 (s : List Int) (hs : s ≠ []) (hn : s.length ≤ 100000) : ∃ o, SS.CC 64 [.slh 0 0 s.length 1] [some (intL s)] = some (.slh 0 0 (dedS s).length 1, o) ∧ leftS (dedS s) o := by
  obtain ⟨x, r, rfl⟩ : ∃ x r, s = x :: r := by
    match s, hs with
    | x :: r, _ => exact ⟨x, r, rfl⟩
  rw [g64_eq, intL_flC, Bool.true_and, chk_tt, chk_tt]
  by_cases h2 : r = []
  · subst h2
    rw [decT (by simp), bsel_true]
    exact ⟨_, rfl, [], by simp [dedS, dedA]⟩
  · have hr : 0 < r.length := List.length_pos_iff.2 h2
    rw [decF (by simp; omega), bsel_false]
    exact l64 (x :: r) hn r.length 1 x (by simp; omega) (by omega) rfl rfl
theorem c63 (zs : List Int) (h : zs.length ≤ 100000) : SS.CC 63 [.slh 0 0 zs.length 1] [some (intL zs)] = some (.tuple [], [some (intL (sortI zs))]) := by
  refine upS rfl ?_
  show (match intsOf (intL zs) with
    | some ys => (match Nat.beq ys.length zs.length && Nat.ble zs.length 1073741824 with | true => some (PV.tuple [], [some (intsL (sortI ys))]) | false => none)
    | none => none) = _
  rw [show intsOf (intL zs) = some zs from intsOf_ints zs]
  have : (Nat.beq zs.length zs.length && Nat.ble zs.length 1073741824) = true := by
    rw [Nat.beq_refl, Bool.true_and, Nat.ble_eq]; omega
  simp only [this]
  rfl
theorem c63n : SS.CC 63 [.sl false 1 []] [] = Ret (.tuple []) := upS rfl rfl
theorem c64n : SS.CC 64 [.sl false 1 []] [] = Ret (.sl false 1 []) := CC_of_sem SS_ok 60 (by kernel_rfl)
/-! ### occurs -/
theorem l37 (x o v i : Int) (l : List EX) (hl : l.length ≤ 3) (ih : ∀ e, e ∈ l → SS.CC 37 [encE e, .int .i64 x] [] = Ret (.bool (occE x e))) :
    ∀ (m k : Nat), k + m = l.length → g37_L5 x o v i (encL l) k = Ret (.bool (occL x (l.drop k)))
  | 0, k, h => by
    rw [g37_L5_eq, decF (by simp; omega), bsel_false, List.drop_of_length_le (by omega), occL]
  | m + 1, k, h => by
    obtain ⟨y, hy⟩ := get_lt (show k < l.length by omega)
    rw [g37_L5_eq, decT (by simp; omega), bsel_true, lget_encL hy, w23, mkE, clX_of (ih y (get_mem hy)), vB_mk, wrs (by omega), drop_cons hy, occL, l37 x o v i l hl ih m (k + 1) (by omega)]
    cases occE x y <;> rfl
theorem c37 (x : Int) : ∀ e, triE e → SS.CC 37 [encE e, .int .i64 x] [] = Ret (.bool (occE x e)) := by
  refine EX.ind fun o v i l ih ht => ?_
  rw [triE] at ht
  have h := l37 x o v i l ht.1 (fun e he => ih e he (triL_mem ht.2 he)) l.length 0 (by omega)
  rw [List.drop_zero] at h
  have h : g37_L5 x o v i (encL l) 0 = Ret (.bool (occL x l)) := h
  rw [encE_eq, g37_eq, g37_J4_eq, h, occE]
  by_cases h1 : o = 1
  · subst h1
    by_cases h2 : i = x
    · rw [eqT h2]; rfl
    · rw [eqF h2]; rfl
  · rw [eqF h1]; rfl
/-! ### Uses -/
abbrev slpO (zs : List Int) : Objs := [some [.slp true zs.length 1 (intL zs)]]
theorem h54_e (e : EX) (k : Nat) (l : List PV) (K : Int → Int → Int → List PV → Nat → List PV → R) : h54_0 (encE e) [some [.slp true k 1 l]] K = K e.op e.val e.idx (encL e.args) k l := by cases e; rfl
theorem h62_e (e : EX) (k : Nat) (l : List PV) (K : Int → Int → Int → List PV → Nat → List PV → R) : h62_0 (encE e) [some [.slp true k 1 l]] K = K e.op e.val e.idx (encL e.args) k l := by cases e; rfl
def ownV (o i : Int) : List Int := if o = 1 then [i] else []
theorem c62 (o v i : Int) (l : List EX) (zs : List Int) (hz : zs.length + 1 ≤ LIM) : SS.CC 62 [encE (.node o v i l), .ptr 0 0] [some [.slp true zs.length 1 (intL zs)]] = some (encE (.node o v i l), slpO (zs ++ ownV o i)) := by
  rw [encE_eq, g62_eq]
  unfold ownV
  by_cases h1 : o = 1
  · rw [eqT h1, bsel_true, decT hz, Bool.and_true, chk_tt, if_pos h1, intL_snoc]
    unfold slpO
    rw [List.length_append]; rfl
  · rw [eqF h1, bsel_false, if_neg h1, List.append_nil]
theorem l54u (o v i : Int) (l : List EX) (hl : l.length ≤ 3) (ih : ∀ e, e ∈ l → ∀ zs : List Int, (zs.length : Int) + sizeE e ≤ LIM → SS.CC 54 [encE e, .func (.func 62) [] [.ptr 0 0]] (slpO zs) = some (encE e, slpO (zs ++ uvE e))) :
    ∀ (m k : Nat) (zs : List Int), k + m = l.length → (zs.length : Int) + sizeL (l.drop k) + 1 ≤ LIM → g54_L4 (encL l) zs.length (intL zs) o v i k (encL (l.take k)) = some (encE (.node o v i l), slpO (zs ++ uvL (l.drop k) ++ ownV o i))
  | 0, k, zs, h, hb => by
    have hz : zs.length + 1 ≤ LIM := by have := sizeL_nn (l.drop k); omega
    have h62 := c62 o v i l zs hz
    rw [encE_eq] at h62
    rw [g54_L4_eq, decF (by simp; omega), bsel_false, List.drop_of_length_le (by omega), List.take_of_length_le (by omega), clH_of h62, ← encE_eq, h62_e, uvL, List.append_nil, mkE]
  | m + 1, k, zs, h, hb => by
    obtain ⟨y, hy⟩ := get_lt (show k < l.length by omega)
    rw [drop_cons hy, sizeL] at hb
    have h1 := sizeL_nn (l.drop (k + 1))
    have hv := vars_len y
    have hlt : ((l.take k).length + 1 : Nat) ≤ LIM := by simp [LIM]; omega
    rw [g54_L4_eq, decT (by simp; omega), bsel_true, lget_encL hy, w23, mkE, clH_of (ih y (get_mem hy) zs (by omega)), h54_e, mkE, encL_length, decT hlt, chk_tt, wrs (by omega), encL1 y, ← encL_app, ← take_snoc hy]
    rw [l54u o v i l hl ih m (k + 1) (zs ++ uvE y) (by omega) (by rw [List.length_append]; omega), drop_cons hy, uvL, ← List.append_assoc zs]
theorem c54u : ∀ e, triE e → ∀ zs : List Int, (zs.length : Int) + sizeE e ≤ LIM → SS.CC 54 [encE e, .func (.func 62) [] [.ptr 0 0]] (slpO zs) = some (encE e, slpO (zs ++ uvE e)) := by
  refine EX.ind fun o v i l ih ht zs hz => ?_
  rw [triE] at ht
  rw [size_node] at hz
  have h := l54u o v i l ht.1 (fun e he => ih e he (triL_mem ht.2 he)) l.length 0 zs (by omega) (by rw [List.drop_zero]; omega)
  rw [List.drop_zero, List.take_zero, encL] at h
  rw [uvE, ← List.append_assoc]
  unfold ownV at h
  rw [encE_eq, g54_eq]
  rw [encE_eq] at h
  exact h
def usesS (e : EX) : List Int × Int := if (checkS e 16).2 = 0 then (useS (uvE e), 0) else ([], (checkS e 16).2)
theorem use_fin (zs : List Int) (hz : zs.length ≤ 100000) (r : PV) (e : EX) (K : List PV → R) (hK : ∀ l, K l = some (.tuple [.sl false 1 l, .int .i64 0], [])) :
    (bsel (Nat.ble 1 zs.length) (chk ((intL zs).all plainC && true) (clH SS.CC 63 [.slh 0 0 zs.length 1] [some (intL zs)] fun r13 h14 => h63_0 r13 h14 fun l12 => chk (l12.all plainC && true) (chk (l12.all plainC && true) (clH SS.CC 64 [.slh 0 0 zs.length 1] [some l12] fun r17 h18 => h64_0 r17 h18 fun k15 l16 => chk (l16.all plainC && true) (chk (decide (k15 * 1 ≤ l16.length) && decide (0 < 1) && l16.all fun p => p.one && p.flat) (K (chunkP 1 l16 k15)))))))
      (clX SS.CC 63 [.sl false 1 []] fun r19 => w0 r19 (clX SS.CC 64 [.sl false 1 []] fun r21 => vL false 1 r21 fun l20 => K l20))) = K (intL (useS zs)) := by
  have hA := c63 zs hz
  have sne : ∀ {z : List Int}, z ≠ [] → sortI z ≠ [] := fun {z} h e => h (List.eq_nil_of_length_eq_zero (by rw [← sort_len, e]; rfl))
  have fin : ∀ (D J : List Int), (decide (D.length * 1 ≤ (intL (D ++ J)).length) && decide (0 < 1) && (intL (D ++ J)).all fun p => p.one && p.flat) = true := fun D J => by rw [intL_of, decT (by simp)]; rfl
  have ch : ∀ (D J : List Int), chunkP 1 (intL (D ++ J)) D.length = intL D := fun D J => by rw [intL_chunk _ (by simp)]; simp
  by_cases ea : zs = []
  · subst ea
    rw [show Nat.ble 1 ([] : List Int).length = false from rfl, bsel_false, clX_of c63n, w0_mk, clX_of c64n, vL_mk]
    have use0 : useS [] = [] := by simp [useS, sortI, dedS]
    rw [use0]; rfl
  · obtain ⟨o, h60, J, rfl⟩ := c64 (sortI zs) (sne ea) (by rw [sort_len]; omega)
    rw [sort_len] at h60
    have pos : Nat.ble 1 zs.length = true := by rw [Nat.ble_eq]; exact List.length_pos_iff.2 ea
    rw [pos, bsel_true]
    simp only [intL_plainC, Bool.and_self, chk_tt]
    rw [clH_of hA, h63_0_mk]
    simp only [intL_plainC, Bool.and_self, chk_tt]
    rw [clH_of h60, h64_0_mk]
    simp only [intL_plainC, Bool.and_self, chk_tt]
    rw [chk_of (fin _ _), ch]; rfl
theorem c35 (e : EX) : SS.CC 35 [encE e] [] = Ret (.tuple [.sl false 1 (intL (usesS e).1), .int .i64 (usesS e).2]) := by
  have h14 := up (g := 14) rfl (c14 e 16)
  unfold usesS
  by_cases h : (checkS e 16).2 = 0
  · have hs := check_size h
    have ht := tri_wf e (check_right h).1.1
    have h54 := c54u e ht [] (by simp [LIM]; omega)
    have hl := vars_len e
    rw [List.nil_append] at h54
    have h54 : SS.CC 54 [encE e, .func (.func 62) [] [.ptr 0 0]] [some [.slp true 0 1 []]] = some (encE e, [some [.slp true (uvE e).length 1 (intL (uvE e))]]) := h54
    rw [if_pos h]
    have hf := use_fin (uvE e) (by omega) .nilp e (fun l => some (.tuple [.sl false 1 l, .int .i64 0], [])) fun _ => rfl
    obtain ⟨o, v, i, l⟩ := e
    generalize uvE (.node o v i l) = zs at *
    rw [encE_eq] at h14 h54
    rw [encE_eq, g35_eq, clX_of h14, w_3_3_mk, neF h, bsel_false, clH_of h54, h54_0_mk]
    exact hf
  · rw [if_neg h]
    obtain ⟨o, v, i, l⟩ := e
    rw [encE_eq] at h14
    rw [encE_eq, g35_eq, clX_of h14, w_3_3_mk, neT h, bsel_true]; rfl
end Go.Proofs.Ytmclnnpaephkpaa.W

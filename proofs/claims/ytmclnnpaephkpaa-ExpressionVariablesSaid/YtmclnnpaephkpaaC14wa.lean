/-
  The statement ExpressionVariables: what its law answers.
-/
import Derived.Test.YtmclnnpaephkpaaC14w
namespace Go.Proofs.Ytmclnnpaephkpaa
set_option linter.unusedVariables false
set_option linter.unusedSimpArgs false
set_option linter.unnecessarySimpa false
set_option linter.unusedSectionVars false
open Go.RowKit

theorem ext_len (v : VT) : ∀ out : List (List Int), (out.flatMap (extV v)).length = out.length * wV v
  | [] => by simp
  | l :: out => by rw [List.flatMap_cons, List.length_append, extV_len, ext_len v out, List.length_cons, Nat.add_mul]; omega
theorem ext_get (v : VT) (hw : 0 < wV v) : ∀ (out : List (List Int)) (a : Nat), (out.flatMap (extV v))[a]? = (out[a / wV v]?).map fun l => l ++ [v.low + ((a % wV v : Nat) : Int)]
  | [], a => by simp
  | l :: out, a => by
    rw [List.flatMap_cons]
    by_cases h : a < wV v
    · rw [List.getElem?_append_left (by rw [extV_len]; exact h), Nat.div_eq_of_lt h, Nat.mod_eq_of_lt h]
      simp [extV, h]
    · rw [List.getElem?_append_right (by rw [extV_len]; omega), extV_len, ext_get v hw out (a - wV v)]
      have h1 : a / wV v = (a - wV v) / wV v + 1 := by rw [Nat.div_eq a, if_pos ⟨hw, by omega⟩]
      have h2 : a % wV v = (a - wV v) % wV v := Nat.mod_eq_sub_mod (by omega)
      rw [h1, h2, List.getElem?_cons_succ]
theorem ext_mem {v : VT} {n : Nat} {out : List (List Int)} (h : ∀ l, l ∈ out → l.length = n) : ∀ l, l ∈ out.flatMap (extV v) → l.length = n + 1 := fun l hl => by
  obtain ⟨x, hx, hl⟩ := List.mem_flatMap.1 hl
  obtain ⟨j, _, rfl⟩ := List.mem_map.1 hl
  simp [h x hx]
theorem allS_snoc (v : VT) : ∀ (a : List VT) (out : List (List Int)), allS (a ++ [v]) out = (allS a out).flatMap (extV v)
  | [], _ => rfl
  | u :: a, out => by rw [List.cons_append, allS, allS_snoc v a]; rfl
theorem allS_mem : ∀ (a : List VT) (n : Nat) (out : List (List Int)), (∀ l, l ∈ out → l.length = n) → ∀ l, l ∈ allS a out → l.length = n + a.length
  | [], n, out, h => h
  | v :: a, n, out, h => fun l hl => by
    have := allS_mem a (n + 1) _ (ext_mem h) l hl
    rw [this, List.length_cons]; omega
theorem l34 (rs : List VT) (hv : ∀ v, v ∈ rs → SmallV v) (hr : rs.length ≤ 3) : ∀ (m k : Nat) (out : List (List Int)), k + m = rs.length → out.length * 4 ^ m ≤ 64 → (∀ l, l ∈ out → l.length = k) →
    g34_L15 (rs.map encV) (encLL out) k = Ret (.tuple [.sl false 1 (encLL (allS (rs.drop k) out)), .int .i64 0])
  | 0, k, out, h, ho, hl => by
    rw [g34_L15_eq, decF (by simp; omega), bsel_false, List.drop_of_length_le (by omega)]; rfl
  | m + 1, k, out, h, ho, hl => by
    obtain ⟨y, hy⟩ := get_lt (show k < rs.length by omega)
    have hw : wV y ≤ 4 := by obtain ⟨h1, h2, h3, h4⟩ := hv y (get_mem hy); unfold wV; omega
    have hp : 0 < 4 ^ m := Nat.pos_of_ne_zero (by simp)
    rw [Nat.pow_succ] at ho
    have ho64 : out.length ≤ 64 := Nat.le_trans (Nat.le_mul_of_pos_right _ (by omega)) ho
    have hb := l34b rs y (hv y (get_mem hy)) k (by omega) out ho64 (fun l h => by rw [hl l h]; omega) out.length 0 [] (by omega) (by simp; omega)
    rw [g34_L15_eq, decT (by simp; omega), bsel_true, lget_map hy, v47_e, encLL_len]
    refine (show _ = _ from hb).trans ?_
    rw [List.nil_append, List.drop_zero, drop_cons hy, allS]
    refine l34 rs hv hr m (k + 1) _ (by omega) ?_ (ext_mem hl)
    rw [ext_len]
    have : out.length * wV y * 4 ^ m ≤ out.length * 4 * 4 ^ m := Nat.mul_le_mul_right _ (Nat.mul_le_mul_left _ hw)
    have e : out.length * 4 * 4 ^ m = out.length * (4 ^ m * 4) := by rw [Nat.mul_assoc, Nat.mul_comm 4]
    omega
theorem pow4 {k : Nat} (h : k ≤ 3) : 4 ^ k ≤ 64 := by
  have : k = 0 ∨ k = 1 ∨ k = 2 ∨ k = 3 := by omega
  rcases this with rfl | rfl | rfl | rfl <;> decide
theorem l34a (rs : List VT) (hv : ∀ v, v ∈ rs → SmallV v) (hr : rs.length ≤ 3) : ∀ (m k : Nat) (t : Int), k + m = rs.length → 1 ≤ t → t ≤ ((4 ^ k : Nat) : Int) → g34_L7 (rs.map encV) t k = g34_L15 (rs.map encV) (encLL [[]]) 0
  | 0, k, t, h, h0, h1 => by
    rw [g34_L7_eq, decF (by simp; omega), bsel_false]; rfl
  | m + 1, k, t, h, h0, h1 => by
    obtain ⟨y, hy⟩ := get_lt (show k < rs.length by omega)
    obtain ⟨v1, v2, v3, v4⟩ := hv y (get_mem hy)
    have hp := pow4 (show k + 1 ≤ 3 by omega)
    rw [Nat.pow_succ] at hp
    have hb : 1 ≤ t * (y.high - y.low + 1) ∧ t * (y.high - y.low + 1) ≤ ((4 ^ (k + 1) : Nat) : Int) := by
      rw [Nat.pow_succ]
      have : y.high - y.low + 1 = 1 ∨ y.high - y.low + 1 = 2 ∨ y.high - y.low + 1 = 3 ∨ y.high - y.low + 1 = 4 := by omega
      rcases this with e | e | e | e <;> rw [e] <;> omega
    have hb2 := hb.2
    rw [Nat.pow_succ] at hb2
    rw [g34_L7_eq, decT (by simp; omega), bsel_true, lget_map hy, v47_e, wr (n := y.high - y.low) (by omega) (by omega), wr (n := y.high - y.low + 1) (by omega) (by omega), wr (by omega) (by omega), decF (by omega), bsel_false, wrs (by omega)]
    exact l34a rs hv hr m (k + 1) _ (by omega) hb.1 hb.2
theorem c34 (rs : List VT) (hR : RightVs rs) (hv : ∀ v, v ∈ rs → SmallV v) (hr : rs.length ≤ 3) : SS.CC 34 [.sl false 4 (rs.map encV)] [] = Ret (.tuple [.sl false 1 (encLL (allS rs [[]])), .int .i64 0]) := by
  rw [g34_eq, clX_of (c33 rs hR), vI_mk, show ((0 : Int) != 0) = false from rfl, bsel_false]
  refine (l34a rs hv hr rs.length 0 1 (by omega) (by omega) (by simp)).trans ?_
  have := l34 rs hv hr rs.length 0 [[]] (by omega) (by have := pow4 hr; simpa using this) (by simp)
  simpa using this
theorem c34e (rs : List VT) (hr : rs.length ≤ 1000000) (hn : ∀ v, v ∈ rs → v.name.size ≤ 1000000) (hx : varsX rs ≠ 0) : SS.CC 34 [.sl false 4 (rs.map encV)] [] = Ret (.tuple [.sl false 1 [], .int .i64 (varsX rs)]) := by
  rw [g34_eq, clX_of (c33g rs hr hn), vI_mk, show (varsX rs != 0) = true by simpa using hx, bsel_true]
theorem c34w : SS.CC 34 [.sl false 4 [.agg [.str ⟨#[97]⟩, .int .i64 0, .int .i64 64, .int .i64 0], .agg [.str ⟨#[98]⟩, .int .i64 0, .int .i64 63, .int .i64 0]]] [] = Ret (.tuple [.sl false 1 [], .int .i64 3]) := CC_of_sem SS_ok 40 (by kernel_rfl)
/-! ### the statement's own look -/
theorem tmod_nat (a b : Nat) : Int.tmod (a : Int) (b : Int) = ((a % b : Nat) : Int) := rfl
theorem tdiv_nat (a b : Nat) : Int.tdiv (a : Int) (b : Int) = ((a / b : Nat) : Int) := rfl
theorem l35 (rs : List VT) (hr : rs.length ≤ 3) (hv : ∀ v, v ∈ rs → SmallV v) (all : List (List Int)) (ha : all.length ≤ 64) (i : Nat) (l : List Int) (hl : all[i]? = some l) (hll : l.length = rs.length) : ∀ (kk at_ : Nat), kk ≤ rs.length → (allS (rs.take kk) [[]])[at_]? = some (l.take kk) → at_ ≤ 64 →
    g10_L35 (rs.map encV) (encLL all) at_ ((kk : Int) - 1) i = g10_L31 (rs.map encV) (encLL all) ((i + 1 : Nat) : Int)
  | 0, at_, hk, h, h64 => by
    have := (List.getElem?_eq_some_iff.1 hl).1
    rw [g10_L35_eq, decF (by omega), bsel_false, wrs (by omega)]
  | kk + 1, at_, hk, h, h64 => by
    obtain ⟨y, hy⟩ := get_lt (show kk < rs.length by omega)
    obtain ⟨v1, v2, v3, v4⟩ := hv y (get_mem hy)
    have hw : 0 < wV y ∧ wV y ≤ 4 := by unfold wV; omega
    have hwi : y.high - y.low + 1 = ((wV y : Nat) : Int) := by unfold wV; omega
    rw [take_snoc hy, allS_snoc, ext_get y hw.1] at h
    cases hp : (allS (rs.take kk) [[]])[at_ / wV y]? with
    | none => rw [hp] at h; cases h
    | some pl =>
      rw [hp] at h
      simp only [Option.map_some] at h
      have h := Option.some.inj h
      have hpl : pl.length = kk := by
        have := allS_mem (rs.take kk) 0 [[]] (by simp) pl (get_mem hp)
        rw [this, List.length_take]; omega
      have hm : at_ % wV y < wV y := Nat.mod_lt _ hw.1
      have hd : at_ / wV y ≤ at_ := Nat.div_le_self _ _
      have hq0 : (0 : Int) ≤ ((at_ / wV y : Nat) : Int) := Int.natCast_nonneg _
      have hlk : l[kk]? = some (y.low + ((at_ % wV y : Nat) : Int)) := by
        have : (l.take (kk + 1))[kk]? = some (y.low + ((at_ % wV y : Nat) : Int)) := by rw [← h, List.getElem?_append_right (by omega), hpl]; simp
        rw [List.getElem?_take, if_pos (by omega)] at this
        exact this
      have hlt : l.take kk = pl := by
        have : (l.take (kk + 1)).take kk = pl := by rw [← h, ← hpl, List.take_left]
        rw [List.take_take, Nat.min_eq_left (by omega)] at this
        exact this
      rw [g10_L35_eq, decT (by omega), bsel_true, show ((kk + 1 : Nat) : Int) - 1 = (kk : Int) by omega, lget_map hy, v47_e, lget_map hy, v47_e, lget_LL hl, vL_mk, encI_length, List.length_map, hll, show ((rs.length : Int) != (rs.length : Int)) = false by simp, bsel_false, lget_LL hl, vL_mk, lget_encI hlk, vI_mk, lget_map hy, v47_e,
        wr (n := y.high - y.low) (by omega) (by omega), wr (n := y.high - y.low + 1) (by omega) (by omega), hwi, tmod_nat, tdiv_nat, chk_of (by simp; omega), wr (n := y.low + _) (by omega) (by omega), show ((y.low + ((at_ % wV y : Nat) : Int)) != (y.low + ((at_ % wV y : Nat) : Int))) = false by simp, bsel_false, chk_of (by simp; omega), wr (by omega) (by omega), wr (by omega) (by omega)]
      exact l35 rs hr hv all ha i l hl hll kk (at_ / wV y) (by omega) (by rw [hp, hlt]) (by omega)
theorem l31 (rs : List VT) (hv : ∀ v, v ∈ rs → SmallV v) (hr : rs.length ≤ 3) (ha : (allS rs [[]]).length ≤ 64) : ∀ (m i : Nat), i + m = (allS rs [[]]).length → g10_L31 (rs.map encV) (encLL (allS rs [[]])) i = Ret (.bool true)
  | 0, i, h => by
    rw [g10_L31_eq, decF (by rw [encLL_len]; omega), bsel_false, clX_of c34w, w_65_3_mk]; rfl
  | m + 1, i, h => by
    obtain ⟨y, hy⟩ := get_lt (show i < (allS rs [[]]).length by omega)
    have hyl : y.length = rs.length := by
      have := allS_mem rs 0 [[]] (by simp) y (get_mem hy); omega
    have h35 := l35 rs hr hv _ ha i y hy hyl rs.length i (Nat.le_refl _) (by rw [List.take_of_length_le (Nat.le_refl _), List.take_of_length_le (by omega)]; exact hy) (by omega)
    rw [g10_L31_eq, decT (by rw [encLL_len]; omega), bsel_true, List.length_map, wr (by omega) (by omega), h35]
    exact l31 rs hv hr ha m (i + 1) (by omega)
theorem allS_take_len (rs : List VT) (hv : ∀ v, v ∈ rs → SmallV v) : ∀ k, k ≤ rs.length → 1 ≤ (allS (rs.take k) [[]]).length ∧ (allS (rs.take k) [[]]).length ≤ 4 ^ k
  | 0, _ => by simp [allS]
  | k + 1, h => by
    obtain ⟨y, hy⟩ := get_lt (show k < rs.length by omega)
    obtain ⟨h1, h2⟩ := allS_take_len rs hv k (by omega)
    have hw : 1 ≤ wV y ∧ wV y ≤ 4 := by obtain ⟨v1, v2, v3, v4⟩ := hv y (get_mem hy); unfold wV; omega
    rw [take_snoc hy, allS_snoc, ext_len, Nat.pow_succ]
    exact ⟨Nat.mul_pos h1 hw.1, Nat.mul_le_mul h2 hw.2⟩
theorem l25 (rs : List VT) (hv : ∀ v, v ∈ rs → SmallV v) (hr : rs.length ≤ 3) : ∀ (m k : Nat), k + m = rs.length → g10_L25 (rs.map encV) (encLL (allS rs [[]])) 0 ((allS (rs.take k) [[]]).length : Int) k = Ret (.bool true)
  | 0, k, h => by
    have hl := (allS_take_len rs hv rs.length (Nat.le_refl _)).2
    rw [List.take_of_length_le (Nat.le_refl _)] at hl
    have := pow4 hr
    rw [g10_L25_eq, decF (by simp; omega), bsel_false, show ((0 : Int) != 0) = false from rfl, bsel_false, encLL_len, List.take_of_length_le (by omega), show (((allS rs [[]]).length : Int) != ((allS rs [[]]).length : Int)) = false by simp, bsel_false]
    exact l31 rs hv hr (by omega) (allS rs [[]]).length 0 (by omega)
  | m + 1, k, h => by
    obtain ⟨y, hy⟩ := get_lt (show k < rs.length by omega)
    obtain ⟨v1, v2, v3, v4⟩ := hv y (get_mem hy)
    have hwi : y.high - y.low + 1 = ((wV y : Nat) : Int) := by unfold wV; omega
    have hl := (allS_take_len rs hv (k + 1) (by omega)).2
    have hp := pow4 (show k + 1 ≤ 3 by omega)
    have e : (allS (rs.take (k + 1)) [[]]).length = (allS (rs.take k) [[]]).length * wV y := by rw [take_snoc hy, allS_snoc, ext_len]
    have ei : ((allS (rs.take k) [[]]).length : Int) * ((wV y : Nat) : Int) = ((allS (rs.take (k + 1)) [[]]).length : Int) := by rw [e, Int.natCast_mul]
    rw [g10_L25_eq, decT (by simp; omega), bsel_true, lget_map hy, v47_e, lget_map hy, v47_e, wr (n := y.high - y.low) (by omega) (by omega), wr (n := y.high - y.low + 1) (by omega) (by omega), hwi, ei, wr (by omega) (by omega), wrs (by omega)]
    exact l25 rs hv hr m (k + 1) (by omega)
theorem j21 (ls : List (Int × Int)) (hl : ∀ p, p ∈ ls → -128 ≤ p.1 ∧ p.1 ≤ 127 ∧ -128 ≤ p.2 ∧ p.2 ≤ 127) : g10_J21 (ls.map encR) = Ret (.bool true) := by
  have hR := ranges_right ls
  have hlen3 : (rangesS ls).length ≤ 3 := by unfold rangesS; rw [rangesFrom_len, List.length_take]; omega
  have hs : ∀ v, v ∈ rangesS ls → SmallV v := fun v hv => by
    obtain ⟨h1, h2, h3⟩ := (rangesFrom_vok _ _ v hv).1
    obtain ⟨j, hj⟩ := List.mem_iff_getElem?.1 hv
    obtain ⟨p, rfl⟩ := rangesFrom_get _ _ j v hj
    refine ⟨h1, h2, h3, ?_⟩
    simp only [rgV, widR]; omega
  rw [g10_J21_eq, clX_of (c22 ls hl), vL_mk, clX_of (c34 _ hR hs hlen3), w_65_3_mk]
  have := l25 (rangesS ls) hs hlen3 (rangesS ls).length 0 (by omega)
  simpa [allS] using this
theorem j15 (rs : List VT) (ns : List Int) (ls : List (Int × Int)) (hl : ∀ p, p ∈ ls → -128 ≤ p.1 ∧ p.1 ≤ 127 ∧ -128 ≤ p.2 ∧ p.2 ≤ 127) (hr : rs.length ≤ 1000000) (hn : ∀ v, v ∈ rs → v.name.size ≤ 1000000) :
    g10_J15 (rs.map encV) (encI ns) (ls.map encR) (varsX rs) (inX rs ns) = Ret (.bool true) := by
  rw [g10_J15_eq, clX_of (c33g rs hr hn), vI_mk, show (varsX rs != varsX rs) = false by simp, bsel_false, clX_of (c28g rs ns hr), vB_mk, show (!(inX rs ns == inX rs ns)) = false by simp, bsel_false, j21 ls hl]
  by_cases hx : varsX rs = 0
  · rw [hx]; rfl
  · rw [show (varsX rs != 0) = true by simpa using hx, bsel_true, clX_of (c34e rs hr hn hx), w_65_3_mk, show (varsX rs != varsX rs) = false by simp]; rfl
theorem l12f (rs : List VT) (ns : List Int) (ls : List (Int × Int)) (w : Int) (hr : rs.length ≤ 1000000) (k : Nat) (hk : k ≤ rs.length) : g10_L12 (rs.map encV) (encI ns) (ls.map encR) w false k = g10_J15 (rs.map encV) (encI ns) (ls.map encR) w false := by
  rw [g10_L12_eq]
  by_cases h : k < rs.length
  · rw [decT (by simp; omega), bsel_true, bsel_false]
  · rw [decF (by simp; omega), bsel_false]
theorem l12 (rs : List VT) (ns : List Int) (ls : List (Int × Int)) (w : Int) (hr : rs.length ≤ 1000000) (he : rs.length = ns.length) : ∀ (m k : Nat), k + m = rs.length → g10_L12 (rs.map encV) (encI ns) (ls.map encR) w true k = g10_J15 (rs.map encV) (encI ns) (ls.map encR) w (inS (rs.drop k) (ns.drop k))
  | 0, k, h => by
    rw [g10_L12_eq, decF (by simp; omega), bsel_false, List.drop_of_length_le (by omega), List.drop_of_length_le (by omega)]; rfl
  | m + 1, k, h => by
    obtain ⟨y, hy⟩ := get_lt (show k < rs.length by omega)
    obtain ⟨q, hq⟩ := get_lt (show k < ns.length by omega)
    have e : inS (rs.drop k) (ns.drop k) = (decide (y.low ≤ q) && decide (q ≤ y.high) && inS (rs.drop (k + 1)) (ns.drop (k + 1))) := by rw [drop_cons hy, drop_cons hq]; rfl
    rw [g10_L12_eq, decT (by simp; omega), bsel_true, bsel_true, lget_map hy, v47_e, lget_encI hq, vI_mk, lget_encI hq, vI_mk, lget_map hy, v47_e, wrs (by omega), l12f rs ns ls w hr (k + 1) (by omega), e]
    by_cases h1 : y.low ≤ q
    · rw [decT h1, bsel_true]
      by_cases h2 : q ≤ y.high
      · rw [decT h2, l12 rs ns ls w hr he m (k + 1) (by omega)]; simp
      · rw [decF h2, l12f rs ns ls w hr (k + 1) (by omega)]; simp
    · rw [decF h1, bsel_false]; simp
theorem l5v (rs : List VT) (ns : List Int) (ls : List (Int × Int)) (hl : ∀ p, p ∈ ls → -128 ≤ p.1 ∧ p.1 ≤ 127 ∧ -128 ≤ p.2 ∧ p.2 ≤ 127) (hr : rs.length ≤ 1000000) : ∀ (m k : Nat), k + m = rs.length → (∀ v, v ∈ rs.take k → v.name.size ≤ 40) → g10_L5 (rs.map encV) (encI ns) (ls.map encR) k = Ret (.bool true)
  | 0, k, h, hn => by
    rw [List.take_of_length_le (by omega)] at hn
    have hn' : ∀ v, v ∈ rs → v.name.size ≤ 1000000 := fun v hv => by have := hn v hv; omega
    have hj := j15 rs ns ls hl hr hn'
    rw [g10_L5_eq, decF (by simp; omega), bsel_false, clX_of (c32 rs hr hn'), vI_mk, encI_length, List.length_map]
    by_cases he : rs.length = ns.length
    · have h12 := l12 rs ns ls (varsX rs) hr he rs.length 0 (by omega)
      rw [show ((ns.length : Int) == (rs.length : Int)) = true by simp; omega]
      refine (show _ = _ from h12).trans ?_
      have : inS (rs.drop 0) (ns.drop 0) = inX rs ns := by simp [inX, he]
      rw [this]; exact hj
    · rw [show ((ns.length : Int) == (rs.length : Int)) = false by simp; omega]
      refine (show _ = _ from l12f rs ns ls (varsX rs) hr 0 (by omega)).trans ?_
      have : false = inX rs ns := by simp [inX, he]
      rw [this]; exact hj
  | m + 1, k, h, hn => by
    obtain ⟨y, hy⟩ := get_lt (show k < rs.length by omega)
    rw [g10_L5_eq, decT (by simp; omega), bsel_true, lget_map hy, v47_e]
    by_cases hb : 40 < (y.name.size : Int)
    · rw [decT hb, bsel_true]
    · rw [decF hb, bsel_false, wrs (by omega)]
      exact l5v rs ns ls hl hr m (k + 1) (by omega) (fun v hv => by
        rw [take_snoc hy] at hv
        rcases List.mem_append.1 hv with h | h
        · exact hn v h
        · simp at h; subst h; omega)
theorem c10 (rs : List VT) (ns : List Int) (ls : List (Int × Int)) (hl : ∀ p, p ∈ ls → -128 ≤ p.1 ∧ p.1 ≤ 127 ∧ -128 ≤ p.2 ∧ p.2 ≤ 127) : SS.CC 10 [.sl false 4 (rs.map encV), .sl false 1 (encI ns), .sl false 2 (ls.map encR)] [] = Ret (.bool true) := by
  rw [g10_eq, clX_of c12, vB_mk, Bool.not_true, bsel_false, List.length_map, encI_length]
  by_cases h1 : 18 < (rs.length : Int)
  · rw [decT h1, bsel_true, clX_of c12, vB_mk]
  · rw [decF h1, bsel_false]
    by_cases h2 : 18 < (ns.length : Int)
    · rw [decT h2, bsel_true, clX_of c12, vB_mk]
    · rw [decF h2, bsel_false]
      exact l5v rs ns ls hl (by omega) rs.length 0 (by omega) (by simp)
end Go.Proofs.Ytmclnnpaephkpaa

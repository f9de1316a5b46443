/-
  What the functions of chapter 14 answer: lists of variables.
-/
import Derived.Test.YtmclnnpaephkpaaC14l
import Derived.Test.YtmclnnpaephkpaaT14w
import Derived.Test.YtmclnnpaephkpaaT14u
namespace Go.Proofs.Ytmclnnpaephkpaa
set_option linter.unusedVariables false
set_option linter.unusedSimpArgs false
set_option linter.unnecessarySimpa false
set_option linter.unusedSectionVars false
open Go.RowKit

/-! ### names -/
theorem bytes_get {s : ByteArray} {k : Nat} (h : k < s.size) : ∃ b : UInt8, s[k]? = some b := ⟨s[k], getElem?_pos s k h⟩
theorem l58x (s : ByteArray) (hs : s.size ≤ 1000000) : ∀ (m k : Nat), k + m = s.size → ∃ b, g58_L3 s k = Ret (.bool b)
  | 0, k, h => by
    rw [g58_L3_eq, decF (by omega), bsel_false, bsel_ite]
    split
    · exact ⟨_, rfl⟩
    · exact ⟨_, rfl⟩
  | m + 1, k, h => by
    obtain ⟨c, hc⟩ := bytes_get (show k < s.size by omega)
    obtain ⟨b, hb⟩ := l58x s hs m (k + 1) (by omega)
    rw [g58_L3_eq, decT (by omega), bsel_true, byteX_of (by omega) (by simpa using hc), wrs (by omega), hb]
    simp only [bsel_ite]
    repeat' split
    all_goals exact ⟨_, rfl⟩
theorem c58x (s : ByteArray) (hs : s.size ≤ 1000000) : ∃ b, SS.CC 58 [.str s] [] = Ret (.bool b) := by
  rw [g58_eq]; exact l58x s hs s.size 0 (by omega)
open Classical in
/-- Whether a string is a name. -/
noncomputable def nmB (s : ByteArray) : Bool := if h : s.size ≤ 1000000 then (c58x s h).choose else false
theorem c58 (s : ByteArray) (hs : s.size ≤ 1000000) : SS.CC 58 [.str s] [] = Ret (.bool (nmB s)) := by
  unfold nmB; rw [dif_pos hs]; exact (c58x s hs).choose_spec
/-! ### the first error of a list of variables -/
def sameN (a b : VT) : Bool := a.name.toList == b.name.toList
def tailV (v : VT) (next : Int) : Int := if largeS v.low 65536 || largeS v.high 65536 then 2 else if v.high < v.low then 5 else if v.init < v.low ∨ v.high < v.init then 2 else next
noncomputable def varsW : List VT → List VT → Int
  | _, [] => 0
  | pre, v :: l => if nmB v.name = false then 7 else if pre.any (sameN · v) then 8 else tailV v (varsW (pre ++ [v]) l)
noncomputable def varsX (l : List VT) : Int := if 16 < l.length then 3 else varsW [] l
theorem l77g (rs : List VT) (v : VT) (hr : rs.length ≤ 1000000) : ∀ (m k : Nat), k + m = rs.length → ∃ n : Int, g77_L3 (rs.map encV) v.name v.low v.high v.init k = some (.int .i64 n, obV v) ∧ decide (0 ≤ n) = (rs.drop k).any (sameN · v)
  | 0, k, h => by
    rw [g77_L3_eq, decF (by simp; omega), bsel_false, List.drop_of_length_le (by omega)]
    exact ⟨-1, rfl, rfl⟩
  | m + 1, k, h => by
    obtain ⟨y, hy⟩ := get_lt (show k < rs.length by omega)
    obtain ⟨n, h1, h2⟩ := l77g rs v hr m (k + 1) (by omega)
    have h60 := c60 y v
    unfold encV obV at h60
    rw [g77_L3_eq, decT (by simp; omega), bsel_true, lget_map hy, v47_e, clH_of h60, h60_0_mk, drop_cons hy, List.any_cons, wrs (by omega), h1, bsel_ite]
    cases hq : (y.name.toList == v.name.toList) with
    | true => exact ⟨k, rfl, by simp [sameN, hq]⟩
    | false => exact ⟨n, rfl, by simp only [sameN, hq, Bool.false_or]; exact h2⟩
theorem c59g (rs : List VT) (v : VT) (hr : rs.length ≤ 1000000) : SS.CC 59 [.sl false 4 (rs.map encV), .func (.func 60) [] [.ptr 0 0]] (obV v) = some (.bool (rs.any (sameN · v)), obV v) := by
  obtain ⟨n, h1, h2⟩ := l77g rs v hr rs.length 0 (by omega)
  have h77 : SS.CC 77 [.sl false 4 (rs.map encV), .func (.func 60) [] [.ptr 0 0]] [some [.str v.name, .int .i64 v.low, .int .i64 v.high, .int .i64 v.init]] = some (.int .i64 n, obV v) := by
    rw [g77_eq]; exact h1
  unfold obV
  rw [g59_eq, clH_of h77]
  unfold obV
  rw [h77_0_mk, h2]
  rfl
theorem l33g (rs : List VT) (hr : rs.length ≤ 1000000) (hn : ∀ v, v ∈ rs → v.name.size ≤ 1000000) : ∀ (m k : Nat), k + m = rs.length → g33_L5 (rs.map encV) k = Ret (.int .i64 (varsW (rs.take k) (rs.drop k)))
  | 0, k, hk => by
    rw [g33_L5_eq, decF (by simp; omega), bsel_false, List.drop_of_length_le (by omega), varsW]
  | m + 1, k, hk => by
    obtain ⟨y, hy⟩ := get_lt (show k < rs.length by omega)
    have h59 := c59g (rs.take k) y (by simp; omega)
    unfold obV at h59
    rw [g33_L5_eq, decT (by simp; omega), bsel_true, lget_map hy, v47_e, clX_of (c58 y.name (hn y (get_mem hy))), vB_mk, chk_of (by simp; omega), Int.toNat_natCast, ← List.map_take, clH_of h59, h59_0_mk,
      clX_of (c49 y.low 65536 (by decide) (by decide)), vB_mk, clX_of (c49 y.high 65536 (by decide) (by decide)), vB_mk, wrs (by omega), l33g rs hr hn m (k + 1) (by omega), drop_cons hy, varsW, ← take_snoc hy, tailV]
    simp only [bsel_ite]
    cases nmB y.name <;> cases (rs.take k).any (sameN · y) <;> cases largeS y.low 65536 <;> cases largeS y.high 65536 <;> by_cases h1 : y.high < y.low <;> by_cases h2 : y.init < y.low <;> by_cases h3 : y.high < y.init <;> simp [h1, h2, h3]
theorem c33g (rs : List VT) (hr : rs.length ≤ 1000000) (hn : ∀ v, v ∈ rs → v.name.size ≤ 1000000) : SS.CC 33 [.sl false 4 (rs.map encV)] [] = Ret (.int .i64 (varsX rs)) := by
  rw [g33_eq, varsX, List.length_map, bsel_ite]
  by_cases h : 16 < rs.length
  · rw [if_pos h, if_pos (by simpa using by omega)]
  · rw [if_neg h, if_neg (by simpa using by omega)]
    exact l33g rs hr hn rs.length 0 (by omega)
theorem l32i (rs : List VT) (hr : rs.length ≤ 1000000) (k : Nat) (hk : k < rs.length) (v : VT) (next : Int) (hnx : g32_L5 (rs.map encV) ((k + 1 : Nat) : Int) = Ret (.int .i64 next)) : ∀ (m j : Nat), j + m = k → g32_L11 (rs.map encV) v.name v.low v.high v.init k j = Ret (.int .i64 (if ((rs.take k).drop j).any (sameN · v) then 8 else tailV v next))
  | 0, j, h => by
    rw [g32_L11_eq, decF (by omega), bsel_false, List.drop_of_length_le (by simp; omega), clX_of (c19 v.low 65536 (by decide) (by decide)), vB_mk, clX_of (c19 v.high 65536 (by decide) (by decide)), vB_mk, wrs (by omega), hnx, tailV]
    simp only [bsel_ite]
    cases largeS v.low 65536 <;> cases largeS v.high 65536 <;> by_cases h1 : v.high < v.low <;> by_cases h2 : v.init < v.low <;> by_cases h3 : v.high < v.init <;> simp [h1, h2, h3]
  | m + 1, j, h => by
    obtain ⟨y, hy⟩ := get_lt (show j < rs.length by omega)
    have hy' : (rs.take k)[j]? = some y := by rw [List.getElem?_take, if_pos (by omega)]; exact hy
    rw [g32_L11_eq, decT (by omega), bsel_true, lget_map hy, v47_e, drop_cons hy', List.any_cons, wrs (by omega), l32i rs hr k hk v next hnx m (j + 1) (by omega), bsel_ite]
    cases hq : (y.name.toList == v.name.toList) <;> simp [sameN, hq]
theorem l32 (rs : List VT) (hr : rs.length ≤ 1000000) (hn : ∀ v, v ∈ rs → v.name.size ≤ 1000000) : ∀ (m k : Nat), k + m = rs.length → g32_L5 (rs.map encV) k = Ret (.int .i64 (varsW (rs.take k) (rs.drop k)))
  | 0, k, hk => by
    rw [g32_L5_eq, decF (by simp; omega), bsel_false, List.drop_of_length_le (by omega), varsW]
  | m + 1, k, hk => by
    obtain ⟨y, hy⟩ := get_lt (show k < rs.length by omega)
    have hi := l32i rs hr k (by omega) y _ (l32 rs hr hn m (k + 1) (by omega)) k 0 (by omega)
    rw [List.drop_zero] at hi
    rw [g32_L5_eq, decT (by simp; omega), bsel_true, lget_map hy, v47_e, clX_of (c58 y.name (hn y (get_mem hy))), vB_mk, drop_cons hy, varsW, ← take_snoc hy, bsel_ite]
    cases nmB y.name
    · simp
    · simp only [Bool.not_true, Bool.false_eq_true, if_false]
      exact hi
theorem c32 (rs : List VT) (hr : rs.length ≤ 1000000) (hn : ∀ v, v ∈ rs → v.name.size ≤ 1000000) : SS.CC 32 [.sl false 4 (rs.map encV)] [] = Ret (.int .i64 (varsX rs)) := by
  rw [g32_eq, varsX, List.length_map, bsel_ite]
  by_cases h : 16 < rs.length
  · rw [if_pos h, if_pos (by simpa using by omega)]
  · rw [if_neg h, if_neg (by simpa using by omega)]
    exact l32 rs hr hn rs.length 0 (by omega)
/-- Within, for lists of any lengths. -/
def inX (rs : List VT) (ns : List Int) : Bool := rs.length == ns.length && inS rs ns
theorem c28g (rs : List VT) (ns : List Int) (hr : rs.length ≤ 1000000) : SS.CC 28 [.sl false 4 (rs.map encV), .sl false 1 (encI ns)] [] = Ret (.bool (inX rs ns)) := by
  by_cases he : rs.length = ns.length
  · rw [c28 rs ns hr he, inX]; simp [he]
  · rw [g28_eq, List.length_map, encI_length, show ((rs.length : Int) != (ns.length : Int)) = true by simpa using by omega, bsel_true, inX]
    simp [he]
/-! ### all values -/
theorem c61 (l : List Int) (hl : l.length ≤ 1000) : SS.CC 61 [.sl false 1 (encI l)] [] = Ret (.sl true 1 (encI l)) := by
  rw [g61_eq]
  refine nilX_of ?_ fun h => ?_
  · rw [show (false == true) = false from rfl, bsel_false, chk_of (by simp [LIM]; omega)]
  · rw [show (true == true) = true from rfl, bsel_true, h]
def encLL (l : List (List Int)) : List PV := l.map fun x => .sl false 1 (encI x)
def wV (v : VT) : Nat := (v.high - v.low + 1).toNat
def extV (v : VT) (l : List Int) : List (List Int) := (List.range (wV v)).map fun j : Nat => l ++ [v.low + j]
def allS : List VT → List (List Int) → List (List Int)
  | [], out => out
  | v :: vs, out => allS vs (out.flatMap (extV v))
theorem extV_len (v : VT) (l : List Int) : (extV v l).length = wV v := by simp [extV]
theorem encLL_app (a b : List (List Int)) : encLL (a ++ b) = encLL a ++ encLL b := by simp [encLL]
theorem encLL_len (a : List (List Int)) : (encLL a).length = a.length := by simp [encLL]
theorem lget_LL {l : List (List Int)} {k : Nat} {K : PV → R} {y : List Int} (h : l[k]? = some y) : lgetX (encLL l) (k : Int) K = K (.sl false 1 (encI y)) := lget_map (f := fun x => PV.sl false 1 (encI x)) h
def SmallV (v : VT) : Prop := -65536 ≤ v.low ∧ v.low ≤ v.high ∧ v.high ≤ 65536 ∧ v.high - v.low ≤ 3
theorem l34c (rs : List VT) (v : VT) (hv : SmallV v) (k : Nat) (l : List Int) (hl : l.length ≤ 10) (out : List (List Int)) (p : Nat) (hp : p < 1000000) : ∀ (m j : Nat) (acc : List (List Int)), j + m = wV v → acc.length + m ≤ 1000000 →
    g34_L22 (encI l) (v.low + j) (rs.map encV) v.name v.high v.init v.low (encLL acc) p k (encLL out) (out.length : Int) = g34_L19 (rs.map encV) v.name v.low v.high v.init ((p + 1 : Nat) : Int) (encLL (acc ++ ((List.range (wV v)).drop j).map fun j : Nat => l ++ [v.low + j])) k (encLL out) (out.length : Int)
  | 0, j, acc, h, ha => by
    obtain ⟨h1, h2, h3, h4⟩ := hv
    have hd : (List.range (wV v)).drop j = [] := List.drop_of_length_le (by rw [List.length_range]; omega)
    unfold wV at h
    rw [g34_L22_eq, decF (by omega), bsel_false, wrs (by omega), hd]; simp
  | m + 1, j, acc, h, ha => by
    have hv' := hv
    obtain ⟨h1, h2, h3, h4⟩ := hv
    have hw := h
    unfold wV at hw
    have hj : (List.range (wV v))[j]? = some j := List.getElem?_range (by omega)
    rw [g34_L22_eq, decT (by omega), bsel_true, clX_of (c61 l (by omega)), vL_mk, chk_of (by simp [LIM]; omega), chk_of (by simp [LIM, encLL_len]; omega), wr (by omega) (by omega), drop_cons hj]
    have := l34c rs v hv' k l hl out p hp m (j + 1) (acc ++ [l ++ [v.low + j]]) (by omega) (by simp; omega)
    rw [encLL_app, show v.low + ((j + 1 : Nat) : Int) = v.low + j + 1 by omega] at this
    rw [encI_one, ← encI_app]
    refine this.trans ?_
    simp
theorem l34b (rs : List VT) (v : VT) (hv : SmallV v) (k : Nat) (hk : k < 1000000) (out : List (List Int)) (ho : out.length ≤ 64) (hl : ∀ l, l ∈ out → l.length ≤ 10) : ∀ (m p : Nat) (acc : List (List Int)), p + m = out.length → acc.length + 4 * m ≤ 1000000 →
    g34_L19 (rs.map encV) v.name v.low v.high v.init p (encLL acc) k (encLL out) (out.length : Int) = g34_L15 (rs.map encV) (encLL (acc ++ (out.drop p).flatMap (extV v))) ((k + 1 : Nat) : Int)
  | 0, p, acc, h, ha => by
    rw [g34_L19_eq, decF (by omega), bsel_false, wrs (by omega), List.drop_of_length_le (by omega)]; simp
  | m + 1, p, acc, h, ha => by
    obtain ⟨y, hy⟩ := get_lt (show p < out.length by omega)
    have hw : wV v ≤ 4 := by obtain ⟨h1, h2, h3, h4⟩ := hv; unfold wV; omega
    have hc := l34c rs v hv k y (hl y (get_mem hy)) out p (by omega) (wV v) 0 acc (by omega) (by omega)
    rw [Int.natCast_zero, Int.add_zero] at hc
    rw [g34_L19_eq, decT (by omega), bsel_true, lget_LL hy, vL_mk, hc, drop_cons hy, List.flatMap_cons]
    have := l34b rs v hv k hk out ho hl m (p + 1) (acc ++ extV v y) (by omega) (by rw [List.length_append, extV_len]; omega)
    rw [List.append_assoc] at this
    exact this
end Go.Proofs.Ytmclnnpaephkpaa

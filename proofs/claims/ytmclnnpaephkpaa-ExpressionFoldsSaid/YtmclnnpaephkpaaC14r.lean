/-
  What the functions of chapter 14 answer: ranges of variables, values within them.
-/
import Derived.Test.YtmclnnpaephkpaaC14a
import Derived.Test.YtmclnnpaephkpaaT14r
namespace Go.Proofs.Ytmclnnpaephkpaa
set_option linter.unusedVariables false
set_option linter.unusedSimpArgs false
set_option linter.unnecessarySimpa false
set_option linter.unusedSectionVars false
open Go.RowKit

def nmR (k : Nat) : ByteArray := (⟨#[120]⟩ : ByteArray) ++ strOf [.int .u8 (48 + (k : Int))]
def lowR (p : Int × Int) : Int := p.1.tmod 5
def widR (p : Int × Int) : Int := p.2 % 256 % 4
def rgV (k : Nat) (p : Int × Int) : VT := ⟨nmR k, lowR p, lowR p + widR p, lowR p + p.2 % 256 / 4 % (widR p + 1)⟩
def rangesFrom : Nat → List (Int × Int) → List VT
  | _, [] => []
  | k, p :: l => rgV k p :: rangesFrom (k + 1) l
def rangesS (l : List (Int × Int)) : List VT := rangesFrom 0 (l.take 3)
theorem rangesFrom_snoc : ∀ (l : List (Int × Int)) (k : Nat) (p : Int × Int), rangesFrom k (l ++ [p]) = rangesFrom k l ++ [rgV (k + l.length) p]
  | [], k, p => rfl
  | q :: l, k, p => by
    rw [List.cons_append, rangesFrom, rangesFrom_snoc l (k + 1) p, rangesFrom, List.length_cons, show k + 1 + l.length = k + (l.length + 1) by omega]; rfl
theorem rangesFrom_len : ∀ (l : List (Int × Int)) (k : Nat), (rangesFrom k l).length = l.length
  | [], _ => rfl
  | _ :: l, k => by rw [rangesFrom, List.length_cons, rangesFrom_len l]; rfl
theorem lowR_bd (p : Int × Int) : -4 ≤ lowR p ∧ lowR p ≤ 4 := by
  unfold lowR
  have h1 := Int.tmod_lt_of_pos p.1 (show (0 : Int) < 5 by decide)
  have h2 : -5 < p.1.tmod 5 := by
    have := Int.tmod_lt_of_pos (-p.1) (show (0 : Int) < 5 by decide)
    rw [Int.neg_tmod] at this
    omega
  omega
theorem wu8 (n : Int) : IntKind.u8.wrap n = n % 256 := by
  unfold IntKind.wrap
  simp [IntKind.bits, IntKind.signed]
theorem size_one (q : PV) : (strOf [q]).size = 1 := by
  unfold strOf; rfl
theorem l22 (l : List (Int × Int)) (hl : ∀ p, p ∈ l → -128 ≤ p.1 ∧ p.1 ≤ 127 ∧ -128 ≤ p.2 ∧ p.2 ≤ 127) : ∀ (m k : Nat), k + m = min l.length 3 →
    g22_L4 (l.map encR) ((rangesFrom 0 (l.take k)).map encV) k = Ret (.sl false 4 ((rangesS l).map encV))
  | 0, k, h => by
    have hk : rangesS l = rangesFrom 0 (l.take k) := by
      unfold rangesS
      by_cases h3 : l.length ≤ 3
      · rw [List.take_of_length_le h3, List.take_of_length_le (by omega)]
      · rw [show k = 3 by omega]
    rw [g22_L4_eq, hk]
    by_cases h3 : k < l.length
    · rw [decT (by simp; omega), bsel_true, decF (by omega), bsel_false]
    · rw [decF (by simp; omega), bsel_false]
  | m + 1, k, h => by
    obtain ⟨y, hy⟩ := get_lt (show k < l.length by omega)
    have hk3 : k < 3 := by omega
    obtain ⟨a1, a2, a3, a4⟩ := hl y (get_mem hy)
    have hb := lowR_bd y
    have e1 : IntKind.u8.wrap (48 + IntKind.u8.wrap (k : Int)) = 48 + (k : Int) := by rw [wu8, wu8]; omega
    have e2 : IntKind.i64.wrap (Int.tmod y.1 5) = lowR y := by unfold lowR at *; rw [wr (by omega) (by omega)]
    have e3 : IntKind.i64.wrap (Int.tmod (IntKind.u8.wrap y.2) 4) = widR y := by
      rw [wu8, Int.tmod_eq_emod_of_nonneg (by omega), wr (by omega) (by omega)]; rfl
    have hw : 0 ≤ widR y ∧ widR y ≤ 3 := by unfold widR; omega
    have e4 : IntKind.i64.wrap (lowR y + widR y) = lowR y + widR y := wr (by omega) (by omega)
    have e5 : IntKind.i64.wrap (widR y + 1) = widR y + 1 := wr (by omega) (by omega)
    have e6 : Int.tmod (IntKind.i64.wrap (IntKind.u8.wrap (Int.tdiv (IntKind.u8.wrap y.2) 4))) (widR y + 1) = y.2 % 256 / 4 % (widR y + 1) := by
      rw [wu8, wu8, Int.tdiv_eq_ediv_of_nonneg (by omega), wr (by omega) (by omega), show y.2 % 256 / 4 % 256 = y.2 % 256 / 4 by omega, Int.tmod_eq_emod_of_nonneg (by omega)]
    have hq : 0 ≤ y.2 % 256 / 4 % (widR y + 1) ∧ y.2 % 256 / 4 % (widR y + 1) ≤ 3 := by
      have := Int.emod_nonneg (y.2 % 256 / 4) (show widR y + 1 ≠ 0 by omega)
      have := Int.emod_lt_of_pos (y.2 % 256 / 4) (show 0 < widR y + 1 by omega)
      omega
    rw [g22_L4_eq, decT (by simp; omega), bsel_true, decT (by omega), bsel_true]
    simp only [lget_map hy, v62_e]
    rw [e1, e2, e3, e4, e5, e6, wr (n := lowR y + y.2 % 256 / 4 % (widR y + 1)) (by omega) (by omega), wrs (by omega)]
    have hlen : (rangesFrom 0 (l.take k)).length = k := by rw [rangesFrom_len, List.length_take]; omega
    rw [chk_of (b := bytesP _) (by rfl), chk_of (by rw [size_one]; decide), chk_of (by simp; omega), chk_of (decT (by simp [LIM]; omega))]
    have := l22 l hl m (k + 1) (by omega)
    rw [take_snoc hy, rangesFrom_snoc, List.map_append, List.length_take, Nat.min_eq_left (by omega), Nat.zero_add] at this
    exact this
theorem c22 (l : List (Int × Int)) (hl : ∀ p, p ∈ l → -128 ≤ p.1 ∧ p.1 ≤ 127 ∧ -128 ≤ p.2 ∧ p.2 ≤ 127) : SS.CC 22 [.sl false 2 (l.map encR)] [] = Ret (.sl false 4 ((rangesS l).map encV)) := by
  rw [g22_eq]
  exact l22 l hl (min l.length 3) 0 (by omega)
/-! ### within, Within -/
def withinS (rs : List VT) (us : List UInt8) : List Int := (rs.zip us).map fun x => x.1.low + (x.2.toNat : Int) % (x.1.high - x.1.low + 1)
def VOK (v : VT) : Prop := -65536 ≤ v.low ∧ v.low ≤ v.high ∧ v.high ≤ 65536
theorem get3 {a b c : UInt8} {k : Nat} {y : UInt8} {K : PV → R} (h : [a, b, c][k]? = some y) : lgetX [.int .u8 (a.toNat : Int), .int .u8 (b.toNat : Int), .int .u8 (c.toNat : Int)] (k : Int) K = K (.int .u8 (y.toNat : Int)) := by
  have : [PV.int .u8 (a.toNat : Int), .int .u8 (b.toNat : Int), .int .u8 (c.toNat : Int)] = [a, b, c].map fun b => .int .u8 (b.toNat : Int) := rfl
  rw [this]
  exact lget_map (f := fun b : UInt8 => PV.int .u8 (b.toNat : Int)) h
theorem l27 (rs : List VT) (a b c : UInt8) (hr : rs.length ≤ 3) (hv : ∀ v, v ∈ rs → VOK v) : ∀ (m k : Nat), k + m = rs.length →
    g27_L4 (rs.map encV) (a.toNat : Int) (b.toNat : Int) (c.toNat : Int) (encI (withinS (rs.take k) [a, b, c])) k = Ret (.sl true 1 (encI (withinS rs [a, b, c])))
  | 0, k, h => by
    rw [g27_L4_eq, decF (by simp; omega), bsel_false, List.take_of_length_le (by omega)]
  | m + 1, k, h => by
    obtain ⟨y, hy⟩ := get_lt (show k < rs.length by omega)
    obtain ⟨u, hu⟩ := get_lt (show k < [a, b, c].length by simp; omega)
    obtain ⟨v1, v2, v3⟩ := hv y (get_mem hy)
    have hu2 := u.toNat_lt
    rw [g27_L4_eq, decT (by simp; omega), bsel_true]
    simp only [lget_map hy, v47_e, get3 hu, vI_mk]
    have hpos : 0 < y.high - y.low + 1 := by omega
    have q1 := Int.emod_nonneg (u.toNat : Int) (show y.high - y.low + 1 ≠ 0 by omega)
    have q2 := Int.emod_lt_of_pos (u.toNat : Int) hpos
    rw [wr (n := y.high - y.low) (by omega) (by omega), wr (n := y.high - y.low + 1) (by omega) (by omega), wr (n := (u.toNat : Int)) (by omega) (by omega), Int.tmod_eq_emod_of_nonneg (by omega),
      wr (n := y.low + (u.toNat : Int) % (y.high - y.low + 1)) (by omega) (by omega), wrs (by omega)]
    have hlen : (withinS (rs.take k) [a, b, c]).length = k := by simp [withinS]; omega
    rw [chk_of (decT (by omega)), chk_of (by simp; omega), chk_of (decT (by rw [encI_length, hlen]; simp [LIM]; omega)), encI_one, ← encI_app]
    have := l27 rs a b c hr hv m (k + 1) (by omega)
    have hs : withinS (rs.take (k + 1)) [a, b, c] = withinS (rs.take k) [a, b, c] ++ [y.low + (u.toNat : Int) % (y.high - y.low + 1)] := by
      have hz : ∀ j, withinS (rs.take j) [a, b, c] = (withinS rs [a, b, c]).take j := by
        intro j
        apply List.ext_getElem?
        intro i
        simp only [withinS, List.getElem?_take, List.getElem?_map, List.zip, List.getElem?_zipWith]
        by_cases hi : i < j <;> simp [hi]
      rw [hz, hz]
      exact take_snoc (by simp [withinS, List.zip, List.getElem?_zipWith, hy, hu])
    rw [hs] at this
    exact this
theorem c27 (rs : List VT) (a b c : UInt8) (hr : rs.length ≤ 3) (hv : ∀ v, v ∈ rs → VOK v) : SS.CC 27 [.sl false 4 (rs.map encV), .agg [.int .u8 (a.toNat : Int), .int .u8 (b.toNat : Int), .int .u8 (c.toNat : Int)]] [] = Ret (.sl true 1 (encI (withinS rs [a, b, c]))) := by
  rw [g27_eq]
  exact l27 rs a b c hr hv rs.length 0 (by omega)
def inS (rs : List VT) (ns : List Int) : Bool := (rs.zip ns).all fun x => decide (x.1.low ≤ x.2) && decide (x.2 ≤ x.1.high)
theorem l28 (rs : List VT) (ns : List Int) (hr : rs.length ≤ 1000000) (he : rs.length = ns.length) : ∀ (m k : Nat), k + m = rs.length →
    g28_L5 (encI ns) (rs.map encV) k = Ret (.bool (inS (rs.drop k) (ns.drop k)))
  | 0, k, h => by
    rw [g28_L5_eq, decF (by simp; omega), bsel_false, List.drop_of_length_le (by omega)]; rfl
  | m + 1, k, h => by
    obtain ⟨y, hy⟩ := get_lt (show k < rs.length by omega)
    obtain ⟨u, hu⟩ := get_lt (show k < ns.length by omega)
    rw [g28_L5_eq, decT (by simp; omega), bsel_true]
    simp only [lget_map hy, v47_e, lget_encI hu, vI_mk]
    rw [wrs (by omega), l28 rs ns hr he m (k + 1) (by omega), drop_cons hy, drop_cons hu]
    simp only [inS, List.zip_cons_cons, List.all_cons, bsel_ite]
    by_cases h1 : u < y.low
    · simp [h1, show ¬ y.low ≤ u by omega]
    · by_cases h2 : y.high < u
      · simp [h1, h2, show ¬ u ≤ y.high by omega]
      · simp [h1, h2, show y.low ≤ u by omega, show u ≤ y.high by omega]
theorem c28 (rs : List VT) (ns : List Int) (hr : rs.length ≤ 1000000) (he : rs.length = ns.length) : SS.CC 28 [.sl false 4 (rs.map encV), .sl false 1 (encI ns)] [] = Ret (.bool (inS rs ns)) := by
  rw [g28_eq, show (((rs.map encV).length : Int) != ((encI ns).length : Int)) = false by simp [he], bsel_false]
  exact l28 rs ns hr he rs.length 0 (by omega)
theorem rangesFrom_vok : ∀ (l : List (Int × Int)) (k : Nat) (v : VT), v ∈ rangesFrom k l → VOK v ∧ -4 ≤ v.low ∧ v.high ≤ 7
  | [], _, v, h => by cases h
  | p :: l, k, v, h => by
    rw [rangesFrom] at h
    rcases List.mem_cons.1 h with rfl | h
    · have hb := lowR_bd p
      have hw : 0 ≤ widR p ∧ widR p ≤ 3 := by unfold widR; omega
      simp only [rgV, VOK]; omega
    · exact rangesFrom_vok l (k + 1) v h
end Go.Proofs.Ytmclnnpaephkpaa

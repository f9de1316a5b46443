/-
  Make, Concat, Start, Scan, Steps, Run, and the model's scan.
-/
import Derived.Test.YtiejgieiokmmfaaDoorC52a
import Derived.Test.YtiejgieiokmmfaaDoorC52b
namespace Go.Proofs.YtiejgieiokmmfaaDoor
set_option linter.unusedVariables false
set_option linter.unusedSimpArgs false
set_option linter.unnecessarySimpa false
set_option linter.unusedSectionVars false
open Go.RowKit
/-! ### Make -/
def u2P (x : UInt8 × UInt8) : PV := .agg [.int .u8 (x.1.toNat : Int), .int .u8 (x.2.toNat : Int)]
def u2L (l : List (UInt8 × UInt8)) : List PV := l.map u2P
def mkI (n i : Nat) (x : UInt8 × UInt8) : Ins :=
  let op : Int := 1 + (x.1.toNat : Int) % 13
  if 11 ≤ op then (op, (i : Int) + 1 + (x.2.toNat : Int) % ((n : Int) - i)) else if 7 ≤ op then (op, 3 + (x.2.toNat : Int) % 5) else (op, (x.2.toNat : Int) % 8)
def mkL (n : Nat) : Nat → List (UInt8 × UInt8) → List Ins
  | _, [] => []
  | i, x :: l => mkI n i x :: mkL n (i + 1) l
def startS (s : Int) : List Bool := [((IntKind.u8.wrap (BitVec.ofInt 8 s &&& BitVec.ofInt 8 1).toNat) == 1), ((IntKind.u8.wrap (BitVec.ofInt 8 s &&& BitVec.ofInt 8 2).toNat) == 2), ((IntKind.u8.wrap (BitVec.ofInt 8 s &&& BitVec.ofInt 8 4).toNat) == 4)]
def makeS (s : Int) (l : List (UInt8 × UInt8)) : Prg := ⟨3, 2, 3, startS s, mkL (min l.length 12) 0 (l.take 12)⟩
theorem mkL_len (n : Nat) : ∀ (l : List (UInt8 × UInt8)) (i : Nat), (mkL n i l).length = l.length
  | [], _ => rfl
  | _ :: l, i => by rw [mkL, List.length_cons, mkL_len n l, List.length_cons]
theorem mkL_get (n : Nat) : ∀ (l : List (UInt8 × UInt8)) (i k : Nat), (mkL n i l)[k]? = (l[k]?).map (mkI n (i + k))
  | [], _, _ => by simp [mkL]
  | x :: l, i, 0 => by simp [mkL]
  | x :: l, i, k + 1 => by rw [mkL, List.getElem?_cons_succ, List.getElem?_cons_succ, mkL_get n l, show i + 1 + k = i + (k + 1) by omega]
theorem mkL_app (n : Nat) : ∀ (l l2 : List (UInt8 × UInt8)) (i : Nat), mkL n i (l ++ l2) = mkL n i l ++ mkL n (i + l.length) l2
  | [], _, _ => by simp [mkL]
  | x :: l, l2, i => by rw [List.cons_append, mkL, mkL, mkL_app n l, List.cons_append, List.length_cons, show i + 1 + l.length = i + (l.length + 1) by omega]
theorem u8lt (x : UInt8) : x.toNat < 256 := UInt8.toNat_lt x
theorem c23 (a : Int) : SS.CC 23 [.int .i64 a] [] = Ret (.bool (decide (11 ≤ a) && decide (a ≤ 13))) := by rw [g23_eq]; cases decide (11 ≤ a) <;> rfl
theorem c32 (a : Int) : SS.CC 32 [.int .i64 a] [] = Ret (.bool (decide (7 ≤ a) && decide (a ≤ 10))) := by rw [g32_eq]; cases decide (7 ≤ a) <;> rfl
theorem tm {a : Int} {b : Int} (h : 0 ≤ a) : Int.tmod a b = a % b := Int.tmod_eq_emod_of_nonneg h
theorem make_ok (s : Int) (l : List (UInt8 × UInt8)) : checkS (makeS s l) = 0 := by
  have hh : headS (makeS s l) = 0 := by
    unfold headS makeS
    simp only [mkL_len]
    rw [if_neg (by omega), if_neg (by simp [startS]), if_neg (by simp; omega)]
  unfold checkS
  rw [if_neg (by simpa using hh)]
  refine first_of fun i x hx => ?_
  simp only [makeS, mkL_get, Nat.zero_add] at hx
  cases hy : (l.take 12)[i]? with
  | none => simp [hy] at hx
  | some y =>
    simp only [hy, Option.map_some, Option.some.injEq] at hx
    subst hx
    have hi : i < min 12 l.length := by have := (List.getElem?_eq_some_iff.1 hy).1; simpa [List.length_take] using this
    have e1 : (makeS s l).list.length = min l.length 12 := by simp [makeS, mkL_len, List.length_take]; omega
    have h1 := u8lt y.1; have h2 := u8lt y.2
    rw [Nat.zero_add]
    unfold insE mkI
    rw [e1]
    simp only [makeS]
    by_cases ha : 11 ≤ 1 + (y.1.toNat : Int) % 13
    · simp only [if_pos ha]
      rw [if_neg (by omega), if_neg]
      have hd : (0 : Int) < ((min l.length 12 : Nat) : Int) - (i : Int) := by omega
      have h3 := Int.emod_nonneg (y.2.toNat : Int) (Int.ne_of_gt hd)
      have h4 := Int.emod_lt_of_pos (y.2.toNat : Int) hd
      omega
    · simp only [if_neg ha]
      by_cases hb : 7 ≤ 1 + (y.1.toNat : Int) % 13
      · simp only [if_pos hb]
        rw [if_neg (by omega), if_neg ha, if_neg (by omega), if_neg (by omega)]
      · simp only [if_neg hb]
        rw [if_neg (by omega), if_neg ha, if_neg (by omega), if_neg (by omega)]
theorem min_ite (n : Nat) : (if (12 : Int) < (n : Int) then (12 : Int) else (n : Int)) = ((min n 12 : Nat) : Int) := by split <;> omega
theorem c11 (s : Int) (l : List (UInt8 × UInt8)) : SS.CC 11 [.agg [.int .u8 s, .sl false 2 (u2L l)]] [] = Ret (prgP (makeS s l)) := by
  have hlen : (u2L l).length = l.length := by simp [u2L]
  rw [g11_eq]
  obtain ⟨n, hn⟩ : ∃ n, min l.length 12 = n := ⟨_, rfl⟩
  have key : ∀ m k : Nat, k + m = n → g11_L5 s (u2L l) (k : Int) (insL (mkL n 0 (l.take k))) = Ret (prgP (makeS s l)) := by
    intro m
    induction m with
    | zero =>
      intro k h
      rw [g11_L5_eq, hlen, min_ite, hn, decF (by omega), bsel_false]
      have : l.take k = l.take 12 := by
        by_cases h12 : 12 ≤ l.length
        · rw [show k = 12 by omega]
        · rw [List.take_of_length_le (by omega), List.take_of_length_le (by omega)]
      rw [this]
      simp only [prgP, makeS, hn]
      rfl
    | succ m ih =>
      intro k h
      obtain ⟨x, hx⟩ := get_lt (show k < l.length by omega)
      have hg : ∀ K : PV → R, lgetX (u2L l) (k : Int) K = K (.agg [.int .u8 (x.1.toNat : Int), .int .u8 (x.2.toNat : Int)]) := fun K => lget_map hx
      have h1 := u8lt x.1; have h2 := u8lt x.2
      have hop : IntKind.i64.wrap (1 + IntKind.i64.wrap (Int.tmod (x.1.toNat : Int) 13)) = 1 + (x.1.toNat : Int) % 13 := by
        rw [tm (by omega), wr0 (k := (x.1.toNat : Int) % 13) (by omega) (by omega), wr0 (by omega) (by omega)]
      have hd : (0 : Int) < (n : Int) - (k : Int) := by omega
      have h3 := Int.emod_nonneg (x.2.toNat : Int) (Int.ne_of_gt hd)
      have h4 := Int.emod_lt_of_pos (x.2.toNat : Int) hd
      have hsn : mkL n 0 (l.take (k + 1)) = mkL n 0 (l.take k) ++ [mkI n k x] := by
        obtain ⟨hk, rfl⟩ := List.getElem?_eq_some_iff.1 hx
        rw [← List.take_append_getElem hk, mkL_app, List.length_take, Nat.min_eq_left (by omega), Nat.zero_add]
        rfl
      have nxt : ∀ a b : Int, mkI n k x = (a, b) → g11_J12 s (u2L l) a b (k : Int) (insL (mkL n 0 (l.take k))) = Ret (prgP (makeS s l)) := fun a b e => by
        rw [g11_J12_eq, chk_of (by simp [LIM, mkL_len]; omega), wrs (by omega)]
        have := ih (k + 1) (by omega)
        rw [hsn, e] at this
        simp only [insL, List.map_append, List.map_cons, List.map_nil, insP] at this
        exact this
      rw [g11_L5_eq, hlen, min_ite, hn, decT (by omega), bsel_true, hg, v75_mk, hg, v75_mk, hop, clX_of (c23 _), vB_mk]
      by_cases ha : 11 ≤ 1 + (x.1.toNat : Int) % 13
      · rw [decT ha, decT (by omega), Bool.and_self, bsel_true, hg, v75_mk, wr0 (k := (n : Int) - k) (by omega) (by omega), chk_of (by simp; omega), wrs (by omega), wr0 (k := (x.2.toNat : Int)) (by omega) (by omega), tm (by omega), wr0 (by omega) (by omega)]
        exact nxt _ _ (by unfold mkI; simp only [if_pos ha]; norm_cast)
      · rw [decF ha, Bool.false_and, bsel_false, clX_of (c32 _), vB_mk]
        by_cases hb : 7 ≤ 1 + (x.1.toNat : Int) % 13
        · rw [decT hb, decT (by omega), Bool.and_self, bsel_true, hg, v75_mk, tm (by omega), wr0 (k := (x.2.toNat : Int) % 5) (by omega) (by omega), wr0 (by omega) (by omega)]
          exact nxt _ _ (by unfold mkI; simp only [if_neg ha, if_pos hb])
        · rw [decF hb, Bool.false_and, bsel_false, tm (by omega), wr0 (k := (x.2.toNat : Int) % 8) (by omega) (by omega)]
          exact nxt _ _ (by unfold mkI; simp only [if_neg ha, if_neg hb])
  exact key n 0 (by omega)
end Go.Proofs.YtiejgieiokmmfaaDoor

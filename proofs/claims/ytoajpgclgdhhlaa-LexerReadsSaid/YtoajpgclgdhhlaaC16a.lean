/-
  The lexer's rules: words, numbers, symbols, blanks.
-/
import Derived.Test.YtoajpgclgdhhlaaL16
namespace Go.Proofs.Ytoajpgclgdhhlaa
set_option linter.unusedVariables false
set_option linter.unusedSimpArgs false
set_option linter.unnecessarySimpa false
set_option linter.unusedSectionVars false
open Go.RowKit
structure Tok where
  kind : Int
  text : List UInt8
  value : Int
  line : Int
  col : Int
  deriving DecidableEq
def Tok.zero : Tok := ⟨0, [], 0, 0, 0⟩
def tokP (t : Tok) : PV := .agg [.int .i64 t.kind, .str (bs t.text), .int .i64 t.value, .int .i64 t.line, .int .i64 t.col]
def rd (r : Tok × Int) : PV := .tuple [tokP r.1, .int .i64 r.2]
theorem bs_nil : bs [] = ⟨#[]⟩ := rfl
def wordS (l : List UInt8) : Tok × Int := if 32 < (runS isW l).length then (.zero, 15) else (⟨1, runS isW l, 0, 0, 0⟩, 0)
theorem c79 (l : List UInt8) (hl : l.length ≤ 1000000) : SS.CC 79 [.str (bs l)] [] = Ret (rd (wordS l)) := by
  rw [g79_eq, clX_of (c90 l hl), vS_mk, bs_size, show decide ((32 : Int) < ((runS isW l).length : Int)) = decide (32 < (runS isW l).length) by
    by_cases h : 32 < (runS isW l).length
    · rw [decT h, decT (by omega)]
    · rw [decF h, decF (by omega)]]
  unfold wordS
  by_cases h : 32 < (runS isW l).length
  · rw [decT h, if_pos h]; rfl
  · rw [decF h, if_neg h]; rfl
def numL : List UInt8 → Nat → Option Nat
  | [], n => some n
  | b :: l, n => if 65536 < 10 * n + (b.toNat - 48) then none else numL l (10 * n + (b.toNat - 48))
def numberS (l : List UInt8) : Tok × Int :=
  if (runS isDig l).length < (runS isW l).length then (.zero, 6)
  else if 1 < (runS isDig l).length ∧ (runS isDig l)[0]? = some 48 then (.zero, 6)
  else match numL (runS isDig l) 0 with
    | none => (.zero, 2)
    | some n => (⟨2, runS isDig l, n, 0, 0⟩, 0)
theorem isDig_iff {n : Nat} : isDig n = true ↔ 48 ≤ n ∧ n ≤ 57 := by simp [isDig]
theorem dig_val {b : UInt8} (h : isDig b.toNat = true) : IntKind.i64.wrap (IntKind.u8.wrap ((b.toNat : Int) - 48)) = ((b.toNat - 48 : Nat) : Int) := by
  obtain ⟨h1, h2⟩ := isDig_iff.1 h
  rw [show IntKind.u8.wrap ((b.toNat : Int) - 48) = (b.toNat : Int) - 48 by unfold IntKind.wrap; simp only [IntKind.signed, IntKind.bits]; first | (simp; omega) | omega]
  rw [wrap64 (by omega) (by omega)]; omega
theorem runS_mem {p : Nat → Bool} {l : List UInt8} {b : UInt8} (h : b ∈ runS p l) : p b.toNat = true := by
  induction l with
  | nil => cases h
  | cons a l ih =>
    unfold runS at *
    rw [List.takeWhile_cons] at h
    split at h
    · rename_i ha
      rcases List.mem_cons.1 h with h | h
      · subst h; exact ha
      · exact ih h
    · cases h
theorem c81L (l : List UInt8) (hd : ∀ b, b ∈ l → isDig b.toNat = true) (hl : l.length ≤ 1000000) : ∀ (m k n : Nat), k + m = l.length → n ≤ 65536 →
    g81_L7 (bs l) (n : Int) (k : Int) = (match numL (l.drop k) n with | none => Ret (rd (.zero, 2)) | some v => Ret (rd (⟨2, l, v, 0, 0⟩, 0))) := by
  intro m
  induction m with
  | zero =>
    intro k n hk hn
    rw [g81_L7_eq, decF (by rw [bs_size]; omega), bsel_false, List.drop_eq_nil_of_le (by omega)]
    rfl
  | succ m ih =>
    intro k n hk hn
    obtain ⟨b, hb⟩ : ∃ b, l[k]? = some b := ⟨l[k], List.getElem?_eq_getElem (by omega)⟩
    have hdb := hd b (List.mem_of_getElem? hb)
    obtain ⟨h1, h2⟩ := isDig_iff.1 hdb
    have hdrop : l.drop k = b :: l.drop (k + 1) := by
      have hk' : k < l.length := by omega
      rw [List.drop_eq_getElem_cons hk']
      rw [List.getElem?_eq_getElem hk'] at hb; injection hb with hb; rw [hb]
    rw [g81_L7_eq, decT (by rw [bs_size]; omega), bsel_true, byteX_of (b := b) (by omega) (by rw [bs_get]; simpa using hb), dig_val hdb, wrap64 (n := 10 * (n : Int)) (by omega) (by omega), wrap64 (by omega) (by omega), wrs (by omega), hdrop, numL]
    by_cases hv : 65536 < 10 * n + (b.toNat - 48)
    · rw [decT (by omega), bsel_true, if_pos hv]; rfl
    · rw [decF (by omega), bsel_false, if_neg hv]
      have := ih (k + 1) (10 * n + (b.toNat - 48)) (by omega) (by omega)
      rw [← this]
      congr 1 <;> omega
theorem c81 (l : List UInt8) (hl : l.length ≤ 1000000) : SS.CC 81 [.str (bs l)] [] = Ret (rd (numberS l)) := by
  have hr := runS_le isDig l
  have key : g81_J5 (bs (runS isDig l)) = (match numL (runS isDig l) 0 with | none => Ret (rd (.zero, 2)) | some v => Ret (rd (⟨2, runS isDig l, v, 0, 0⟩, 0))) := by
    have := c81L (runS isDig l) (fun b hb => runS_mem hb) (by omega) (runS isDig l).length 0 0 (by omega) (by omega)
    rw [g81_J5_eq]; exact this
  have fin : (match numL (runS isDig l) 0 with | none => Ret (rd (.zero, 2)) | some v => Ret (rd (⟨2, runS isDig l, v, 0, 0⟩, 0))) = Ret (rd (match numL (runS isDig l) 0 with | none => (.zero, 2) | some n => (⟨2, runS isDig l, n, 0, 0⟩, 0))) := by
    cases numL (runS isDig l) 0 <;> rfl
  rw [g81_eq, clX_of (c90d l hl), vS_mk, clX_of (c90 l hl), vS_mk, bs_size, bs_size]
  unfold numberS
  by_cases h1 : (runS isDig l).length < (runS isW l).length
  · rw [decT (by omega), bsel_true, if_pos h1]; rfl
  · rw [decF (by omega), bsel_false, if_neg h1]
    by_cases h2 : 1 < (runS isDig l).length
    · obtain ⟨b, hb⟩ : ∃ b, (runS isDig l)[0]? = some b := ⟨(runS isDig l)[0], List.getElem?_eq_getElem (by omega)⟩
      rw [decT (by omega), bsel_true, byteX_of (b := b) (by omega) (by rw [bs_get]; simpa using hb), hb]
      rw [show ((b.toNat : Int) == 48) = (b.toNat == 48) from beqN b.toNat 48]
      by_cases h3 : b = 48
      · subst h3
        rw [if_pos ⟨h2, rfl⟩]; rfl
      · have : b.toNat ≠ 48 := fun e => h3 (UInt8.toNat_inj.1 (by rw [e]; rfl))
        rw [if_neg (fun h => h3 (by simpa using h.2)), show (b.toNat == 48) = false by simpa using this, bsel_false, key, fin]
    · rw [decF (by omega), bsel_false, if_neg (fun h => h2 h.1), key, fin]
/-! ### symbols -/
def symsL : List (List UInt8) := [[45, 62], [58, 61], [61, 61], [33, 61], [60, 61], [62, 61], [46, 46], [38, 38], [124, 124], [123], [125], [40], [41], [91], [93], [44], [59], [58], [61], [60], [62], [43], [45], [42], [33], [63]]
def symOf (l : List UInt8) : Option (List UInt8) := symsL.find? fun x => x.isPrefixOf l
def symbolS (l : List UInt8) : Tok × Int := match symOf l with
  | some x => (⟨3, x, 0, 0, 0⟩, 0)
  | none => (.zero, 14)
theorem pre_take : ∀ (x l : List UInt8), (decide (x.length ≤ l.length) && (l.take x.length == x)) = x.isPrefixOf l
  | [], l => by simp
  | a :: x, [] => by simp
  | a :: x, b :: l => by
    have := pre_take x l
    simp only [List.length_cons, List.take_succ_cons, List.isPrefixOf, ← this, List.cons_beq_cons]
    rw [show decide (x.length + 1 ≤ l.length + 1) = decide (x.length ≤ l.length) by
      by_cases h : x.length ≤ l.length
      · rw [decT h, decT (by omega)]
      · rw [decF h, decF (by omega)], show (b == a) = (a == b) by rw [Bool.eq_iff_iff, beq_iff_eq, beq_iff_eq]; exact eq_comm]
    cases a == b <;> cases decide (x.length ≤ l.length) <;> simp
theorem c87 (l x : List UInt8) : SS.CC 87 [.str (bs l), .str (bs x)] [] = Ret (.bool (x.isPrefixOf l)) := by
  rw [g87_eq, ← pre_take, bs_size, bs_size, show decide ((x.length : Int) ≤ (l.length : Int)) = decide (x.length ≤ l.length) from leN _ _]
  by_cases h : x.length ≤ l.length
  · rw [decT h, bsel_true, chk_of (by simp), bs_extract, bs_toList, bs_toList]
    simp
  · rw [decF h]; rfl
theorem c69 (l x : List UInt8) : SS.CC 69 [.str (bs l), .str (bs x)] [] = Ret (.bool (x.isPrefixOf l)) := by
  rw [g69_eq, clX_of (c87 l x), vB_mk]
theorem c77 : SS.CC 77 [] [] = Ret (.sl false 1 (symsL.map fun x => .str (bs x))) := g77_eq
theorem c61L (l : List UInt8) (xs : List (List UInt8)) (hx : xs.length ≤ 1000) : ∀ (m k : Nat), k + m = xs.length →
    g61_L3 (bs l) (xs.map fun x => .str (bs x)) (k : Int) = Ret (rd (match (xs.drop k).find? (fun x => x.isPrefixOf l) with | some x => (⟨3, x, 0, 0, 0⟩, 0) | none => (.zero, 14))) := by
  intro m
  induction m with
  | zero =>
    intro k hk
    rw [g61_L3_eq, decF (by rw [List.length_map]; omega), bsel_false, List.drop_eq_nil_of_le (by omega)]
    rfl
  | succ m ih =>
    intro k hk
    have hk' : k < xs.length := by omega
    rw [g61_L3_eq, decT (by rw [List.length_map]; omega), bsel_true, lgetX_of (e := .str (bs xs[k])) (by omega) (by simp [hk']), vS_mk, clX_of (c69 l xs[k]), vB_mk, wrs (by omega), List.drop_eq_getElem_cons hk', List.find?_cons]
    cases xs[k].isPrefixOf l with
    | true => rfl
    | false => exact ih (k + 1) (by omega)
theorem c61 (l : List UInt8) : SS.CC 61 [.str (bs l)] [] = Ret (rd (symbolS l)) := by
  rw [g61_eq, clX_of c77, vL_mk]
  exact c61L l symsL (by decide) symsL.length 0 (by omega)
/-! ### blanks and comments -/
/-- The length of the blanks and comments ahead; 'true': within a comment. -/
def skipS : Bool → List UInt8 → Nat
  | _, [] => 0
  | true, b :: l => if b = 10 then 1 + skipS false l else 1 + skipS true l
  | false, b :: l => if isBl b.toNat then 1 + skipS false l else if [47, 47].isPrefixOf (b :: l) then 1 + skipS true l else 0
theorem skip_idx (l : List UInt8) : if Lib.indexByte l 10 < 0 then skipS true l = l.length else ∃ j : Nat, Lib.indexByte l 10 = j ∧ j < l.length ∧ skipS true l = j + skipS false (l.drop j) := by
  induction l with
  | nil => simp [Lib.indexByte, skipS]
  | cons b l ih =>
    have hge := Lib.indexByte_ge l 10
    rw [Lib.indexByte]
    by_cases hb : b = 10
    · subst hb
      simp only [beq_self_eq_true, if_true]
      rw [if_neg (by omega)]
      exact ⟨0, rfl, by simp, by simp [skipS, isBl]⟩
    · have hbb : (b == 10) = false := by simpa using hb
      simp only [hbb, Bool.false_eq_true, if_false]
      by_cases h : Lib.indexByte l 10 < 0
      · rw [if_pos h] at ih
        have h1 : Lib.indexByte l 10 = -1 := by omega
        rw [h1]
        simp [skipS, hb, ih]; omega
      · rw [if_neg h] at ih
        obtain ⟨j, h1, h2, h3⟩ := ih
        have : (Lib.indexByte l 10 == -1) = false := by simp; omega
        rw [this]
        simp only [Bool.false_eq_true, if_false]
        rw [if_neg (by omega)]
        exact ⟨j + 1, by omega, by simp; omega, by simp [skipS, hb, h3]; omega⟩
theorem c76 (l : List UInt8) : SS.CC 76 [.str (bs l), .int .u8 10] [] = Ret (.int .i64 (Lib.indexByte l 10)) := by
  have h89 : SS.CC 89 [.str (bs l), .int .u8 10] [] = Ret (.int .i64 (Lib.indexByte l 10)) := by
    rw [CC_eq SS_ok]; rfl
  rw [g76_eq, clX_of h89, vI_mk]
theorem c59 (l : List UInt8) (hl : l.length ≤ 1000000) : SS.CC 59 [.str (bs l)] [] = Ret (.int .i64 ((skipS false l : Nat) : Int)) := by
  rw [g59_eq]
  have key : ∀ (m k : Nat), l.length ≤ k + m → k ≤ l.length → g59_L3 (bs l) (k : Int) = Ret (.int .i64 ((k + skipS false (l.drop k) : Nat) : Int)) := by
    intro m
    induction m with
    | zero =>
      intro k hk hk2
      rw [g59_L3_eq, decF (by rw [bs_size]; omega), bsel_false, List.drop_eq_nil_of_le (by omega)]
      rfl
    | succ m ih =>
      intro k hk hk2
      by_cases hlt : k < l.length
      · have hdrop : l.drop k = l[k] :: l.drop (k + 1) := List.drop_eq_getElem_cons hlt
        have he : (bs l).extract k l.length = bs (l.drop k) := by rw [bs_extract, List.take_of_length_le (by simp)]
        rw [g59_L3_eq, decT (by rw [bs_size]; omega), bsel_true, byteX_of (b := l[k]) (by omega) (by rw [bs_get]; simp [hlt]), clX_of (c75 _), vB_mk, bs_size, Int.toNat_natCast, he, show (⟨#[47, 47]⟩ : ByteArray) = bs [47, 47] from rfl, clX_of (c69 _ _), vB_mk, clX_of (c76 _), vI_mk, wrs (by omega)]
        cases hb : isBl l[k].toNat with
        | true =>
          rw [bsel_true, ih (k + 1) (by omega) (by omega), hdrop, skipS, if_pos hb]
          congr 3; omega
        | false =>
          rw [bsel_false, chk_of (by simp; omega)]
          cases hp : [47, 47].isPrefixOf (l.drop k) with
          | false =>
            rw [bsel_false]
            have : skipS false (l.drop k) = 0 := by
              rw [hdrop] at hp ⊢
              rw [skipS, if_neg (by rw [hb]; simp), if_neg (by rw [hp]; simp)]
            rw [this]; rfl
          | true =>
            rw [bsel_true, chk_of (by simp; omega)]
            have hs : skipS false (l.drop k) = skipS true (l.drop k) := by
              rw [hdrop] at hp ⊢
              have hne : l[k] ≠ 10 := by
                intro e
                rw [e] at hp
                simp [List.isPrefixOf] at hp
              have e1 : skipS false (l[k] :: l.drop (k + 1)) = 1 + skipS true (l.drop (k + 1)) := by
                rw [skipS, if_neg (by rw [hb]; simp), if_pos hp]
              have e2 : skipS true (l[k] :: l.drop (k + 1)) = 1 + skipS true (l.drop (k + 1)) := by
                rw [skipS, if_neg hne]
              rw [e1, e2]
            have hi := skip_idx (l.drop k)
            rw [hs]
            by_cases h0 : Lib.indexByte (l.drop k) 10 < 0
            · rw [if_pos h0] at hi
              rw [decT h0, bsel_true, hi]
              simp; omega
            · rw [if_neg h0] at hi
              obtain ⟨j, h1, h2, h3⟩ := hi
              have hj : 0 < j := by
                rcases Nat.eq_zero_or_pos j with e | e
                · subst e
                  rw [hdrop, Lib.indexByte] at h1
                  have hne : l[k] ≠ 10 := by
                    intro e
                    rw [hdrop, e] at hp
                    simp [List.isPrefixOf] at hp
                  rw [if_neg (by simpa using hne)] at h1
                  have := Lib.indexByte_ge (l.drop (k + 1)) 10
                  split at h1 <;> rename_i hh <;> simp at hh <;> omega
                · exact e
              simp at h2
              rw [decF h0, bsel_false, h1, wrap64 (by omega) (by omega), show ((k : Int) + (j : Int)) = ((k + j : Nat) : Int) by omega, ih (k + j) (by omega) (by omega), h3, List.drop_drop]
              congr 3; omega
      · rw [g59_L3_eq, decF (by rw [bs_size]; omega), bsel_false, List.drop_eq_nil_of_le (by omega)]
        rfl
  have := key l.length 0 (by omega) (by omega)
  simpa using this
end Go.Proofs.Ytoajpgclgdhhlaa

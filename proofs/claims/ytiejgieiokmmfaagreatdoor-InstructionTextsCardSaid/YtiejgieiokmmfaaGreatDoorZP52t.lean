/-
  The plain law of Texts: the text of a right program is read back.
-/
import Derived.Test.YtiejgieiokmmfaaGreatDoorZC52q
namespace Go.Proofs.YtiejgieiokmmfaaGreatDoor
set_option linter.unusedVariables false
set_option linter.unusedSimpArgs false
set_option linter.unnecessarySimpa false
set_option linter.unusedSectionVars false
open Go.RowKit
/-! ### numerals -/
abbrev decL (n : Nat) : List UInt8 := Lib.decDigits n
theorem dec_one {n : Nat} (h : n < 10) : decL n = [UInt8.ofNat (48 + n)] := Lib.decDigits_one h
theorem dec_step {n : Nat} (h : ¬ n < 10) : decL n = decL (n / 10) ++ [UInt8.ofNat (48 + n % 10)] := by
  show Lib.decDigits n = _
  rw [Lib.decDigits, dif_neg h]
theorem dig_nat {d : Nat} (h : d < 10) : (UInt8.ofNat (48 + d)).toNat = 48 + d := UInt8.toNat_ofNat_of_lt' (by show 48 + d < 256; omega)
theorem dec_dig (n : Nat) : ∀ x, x ∈ decL n → 48 ≤ x.toNat ∧ x.toNat ≤ 57 := by
  induction n using Nat.strongRecOn with
  | ind n ih =>
    intro x hx
    by_cases h : n < 10
    · rw [dec_one h] at hx
      rw [List.mem_singleton.1 hx, dig_nat h]; omega
    · rw [dec_step h] at hx
      rcases List.mem_append.1 hx with hx | hx
      · exact ih (n / 10) (by omega) x hx
      · rw [List.mem_singleton.1 hx, dig_nat (by omega)]; omega
theorem valS_app : ∀ (l m : List UInt8) (a : Nat), valS a (l ++ m) = (valS a l).bind fun b => valS b m
  | [], m, a => rfl
  | x :: l, m, a => by
    rw [List.cons_append, valS, valS]
    split
    · rfl
    · split
      · rfl
      · exact valS_app l m _
theorem val_dec (n : Nat) : valS 0 (decL n) = some n := by
  induction n using Nat.strongRecOn with
  | ind n ih =>
    by_cases h : n < 10
    · rw [dec_one h, valS, dig_nat h, if_neg (by omega), if_neg (by omega), valS]
      congr 1; omega
    · rw [dec_step h, valS_app, ih (n / 10) (by omega), Option.bind_some, valS, dig_nat (by omega), if_neg (by omega), if_neg (by omega), valS]
      congr 1; omega
theorem dec_ne (n : Nat) : decL n ≠ [] := by
  by_cases h : n < 10
  · rw [dec_one h]; simp
  · rw [dec_step h]; simp
theorem dec_len : ∀ (k n : Nat), n < 10 ^ (k + 1) → (decL n).length ≤ k + 1
  | 0, n, h => by rw [dec_one (by simpa using h)]; simp
  | k + 1, n, h => by
    by_cases h1 : n < 10
    · rw [dec_one h1]; simp
    · have := dec_len k (n / 10) (by rw [Nat.pow_succ] at h; omega)
      rw [dec_step h1]; simp; omega
theorem dec_head (n : Nat) (h : 1 ≤ n) : (decL n)[0]? ≠ some 48 := by
  induction n using Nat.strongRecOn with
  | ind n ih =>
    by_cases h1 : n < 10
    · rw [dec_one h1]
      intro e
      have e : UInt8.ofNat (48 + n) = 48 := by simpa using e
      have := congrArg UInt8.toNat e
      rw [dig_nat h1] at this
      have h48 : (48 : UInt8).toNat = 48 := rfl
      omega
    · have := ih (n / 10) (by omega) (by omega)
      rw [dec_step h1]
      have hl : 0 < (decL (n / 10)).length := List.length_pos_iff.2 (dec_ne _)
      rwa [List.getElem?_append_left hl]
theorem num_dec {n : Nat} (h : n < 1000000) : numS (decL n) = some n := by
  unfold numS
  have h1 : 0 < (decL n).length := List.length_pos_iff.2 (dec_ne _)
  have h2 := dec_len 5 n (by omega)
  rw [if_neg (by omega), if_neg (by omega), if_neg ?_, val_dec]
  rintro ⟨h3, h4⟩
  by_cases h0 : 1 ≤ n
  · exact dec_head n h0 h4
  · have : n = 0 := by omega
    subst this
    rw [dec_one (by omega)] at h3; simp at h3
/-! ### cutting -/
theorem splitC_none {c : UInt8} : ∀ {l : List UInt8}, (∀ x, x ∈ l → x ≠ c) → splitC c l = [l]
  | [], _ => rfl
  | x :: l, h => by rw [splitC, if_neg (h x (by simp)), splitC_none fun y hy => h y (by simp [hy])]; rfl
theorem splitC_first {c : UInt8} : ∀ {l r : List UInt8}, (∀ x, x ∈ l → x ≠ c) → splitC c (l ++ c :: r) = l :: splitC c r
  | [], r, _ => by rw [List.nil_append, splitC, if_pos rfl]
  | x :: l, r, h => by rw [List.cons_append, splitC, if_neg (h x (by simp)), splitC_first fun y hy => h y (by simp [hy])]; rfl
def cleanW (w : List UInt8) : Prop := ∀ x, x ∈ w → x ≠ 32 ∧ x ≠ 10
theorem clean_dec (n : Nat) : cleanW (decL n) := fun x hx => by
  have := dec_dig n x hx
  exact ⟨fun e => by subst e; exact absurd this.1 (by decide), fun e => by subst e; exact absurd this.1 (by decide)⟩
theorem clean_cons {a : UInt8} {w : List UInt8} (ha : a ≠ 32 ∧ a ≠ 10) (h : cleanW w) : cleanW (a :: w) := fun x hx => by
  rcases List.mem_cons.1 hx with rfl | hx
  · exact ha
  · exact h x hx
def joinT (ws : List (List UInt8)) : List UInt8 := Lib.join ws [32]
theorem joinT_two (a b : List UInt8) : joinT [a, b] = a ++ 32 :: b := by simp [joinT, Lib.join, List.intercalate]
theorem joinT_four (a b c d : List UInt8) : joinT [a, b, c, d] = a ++ 32 :: (b ++ 32 :: (c ++ 32 :: d)) := by simp [joinT, Lib.join, List.intercalate]
theorem split_two {a b : List UInt8} (ha : cleanW a) (hb : cleanW b) : splitC 32 (joinT [a, b]) = [a, b] := by
  rw [joinT_two, splitC_first fun x hx => (ha x hx).1, splitC_none fun x hx => (hb x hx).1]
theorem split_four {a b c d : List UInt8} (ha : cleanW a) (hb : cleanW b) (hc : cleanW c) (hd : cleanW d) : splitC 32 (joinT [a, b, c, d]) = [a, b, c, d] := by
  rw [joinT_four, splitC_first fun x hx => (ha x hx).1, splitC_first fun x hx => (hb x hx).1, splitC_first fun x hx => (hc x hx).1, splitC_none fun x hx => (hd x hx).1]
theorem two_10 {a b : List UInt8} (ha : cleanW a) (hb : cleanW b) : ∀ x, x ∈ joinT [a, b] → x ≠ 10 := fun x hx => by
  rw [joinT_two] at hx
  rcases List.mem_append.1 hx with hx | hx
  · exact (ha x hx).2
  · rcases List.mem_cons.1 hx with rfl | hx
    · decide
    · exact (hb x hx).2
theorem four_10 {a b c d : List UInt8} (ha : cleanW a) (hb : cleanW b) (hc : cleanW c) (hd : cleanW d) : ∀ x, x ∈ joinT [a, b, c, d] → x ≠ 10 := fun x hx => by
  rw [joinT_four] at hx
  simp only [List.mem_append, List.mem_cons] at hx
  rcases hx with hx | rfl | hx | rfl | hx | rfl | hx
  · exact (ha x hx).2
  · decide
  · exact (hb x hx).2
  · decide
  · exact (hc x hx).2
  · decide
  · exact (hd x hx).2
/-! ### the text -/
def nmOf (k : Int) : List UInt8 := opTx.getD (k - 1).toNat []
def opdS (p : Prg) (x : Ins) : List UInt8 :=
  if 11 ≤ x.1 then decL x.2.toNat else if x.2 < p.ni then 73 :: decL x.2.toNat else if x.2 < p.ni + p.no then 81 :: decL (x.2 - p.ni).toNat else 77 :: decL (x.2 - p.ni - p.no).toNat
def lineT (ws : List (List UInt8)) : List UInt8 := joinT ws ++ [10]
def insT (p : Prg) (x : Ins) : List UInt8 := lineT [nmOf x.1, opdS p x]
def bitT (b : Bool) : UInt8 := if b then 49 else 48
def headT (p : Prg) : List UInt8 := lineT [progB, decL p.ni.toNat, decL p.no.toNat, decL p.nm.toNat]
def memT (p : Prg) : List UInt8 := if 0 < p.nm then lineT [startB, p.start.map bitT] else []
def insTs (p : Prg) (l : List Ins) : List UInt8 := (l.map (insT p)).flatten
def txtS (p : Prg) : List UInt8 := headT p ++ memT p ++ insTs p p.list
theorem nm_of {k : Int} (h1 : 1 ≤ k) (h2 : k ≤ 13) : opOf (nmOf k) = k.toNat ∧ cleanW (nmOf k) ∧ nmOf k ≠ [] ∧ (nmOf k).length ≤ 5 := by
  have : k = 1 ∨ k = 2 ∨ k = 3 ∨ k = 4 ∨ k = 5 ∨ k = 6 ∨ k = 7 ∨ k = 8 ∨ k = 9 ∨ k = 10 ∨ k = 11 ∨ k = 12 ∨ k = 13 := by omega
  have key : ∀ w : List UInt8, (w.all fun x => x != 32 && x != 10) = true → cleanW w := fun w h x hx => by
    have := List.all_eq_true.1 h x hx
    simpa using this
  rcases this with rfl | rfl | rfl | rfl | rfl | rfl | rfl | rfl | rfl | rfl | rfl | rfl | rfl <;> exact ⟨by decide, key _ (by decide), by decide, by decide⟩
theorem clean_opd (p : Prg) (x : Ins) : cleanW (opdS p x) := by
  unfold opdS
  split
  · exact clean_dec _
  · split
    · exact clean_cons (by decide) (clean_dec _)
    · split
      · exact clean_cons (by decide) (clean_dec _)
      · exact clean_cons (by decide) (clean_dec _)
theorem prog_clean : cleanW progB := fun x hx => by
  have := List.all_eq_true.1 (show (progB.all fun x => x != 32 && x != 10) = true by decide) x hx
  simpa using this
theorem start_clean : cleanW startB := fun x hx => by
  have := List.all_eq_true.1 (show (startB.all fun x => x != 32 && x != 10) = true by decide) x hx
  simpa using this
theorem bits_clean (l : List Bool) : cleanW (l.map bitT) := fun x hx => by
  obtain ⟨b, _, rfl⟩ := List.mem_map.1 hx
  cases b <;> decide
theorem bits_back : ∀ l : List Bool, (l.map bitT).all d01 = true ∧ (l.map bitT).map (· == 49) = l
  | [] => ⟨rfl, rfl⟩
  | b :: l => by
    have ih := bits_back l
    rw [List.map_cons, List.all_cons, List.map_cons, ih.1, ih.2]
    cases b <;> exact ⟨rfl, rfl⟩
/-- The instruction's line is read back. -/
theorem instr_back {p q : Prg} (h1 : q.ni = p.ni) (h2 : q.no = p.no) (h3 : q.nm = p.nm) (hp : checkS p = 0) {x : Ins} (hx : x ∈ p.list) : instrR q [nmOf x.1, opdS p x] = some (x, false) := by
  obtain ⟨hh, hok, _⟩ := check0 hp
  obtain ⟨i, hi, rfl⟩ := List.mem_iff_getElem.1 hx
  have ho := hok.2 i p.list[i] (List.getElem?_eq_getElem hi)
  have hd := head0 hh
  have hl := hok.1
  unfold okI wd at ho
  generalize p.list[i] = x at *
  obtain ⟨k, y⟩ := x
  simp only at ho ⊢
  have hn := (nm_of ho.1 ho.2.1).1
  rw [instrR, hn, if_neg (by omega)]
  unfold instrB opdS
  by_cases h11 : 11 ≤ k
  · have := ho.2.2.2 h11
    rw [if_pos (by omega)]
    simp only [h11, if_true]
    unfold numJ
    rw [num_dec (by omega), Option.map_some]
    congr 3 <;> omega
  · have := ho.2.2.1 (by omega)
    rw [if_neg (by omega)]
    simp only [h11, if_false]
    by_cases c1 : y < p.ni
    · simp only [c1, if_true]
      unfold kindR numK
      simp only [if_true]
      rw [num_dec (by omega), Option.map_some, h1]
      rw [decF (by omega)]
      congr 3 <;> omega
    · simp only [c1, if_false]
      by_cases c2 : y < p.ni + p.no
      · simp only [c2, if_true]
        unfold kindR numK
        simp only [if_true, show ¬ ((81 : UInt8) = 73) by decide, if_false]
        rw [num_dec (by omega), Option.map_some, h1, h2]
        rw [decF (by omega)]
        congr 3 <;> omega
      · simp only [c2, if_false]
        unfold kindR numK
        simp only [if_true, show ¬ ((77 : UInt8) = 73) by decide, show ¬ ((77 : UInt8) = 81) by decide, if_false]
        rw [num_dec (by omega), Option.map_some, h1, h2, h3]
        rw [decF (by omega)]
        congr 3 <;> omega
theorem line_cut {l r : List UInt8} (h : ∀ x, x ∈ l → x ≠ 10) : splitC 10 ((l ++ [10]) ++ r) = l :: splitC 10 r := by
  rw [List.append_assoc]; exact splitC_first h
theorem goL_ins {p : Prg} (hp : checkS p = 0) : ∀ (rest done : List Ins) (line : Nat), p.list = done ++ rest → 2 ≤ line → ¬ (line = 2 ∧ 0 < p.nm) →
    goL line { p with list := done } [] (splitC 10 (insTs p rest)) = .inr (p, [])
  | [], done, line, h, h2, h3 => by
    rw [show splitC 10 (insTs p []) = [[]] from rfl, goL, if_neg (fun e => e.elim (fun e => e rfl) h3)]
    rw [List.append_nil] at h; rw [← h]
  | x :: rest, done, line, h, h2, h3 => by
    have hx : x ∈ p.list := by rw [h]; simp
    obtain ⟨_, hok, _⟩ := check0 hp
    obtain ⟨i, hi, e⟩ := List.mem_iff_getElem.1 hx
    have ho := hok.2 i x (by rw [List.getElem?_eq_getElem hi, e])
    have hn := nm_of ho.1 ho.2.1
    rw [show insTs p (x :: rest) = insT p x ++ insTs p rest from rfl]
    unfold insT lineT
    rw [line_cut (two_10 hn.2.1 (clean_opd p x)), goL_cons (splitC_ne 10 _), split_two hn.2.1 (clean_opd p x)]
    have hst : stepR line { p with list := done } [nmOf x.1, opdS p x] = some ({ p with list := done ++ [x] }, false) := by
      unfold stepR
      rw [if_neg (by omega), if_neg h3, instr_back (p := p) (q := { p with list := done }) rfl rfl rfl hp hx]; rfl
    rw [hst]
    exact goL_ins hp rest (done ++ [x]) (line + 1) (by rw [h]; simp) (by omega) (by omega)
theorem firstF_nil (p : Prg) : ∀ (l : List Ins) (k : Nat), firstF p [] k l = firstE p k l
  | [], _ => rfl
  | x :: l, k => by rw [firstF, firstE, if_neg (by simp), firstF_nil p l (k + 1)]
theorem checkF_nil (p : Prg) : checkF p [] = checkS p := by unfold checkF checkS; rw [firstF_nil]
theorem txt_back {p : Prg} (hp : checkS p = 0) : parS (txtS p) = (p, 0, 0) := by
  obtain ⟨hh, hok, _⟩ := check0 hp
  have hd := head0 hh
  have hc := fun n => clean_dec n
  have hne : txtS p ≠ [] := by unfold txtS headT lineT; simp
  have hgo : goL 1 noP [] (splitC 10 (txtS p)) = .inr (p, []) := by
    unfold txtS headT lineT
    rw [List.append_assoc, line_cut (four_10 prog_clean (hc _) (hc _) (hc _)), goL_cons (splitC_ne 10 _), split_four prog_clean (hc _) (hc _) (hc _)]
    have hst : stepR 1 noP [progB, decL p.ni.toNat, decL p.no.toNat, decL p.nm.toNat] = some ({ p with start := [], list := [] }, false) := by
      unfold stepR
      rw [if_pos rfl, headR, if_pos rfl, num_dec (by omega), num_dec (by omega), num_dec (by omega)]
      simp only [Option.map_some, Int.toNat_of_nonneg hd.1, Int.toNat_of_nonneg hd.2.2.1, Int.toNat_of_nonneg hd.2.2.2.2.1]
      rfl
    rw [hst]
    simp only [farF]
    unfold memT
    by_cases hm : 0 < p.nm
    · rw [if_pos hm]
      unfold lineT
      rw [line_cut (two_10 start_clean (bits_clean _)), goL_cons (splitC_ne 10 _), split_two start_clean (bits_clean _)]
      have hsn : p.start ≠ [] := fun e => by rw [e] at hd; simp at hd; omega
      have hst : stepR (1 + 1) { p with start := [], list := [] } [startB, p.start.map bitT] = some ({ p with list := [] }, false) := by
        unfold stepR
        rw [if_neg (by omega), if_pos ⟨rfl, hm⟩, startR, if_pos rfl, if_neg (by simpa using hsn), if_pos (bits_back _).1, (bits_back _).2]
        rfl
      rw [hst]
      exact goL_ins hp p.list [] (1 + 1 + 1) rfl (by omega) (by omega)
    · rw [if_neg hm, List.nil_append]
      have hs : p.start = [] := List.eq_nil_of_length_eq_zero (by omega)
      have : ({ p with start := [], list := [] } : Prg) = { p with list := [] } := by rw [hs]
      rw [this]
      exact goL_ins hp p.list [] (1 + 1) rfl (by omega) (fun e => hm e.2)
  rw [parS_ne hne, hgo, resG, checkF_nil, if_neg (by simpa using hp)]
/-! ### lengths -/
theorem dec_le {n : Nat} (h : n < 1000000) : (decL n).length ≤ 6 := dec_len 5 n (by omega)
theorem opd_le {p : Prg} (hp : checkS p = 0) {x : Ins} (hx : x ∈ p.list) : (opdS p x).length ≤ 7 := by
  obtain ⟨hh, hok, _⟩ := check0 hp
  have hd := head0 hh
  obtain ⟨i, hi, rfl⟩ := List.mem_iff_getElem.1 hx
  have ho := hok.2 i p.list[i] (List.getElem?_eq_getElem hi)
  have hl := hok.1
  unfold okI wd at ho
  generalize p.list[i] = x at *
  have := ho.2.2.1; have := ho.2.2.2
  unfold opdS
  split
  · have := dec_le (n := x.2.toNat) (by omega); omega
  · split
    · have := dec_le (n := x.2.toNat) (by omega); simp; omega
    · split
      · have := dec_le (n := (x.2 - p.ni).toNat) (by omega); simp; omega
      · have := dec_le (n := (x.2 - p.ni - p.no).toNat) (by omega); simp; omega
theorem ins_le {p : Prg} (hp : checkS p = 0) {x : Ins} (hx : x ∈ p.list) : (insT p x).length ≤ 14 := by
  obtain ⟨hh, hok, _⟩ := check0 hp
  obtain ⟨i, hi, e⟩ := List.mem_iff_getElem.1 hx
  have ho := hok.2 i x (by rw [List.getElem?_eq_getElem hi, e])
  have h1 := (nm_of ho.1 ho.2.1).2.2.2
  have h2 := opd_le hp hx
  unfold insT lineT
  rw [joinT_two]; simp; omega
theorem insTs_le {p : Prg} (hp : checkS p = 0) : ∀ (l : List Ins), (∀ x, x ∈ l → x ∈ p.list) → (insTs p l).length ≤ 14 * l.length
  | [], _ => by simp [insTs]
  | x :: l, h => by
    have h1 := ins_le hp (h x (by simp))
    have h2 := insTs_le hp l fun y hy => h y (by simp [hy])
    rw [show insTs p (x :: l) = insT p x ++ insTs p l from rfl, List.length_append, List.length_cons]; omega
theorem head_le {p : Prg} (hh : headS p = 0) : (headT p).length ≤ 40 ∧ (memT p).length ≤ 280 := by
  have hd := head0 hh
  have h1 := dec_le (n := p.ni.toNat) (by omega)
  have h2 := dec_le (n := p.no.toNat) (by omega)
  have h3 := dec_le (n := p.nm.toNat) (by omega)
  unfold headT memT lineT
  rw [joinT_four, joinT_two]
  constructor
  · simp [progB]; omega
  · split
    · simp [startB]; omega
    · simp
theorem txt_le {p : Prg} (hp : checkS p = 0) (hl : p.list.length ≤ 14) : (txtS p).length ≤ 1000 := by
  have h1 := head_le (check0 hp).1
  have h2 := insTs_le hp p.list fun _ h => h
  unfold txtS
  simp only [List.length_append]; omega
end Go.Proofs.YtiejgieiokmmfaaGreatDoor

/-
  Contracts: the lines of a text, as the code reads them.
-/
import Derived.Test.YtiejgieiokmmfaaGreatDoorZC52m
namespace Go.Proofs.YtiejgieiokmmfaaGreatDoor
set_option linter.unusedVariables false
set_option linter.unusedSimpArgs false
set_option linter.unnecessarySimpa false
set_option linter.unusedSectionVars false
open Go.RowKit
/-! ### the map of far bits -/
def farL (f : List Int) : List PV := f.flatMap fun k => [.int .i64 k, .bool true]
theorem farL_cons (k : Int) (f : List Int) : farL (k :: f) = .int .i64 k :: .bool true :: farL f := rfl
theorem mapOK_far (n : Int) : ∀ f : List Int, mapOK (some .i64) (farL f) (.int .i64 n) = true
  | [] => rfl
  | k :: f => by rw [farL_cons, mapOK, mapOK_far n f]; rfl
theorem eqK_int (n k : Int) : eqK (some .i64) (.int .i64 n) (.int .i64 k) = some (n == k) := rfl
theorem mapGet_far (n : Int) : ∀ f : List Int, mapGet (some .i64) (farL f) (.int .i64 n) = some (if n ∈ f then some (.bool true) else none)
  | [] => rfl
  | k :: f => by
    rw [farL_cons, mapGet, eqK_int]
    by_cases h : n = k
    · subst h; simp
    · rw [eqF h]
      simp only
      rw [mapGet_far n f]
      have : (n ∈ k :: f) ↔ n ∈ f := by simp [h]
      by_cases hf : n ∈ f
      · rw [if_pos hf, if_pos (this.2 hf)]
      · rw [if_neg hf, if_neg (fun e => hf (this.1 e))]
theorem mapPut_far (n : Int) : ∀ f : List Int, mapPut (some .i64) (farL f) (.int .i64 n) (.bool true) = farL (putF f n)
  | [] => rfl
  | k :: f => by
    rw [farL_cons, mapPut, eqK_int]
    by_cases h : n = k
    · subst h
      rw [eqT rfl]
      simp only
      rw [show putF (n :: f) n = n :: f by simp [putF], farL_cons]
    · rw [eqF h]
      simp only
      rw [mapPut_far n f, ← farL_cons]
      congr 1
      unfold putF
      by_cases hf : n ∈ f
      · rw [if_pos hf, if_pos (by simp [hf])]
      · rw [if_neg hf, if_neg (by simp [h, hf])]; rfl
/-! ### states -/
def objP (p : Prg) (f : List Int) : Objs := [some [.int .i64 p.ni, .int .i64 p.no, .int .i64 p.nm, .sl true 1 (bitL p.start), .sl true 2 (insL p.list), .bld 0 1], some [.mp (farL f)]]
theorem insL_snoc (l : List Ins) (x : Ins) : insL l ++ [.agg [.int .i64 x.1, .int .i64 x.2]] = insL (l ++ [x]) := by simp [insL, insP]
theorem bitL_snoc (l : List Bool) (x : Bool) : bitL l ++ [.bool x] = bitL (l ++ [x]) := by simp [bitL]
theorem lit_tl (l : List UInt8) {s : ByteArray} (h : s = bs l) : s.toList = l := by rw [h, bs_tl]
theorem len2 {α : Type} {l : List α} (h : l.length = 2) : ∃ a b, l = [a, b] := by
  match l, h with
  | [a, b], _ => exact ⟨a, b, rfl⟩
theorem len4 {α : Type} {l : List α} (h : l.length = 4) : ∃ a b c d, l = [a, b, c, d] := by
  match l, h with
  | [a, b, c, d], _ => exact ⟨a, b, c, d, rfl⟩
theorem prog_tl : (⟨#[112, 114, 111, 103, 114, 97, 109]⟩ : ByteArray).toList = progB := lit_tl progB rfl
theorem start_tl : (⟨#[115, 116, 97, 114, 116]⟩ : ByteArray).toList = startB := lit_tl startB rfl
theorem nil_tl : (⟨#[]⟩ : ByteArray).toList = [] := lit_tl [] rfl
/-- The first line. -/
theorem c54 (p : Prg) (f : List Int) (ws : List (List UInt8)) (hw : ∀ w, w ∈ ws → w.length ≤ 1000000) :
    ∃ q, SS.CC 31 [.ptr 0 0, .sl false 1 (strsL ws)] (objP p f) = some (.bool (headR ws).isSome, objP q f) ∧ ∀ x, headR ws = some x → q = { p with ni := x.1, no := x.2.1, nm := x.2.2 } := by
  unfold objP
  rw [g31_eq, strsL_len]
  by_cases h4 : ws.length = 4
  · obtain ⟨w, a, b, c, rfl⟩ := len4 h4
    have i0 : ∀ (K : PV → R), lgetX (strsL [w, a, b, c]) 0 K = K (.str (bs w)) := fun K => strsL_get (k := 0) rfl
    have i1 : ∀ (K : PV → R), lgetX (strsL [w, a, b, c]) 1 K = K (.str (bs a)) := fun K => strsL_get (k := 1) rfl
    have i2 : ∀ (K : PV → R), lgetX (strsL [w, a, b, c]) 2 K = K (.str (bs b)) := fun K => strsL_get (k := 2) rfl
    have i3 : ∀ (K : PV → R), lgetX (strsL [w, a, b, c]) 3 K = K (.str (bs c)) := fun K => strsL_get (k := 3) rfl
    rw [neF (by simp), bsel_false, i0, vS_mk, bs_tl, prog_tl]
    by_cases hp : w = progB
    · rw [beqT hp, Bool.not_true, bsel_false]
      have hh : headR [w, a, b, c] = (match numS a, numS b, numS c with | some x, some y, some z => some (x, y, z) | _, _, _ => none) := by rw [headR, if_pos hp]; rfl
      rw [hh, g31_L5_eq]
      simp only [show decide ((0 : Int) < 3) = true from rfl, show decide ((0 : Int) ≤ 0) = true from rfl, Bool.and_self, bsel_true, chk_of, show ((0 : Int) == 0) = true from rfl, show IntKind.i64.wrap (0 + 1) = 1 from rfl, i1, vS_mk]
      rw [num_w (hw a (by simp))]
      cases ha : numS a with
      | none => exact ⟨p, rfl, fun x hx => by cases hx⟩
      | some x =>
        simp only [Option.isSome_some, Option.getD_some, Bool.not_true, bsel_false]
        rw [g31_L5_eq]
        simp only [show decide ((1 : Int) < 3) = true from rfl, show decide ((0 : Int) ≤ 1) = true from rfl, Bool.and_self, bsel_true, bsel_false, chk_of, show ((1 : Int) == 0) = false from rfl, show ((1 : Int) == 1) = true from rfl, show IntKind.i64.wrap (1 + 1) = 2 from rfl, i2, vS_mk]
        rw [num_w (hw b (by simp))]
        cases hb : numS b with
        | none => exact ⟨{ p with ni := x }, rfl, fun x hx => by cases hx⟩
        | some y =>
          simp only [Option.isSome_some, Option.getD_some, Bool.not_true, bsel_false]
          rw [g31_L5_eq]
          simp only [show decide ((2 : Int) < 3) = true from rfl, show decide ((0 : Int) ≤ 2) = true from rfl, Bool.and_self, bsel_true, bsel_false, chk_of, show ((2 : Int) == 0) = false from rfl, show ((2 : Int) == 1) = false from rfl, show ((2 : Int) == 2) = true from rfl, show IntKind.i64.wrap (2 + 1) = 3 from rfl, i3, vS_mk]
          rw [num_w (hw c (by simp))]
          cases hc : numS c with
          | none => exact ⟨{ p with ni := x, no := y }, rfl, fun x hx => by cases hx⟩
          | some z =>
            simp only [Option.isSome_some, Option.getD_some, Bool.not_true, bsel_false]
            rw [g31_L5_eq]
            simp only [show decide ((3 : Int) < 3) = false from rfl, bsel_false]
            exact ⟨{ p with ni := x, no := y, nm := z }, rfl, fun v hv => by injection hv with hv; subst hv; rfl⟩
    · rw [beqF hp, Bool.not_false, bsel_true]
      have hh : headR [w, a, b, c] = none := by rw [headR, if_neg hp]
      rw [hh]
      exact ⟨p, rfl, fun x hx => by cases hx⟩
  · rw [neT (by omega), bsel_true]
    have hh : headR ws = none := by
      unfold headR; split
      · exact absurd rfl h4
      · rfl
    rw [hh]
    exact ⟨p, rfl, fun x hx => by cases hx⟩
/-! ### the line of the memory -/
theorem bs_idx {l : List UInt8} {k : Nat} {x : UInt8} (h : l[k]? = some x) : ∃ hk : k < (bs l).size, (bs l)[k]'hk = x ∧ (bs l).get! k = x := by
  obtain ⟨h1, rfl⟩ := List.getElem?_eq_some_iff.1 h
  have hk : k < (bs l).size := by simpa using h1
  refine ⟨hk, rfl, ?_⟩
  simp [ByteArray.get!, h1]
theorem rune_lo {l : List UInt8} {k : Nat} {x : UInt8} (h : l[k]? = some x) (hx : x.toNat < 128) : iterRn (bs l) (k : Int) = x.toNat ∧ iterNx (bs l) (k : Int) = ((k + 1 : Nat) : Int) := by
  obtain ⟨hk, h1, _⟩ := bs_idx h
  unfold iterRn iterNx
  rw [Int.toNat_natCast, decode_ascii (bs l) k hk (by rw [h1]; exact hx), h1]
  exact ⟨rfl, rfl⟩
theorem decode_hi {s : ByteArray} {i : Nat} (h : ¬ (s.get! i).toNat < 128) : 128 ≤ (Utf8.decode s i).1 := by
  unfold Utf8.decode
  simp only [Nat.add_zero]
  rw [if_neg h]
  repeat' split
  all_goals first | (simp only [Utf8.runeError]; omega) | omega | (simp only; omega) | (rename_i hc; simp only [Bool.and_eq_true, decide_eq_true_eq, ge_iff_le] at hc; simp only; omega)
theorem rune_hi {l : List UInt8} {k : Nat} {x : UInt8} (h : l[k]? = some x) (hx : ¬ x.toNat < 128) : 128 ≤ iterRn (bs l) (k : Int) := by
  obtain ⟨hk, _, h1⟩ := bs_idx h
  unfold iterRn
  rw [Int.toNat_natCast]
  have := decode_hi (s := bs l) (i := k) (by rw [h1]; exact hx)
  omega
theorem l55 (p : Prg) (f : List Int) (a : List UInt8) (ha : a.length ≤ 1000000) : ∀ (m k : Nat) (s : List Bool), k + m = a.length → s.length ≤ 10000000 + k →
    ∃ s', g32_L5 p.ni p.no p.nm (bitL s) (insL p.list) (farL f) (bs a) (k : Int) = some (.bool ((a.drop k).all d01), objP { p with start := s' } f) ∧ ((a.drop k).all d01 = true → s' = s ++ (a.drop k).map (· == 49)) := by
  intro m
  induction m with
  | zero =>
    intro k s h hs
    rw [g32_L5_eq, chk_of (decT (by omega)), bs_size, decF (by omega), bsel_false, List.drop_of_length_le (by omega)]
    exact ⟨s, rfl, fun _ => by simp⟩
  | succ m ih =>
    intro k s h hs
    obtain ⟨x, hx⟩ := get_lt (show k < a.length by omega)
    rw [g32_L5_eq, chk_of (decT (by omega)), bs_size, decT (by omega), bsel_true, drop_get hx, List.all_cons]
    by_cases hd : d01 x = true
    · have hx48 : x = 48 ∨ x = 49 := by simpa [d01] using hd
      have hlo : x.toNat < 128 := by rcases hx48 with rfl | rfl <;> decide
      obtain ⟨e1, e2⟩ := rune_lo hx hlo
      rw [e1, e2, hd, Bool.true_and]
      have next : ∃ s', g32_J9 p.ni p.no p.nm (bitL s) (insL p.list) (farL f) (bs a) (x.toNat : Int) ((k + 1 : Nat) : Int) = some (.bool ((a.drop (k + 1)).all d01), objP { p with start := s' } f) ∧ ((a.drop (k + 1)).all d01 = true → s' = s ++ (x :: a.drop (k + 1)).map (· == 49)) := by
        rw [g32_J9_eq, chk_of (by simp [LIM]; omega), bitL_snoc]
        obtain ⟨s', g1, g2⟩ := ih (k + 1) (s ++ [((x.toNat : Int) == 49)]) (by omega) (by simp; omega)
        refine ⟨s', g1, fun h => ?_⟩
        rw [g2 h]
        have : (((x.toNat : Nat) : Int) == 49) = (x == 49) := by rcases hx48 with rfl | rfl <;> rfl
        rw [this]; simp
      rcases hx48 with rfl | rfl
      · rw [show ((((48 : UInt8).toNat : Nat) : Int) != 48) = false from rfl, bsel_false]; exact next
      · rw [show ((((49 : UInt8).toNat : Nat) : Int) != 48) = true from rfl, bsel_true, show ((((49 : UInt8).toNat : Nat) : Int) != 49) = false from rfl, bsel_false]; exact next
    · have hd' : d01 x = false := by simpa using hd
      have hne : iterRn (bs a) (k : Int) ≠ 48 ∧ iterRn (bs a) (k : Int) ≠ 49 := by
        by_cases hlo : x.toNat < 128
        · rw [(rune_lo hx hlo).1]
          have : x ≠ 48 ∧ x ≠ 49 := by simpa [d01] using hd'
          refine ⟨fun e => this.1 (UInt8.toNat_inj.1 ?_), fun e => this.2 (UInt8.toNat_inj.1 ?_)⟩
          · show x.toNat = 48; omega
          · show x.toNat = 49; omega
        · have := rune_hi hx hlo
          exact ⟨by omega, by omega⟩
      rw [neT hne.1, bsel_true, neT hne.2, bsel_true, hd', Bool.false_and]
      exact ⟨s, rfl, fun h => by cases h⟩
theorem c55 (p : Prg) (f : List Int) (ws : List (List UInt8)) (hw : ∀ w, w ∈ ws → w.length ≤ 1000000) (hs : p.start.length ≤ 1000000) :
    ∃ q, SS.CC 32 [.ptr 0 0, .sl false 1 (strsL ws)] (objP p f) = some (.bool (startR ws).isSome, objP q f) ∧ ∀ s, startR ws = some s → q = { p with start := p.start ++ s } := by
  rw [objP, g32_eq, strsL_len]
  by_cases h2 : ws.length = 2
  · obtain ⟨w, a, rfl⟩ := len2 h2
    have i0 : ∀ (K : PV → R), lgetX (strsL [w, a]) 0 K = K (.str (bs w)) := fun K => strsL_get (k := 0) rfl
    have i1 : ∀ (K : PV → R), lgetX (strsL [w, a]) 1 K = K (.str (bs a)) := fun K => strsL_get (k := 1) rfl
    rw [neF (by simp), bsel_false, i0, vS_mk, bs_tl, start_tl]
    by_cases hp : w = startB
    · rw [beqT hp, Bool.not_true, bsel_false, i1, vS_mk, bs_tl, nil_tl]
      by_cases ha : a = []
      · rw [beqT ha, bsel_true]
        have hh : startR [w, a] = none := by rw [startR, if_pos hp, if_pos ha]
        rw [hh]
        exact ⟨p, rfl, fun x hx => by cases hx⟩
      · rw [beqF ha, bsel_false, i1, vS_mk]
        obtain ⟨s', g1, g2⟩ := l55 p f a (hw a (by simp)) a.length 0 p.start (by omega) (by omega)
        rw [List.drop_zero] at g1 g2
        have hh : startR [w, a] = if a.all d01 = true then some (a.map (· == 49)) else none := by rw [startR, if_pos hp, if_neg ha]
        refine ⟨{ p with start := s' }, ?_, fun s hx => ?_⟩
        · rw [hh]
          refine g1.trans ?_
          cases a.all d01 <;> rfl
        · rw [hh] at hx
          split at hx
          · rename_i hd
            injection hx with hx; subst hx
            rw [g2 hd]
          · cases hx
    · rw [beqF hp, Bool.not_false, bsel_true]
      have hh : startR [w, a] = none := by rw [startR, if_neg hp]
      rw [hh]
      exact ⟨p, rfl, fun x hx => by cases hx⟩
  · rw [neT (by omega), bsel_true]
    have hh : startR ws = none := by
      unfold startR; split
      · exact absurd rfl h2
      · rfl
    rw [hh]
    exact ⟨p, rfl, fun x hx => by cases hx⟩
end Go.Proofs.YtiejgieiokmmfaaGreatDoor

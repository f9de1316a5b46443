/-
  The model's scan is Scan: the loops.
-/
import Derived.Test.YtoajpgclgdhhlaaC16u
import Derived.Test.YtoajpgclgdhhlaaPQ16
namespace Go.Proofs.Ytoajpgclgdhhlaa.W
set_option linter.unusedVariables false
set_option linter.unusedSimpArgs false
set_option linter.unnecessarySimpa false
set_option linter.unusedSectionVars false
open Go.RowKit
set_option maxRecDepth 1000000
section
variable (full : List UInt8)
def P7 (n : Nat) : Prop := ∀ (f i line start : Nat) (acc : List Tok), (full.drop i).length = n → n < f + 1 → i ≤ full.length → start ≤ i → line ≤ i + 1 → acc.length ≤ i →
  g20_L7 (bs full) (line : Int) (i : Int) ((i - start + 1 : Nat) : Int) (acc.map tokP) = Ret (scanP (scanG false f (full.drop i) i line start acc))
def P14 (n : Nat) : Prop := ∀ (f i line start : Nat) (acc : List Tok), (full.drop i).length = n → n < f + 1 → i ≤ full.length → start ≤ i → line ≤ i + 1 → acc.length ≤ i →
  g20_L14 (bs full) ((i - start + 1 : Nat) : Int) (i : Int) (acc.map tokP) (line : Int) = Ret (scanP (scanG true f (full.drop i) i line start acc))
variable {full}
theorem drop_len {i n : Nat} (h : (full.drop i).length = n) (hi : i ≤ full.length) : i + n = full.length := by rw [List.length_drop] at h; omega
theorem u8_eq (b c : UInt8) : ((b.toNat : Int) == (c.toNat : Int)) = (b == c) := by
  rw [Bool.eq_iff_iff, beq_iff_eq, beq_iff_eq]
  constructor
  · intro h; exact UInt8.toNat_inj.1 (by omega)
  · intro h; rw [h]
theorem u8_F {b c : UInt8} (h : b ≠ c) : ((b.toNat : Int) == (c.toNat : Int)) = false := by rw [u8_eq, beq_eq_false_iff_ne]; exact h
theorem step7 (hf : full.length ≤ 1000000) {n : Nat} (ih7 : ∀ m, m < n → P7 full m) (ih14 : ∀ m, m < n → P14 full m) : P7 full n := by
  intro f i line start acc hn hfn hi hs hl ha
  have hin := drop_len hn hi
  rw [g20_L7_eq, bs_size]
  cases hr : full.drop i with
  | nil =>
    rw [hr] at hn
    have h0 : n = 0 := hn.symm
    rw [decF (by omega), bsel_false, chk_of (decT (by rw [List.length_map]; unfold LIM; omega)), G_nil, scanP, List.map_append]
    rfl
  | cons b r =>
    have hlt : i < full.length := by rw [hr] at hn; simp at hn; omega
    have hb : full[i]? = some b ∧ full.drop (i + 1) = r := by
      have h1 : full[i]? = some b := by have := congrArg (fun x => x[0]?) hr; simpa using this
      refine ⟨h1, ?_⟩
      rw [List.drop_eq_getElem_cons hlt] at hr; injection hr
    have hB : ∀ {K : Int → R}, byteX (bs full) (i : Int) K = K b.toNat := fun {K} => byteX_of (by omega) (by rw [bs_get]; exact hb.1)
    have hn1 : (full.drop (i + 1)).length = n - 1 := by rw [List.length_drop]; omega
    rw [decT (by omega), bsel_true]
    simp only [hB]
    by_cases h10 : b = 10
    · subst h10
      rw [show (((10 : UInt8).toNat : Int) == 10) = true from rfl, bsel_true, wrap64 (by omega) (by omega), wrap64 (by omega) (by omega)]
      rw [G_step (c' := false) (by rw [skipS]; rfl), if_pos rfl, if_pos rfl, ← hb.2]
      have := ih7 (n - 1) (by omega) f (i + 1) (line + 1) (i + 1) acc hn1 (by omega) (by omega) (by omega) (by omega) (by omega)
      rw [Nat.sub_self] at this
      exact this
    · rw [show ((b.toNat : Int) == 10) = false from u8_F (c := 10) h10, bsel_false]
      have hcol : IntKind.i64.wrap (((i - start + 1 : Nat) : Int) + 1) = ((i + 1 - start + 1 : Nat) : Int) := by rw [wrap64 (by omega) (by omega)]; omega
      have hi1 : IntKind.i64.wrap ((i : Int) + 1) = ((i + 1 : Nat) : Int) := by rw [wrap64 (by omega) (by omega)]; omega
      have hblank : isBl b.toNat = true → g20_L7 (bs full) (line : Int) (IntKind.i64.wrap ((i : Int) + 1)) (IntKind.i64.wrap (((i - start + 1 : Nat) : Int) + 1)) (acc.map tokP) = Ret (scanP (scanG false f (b :: r) i line start acc)) := fun hbl => by
        rw [G_step (c' := false) (by rw [skipS, if_pos hbl]), if_neg h10, if_neg h10, ← hb.2, hi1, hcol]
        exact ih7 (n - 1) (by omega) f (i + 1) line start acc hn1 (by omega) (by omega) (by omega) (by omega) (by omega)
      by_cases h32 : b = 32
      · subst h32
        rw [show (((32 : UInt8).toNat : Int) == 32) = true from rfl, bsel_true]; exact hblank rfl
      · rw [show ((b.toNat : Int) == 32) = false from u8_F (c := 32) h32, bsel_false]
        by_cases h9 : b = 9
        · subst h9
          rw [show (((9 : UInt8).toNat : Int) == 9) = true from rfl, bsel_true]; exact hblank rfl
        · rw [show ((b.toNat : Int) == 9) = false from u8_F (c := 9) h9, bsel_false]
          by_cases h13 : b = 13
          · subst h13
            rw [show (((13 : UInt8).toNat : Int) == 13) = true from rfl, bsel_true]; exact hblank rfl
          · rw [show ((b.toNat : Int) == 13) = false from u8_F (c := 13) h13, bsel_false]
            have hnb : isBl b.toNat = false := by
              unfold isBl
              rw [← beqN, ← beqN, ← beqN, ← beqN]
              rw [show ((b.toNat : Int) == ((32 : Nat) : Int)) = false from u8_F (c := 32) h32, show ((b.toNat : Int) == ((9 : Nat) : Int)) = false from u8_F (c := 9) h9, show ((b.toNat : Int) == ((13 : Nat) : Int)) = false from u8_F (c := 13) h13, show ((b.toNat : Int) == ((10 : Nat) : Int)) = false from u8_F (c := 10) h10]
              rfl
            have hi2 : IntKind.i64.wrap ((i : Int) + 2) = ((i + 2 : Nat) : Int) := by rw [wrap64 (by omega) (by omega)]; omega
            -- a token
            have hJ : [47, 47].isPrefixOf (b :: r) = false → g20_J16 (bs full) (acc.map tokP) (line : Int) ((i - start + 1 : Nat) : Int) (i : Int) = Ret (scanP (scanG false f (b :: r) i line start acc)) := fun hp => by
              have hsk : skipS false (b :: r) = 0 := by rw [skipS, hnb, hp]; rfl
              have hex : (bs full).extract ((i : Int)).toNat (bs full).size = bs (b :: r) := by
                rw [bs_extract, bs_size, show ((i : Int)).toNat = i from rfl, List.take_of_length_le (by rw [List.length_drop]; omega), hr]
              rw [g20_J16_eq, chk_of (by rw [bs_size, decT (by omega), decT (by omega)]; rfl), hex, clX_of (m42 b r (by have := congrArg List.length hr; rw [List.length_drop] at this; omega)), rd, tokP, w_29_3_mk]
              unfold scanG
              rw [hsk]
              simp only [List.take_zero, List.drop_zero, nlS, Nat.add_zero]
              by_cases h0 : (readS (b :: r)).2 = 0
              · obtain ⟨k4, k5⟩ := read_len h0
                rw [if_pos h0, h0, show ((0 : Int) != 0) = false from rfl, bsel_false, chk_of (decT (by rw [List.length_map]; unfold LIM; omega)), bs_size]
                have hlr : (b :: r).length = n := by rw [← hr]; exact hn
                obtain ⟨f', rfl⟩ : ∃ f', f = f' + 1 := ⟨f - 1, by omega⟩
                rw [scan_G]
                have hd : (b :: r).drop (readS (b :: r)).1.text.length = full.drop (i + (readS (b :: r)).1.text.length) := by rw [← hr, List.drop_drop]
                have hdl : (full.drop (i + (readS (b :: r)).1.text.length)).length = n - (readS (b :: r)).1.text.length := by rw [List.length_drop]; omega
                have := ih7 (n - (readS (b :: r)).1.text.length) (by omega) f' (i + (readS (b :: r)).1.text.length) line start (acc ++ [(readS (b :: r)).1.at (line : Nat) ((i - start + 1 : Nat) : Int)]) hdl (by omega) (by omega) (by omega) (by omega) (by rw [List.length_append, List.length_singleton]; omega)
                rw [hd, ← this, wrap64 (by omega) (by omega), wrap64 (by omega) (by omega), List.map_append]
                congr 1
                omega
              · rw [if_neg h0, show ((readS (b :: r)).2 != 0) = true by simp [bne_iff_ne, h0], bsel_true]; rfl
            rw [hi1]
            by_cases h2 : i + 1 < full.length
            · rw [decT (by omega), bsel_true, hi2, chk_of (by rw [decT (by omega), decT (by omega), decT (by omega)]; rfl), bs_extract, bs_toList, show ((i : Int)).toNat = i from rfl, show (((i + 2 : Nat) : Int)).toNat = i + 2 from rfl, show i + 2 - i = 2 by omega, hr,
                show (⟨#[47, 47]⟩ : ByteArray).toList = [47, 47] from bs_toList [47, 47]]
              have hpre : ((b :: r).take 2 == [47, 47]) = [47, 47].isPrefixOf (b :: r) := pre_T (x := [47, 47]) (l := b :: r) (by have := congrArg List.length hr; rw [List.length_drop] at this; show 2 ≤ _; omega)
              rw [hpre]
              cases hp : [47, 47].isPrefixOf (b :: r) with
              | false => rw [bsel_false]; exact hJ hp
              | true =>
                have hb47 : b = 47 := by simp [List.isPrefixOf] at hp; exact hp.1.symm
                rw [bsel_true, g20_L14_eq, bs_size, decT (by omega), bsel_true, hB, show ((b.toNat : Int) != 10) = true by rw [hb47]; rfl, bsel_true, hi1, hcol,
                  G_step (c' := true) (by rw [skipS, hnb, hp]; rfl), if_neg h10, if_neg h10, ← hb.2]
                exact ih14 (n - 1) (by omega) f (i + 1) line start acc hn1 (by omega) (by omega) (by omega) (by omega) (by omega)
            · rw [decF (by omega), bsel_false]
              refine hJ ?_
              have : r = [] := by
                have := congrArg List.length hr
                rw [List.length_drop, List.length_cons] at this
                exact List.eq_nil_of_length_eq_zero (by omega)
              rw [this]
              simp [List.isPrefixOf]
theorem step14 (hf : full.length ≤ 1000000) {n : Nat} (h7 : P7 full n) (ih14 : ∀ m, m < n → P14 full m) : P14 full n := by
  intro f i line start acc hn hfn hi hs hl ha
  have hin := drop_len hn hi
  have e7 := h7 f i line start acc hn hfn hi hs hl ha
  rw [g20_L14_eq, bs_size]
  cases hr : full.drop i with
  | nil =>
    rw [hr] at hn e7
    have h0 : n = 0 := hn.symm
    rw [decF (by omega), bsel_false, e7, G_nil, G_nil]
  | cons b r =>
    have hlt : i < full.length := by rw [hr] at hn; simp at hn; omega
    have hb : full[i]? = some b ∧ full.drop (i + 1) = r := by
      have h1 : full[i]? = some b := by have := congrArg (fun x => x[0]?) hr; simpa using this
      refine ⟨h1, ?_⟩
      rw [List.drop_eq_getElem_cons hlt] at hr; injection hr
    have hn1 : (full.drop (i + 1)).length = n - 1 := by rw [List.length_drop]; omega
    rw [decT (by omega), bsel_true, byteX_of (b := b) (by omega) (by rw [bs_get]; exact hb.1)]
    by_cases h10 : b = 10
    · subst h10
      rw [hr] at e7
      rw [show (((10 : UInt8).toNat : Int) != 10) = false from rfl, bsel_false, e7, G_step (c' := false) (c := false) (by rw [skipS]; rfl), G_step (c' := false) (c := true) (by rw [skipS]; rfl)]
    · rw [show ((b.toNat : Int) != 10) = true by
        have := u8_F (c := 10) h10
        show (!((b.toNat : Int) == 10)) = true
        rw [show ((b.toNat : Int) == 10) = false from this]; rfl, bsel_true, wrap64 (by omega) (by omega), wrap64 (by omega) (by omega), G_step (c' := true) (by rw [skipS, if_neg h10]), if_neg h10, if_neg h10, ← hb.2]
      have := ih14 (n - 1) (by omega) f (i + 1) line start acc hn1 (by omega) (by omega) (by omega) (by omega) (by omega)
      rw [← this]
      congr 1
      omega
theorem both (hf : full.length ≤ 1000000) (n : Nat) : P7 full n ∧ P14 full n := by
  induction n using Nat.strongRecOn with
  | _ n ih =>
    have h7 := step7 hf (fun m h => (ih m h).1) fun m h => (ih m h).2
    exact ⟨h7, step14 hf h7 fun m h => (ih m h).2⟩
end
/-- The model's scan says what Scan says. -/
theorem m20 (full : List UInt8) (hf : full.length ≤ 1000000) : SS.CC 20 [.str (bs full)] [] = Ret (scanP (scanT full)) := by
  rw [g20_eq, bs_size]
  unfold scanT
  by_cases h : 65536 < full.length
  · rw [decT (by omega), bsel_true, if_pos h]; rfl
  · rw [decF (by omega), bsel_false, if_neg h, scan_G]
    exact (both hf full.length).1 full.length 0 1 0 [] (by simp) (by omega) (by omega) (by omega) (by omega) (by simp)
end Go.Proofs.Ytoajpgclgdhhlaa.W

/-
  WALKS of chapter 14: names, and the check of variables.
-/
import Derived.Test.YtmclnnpaephkpaaWA14
namespace Go.Proofs.Ytmclnnpaephkpaa
set_option linter.unusedVariables false
set_option linter.unusedSimpArgs false
set_option linter.unnecessarySimpa false
set_option linter.unusedSectionVars false
open Go.RowKit

def wordB (c : UInt8) : Bool := (97 ≤ c && c ≤ 122) || (65 ≤ c && c ≤ 90) || c == 95
def digB (c : UInt8) : Bool := 48 ≤ c && c ≤ 57
theorem nameS_eq (s : List UInt8) : nameS s = (decide (0 < s.length) && decide (s.length ≤ 32) && (match s with | [] => true | c :: r => wordB c && r.all (fun c => wordB c || digB c))) := by
  unfold nameS
  cases s with
  | nil => simp
  | cons c r =>
    rw [Bool.eq_iff_iff]
    simp only [List.all_cons, List.isEmpty_cons, Bool.not_false, Bool.and_true, Bool.and_eq_true, decide_eq_true_eq, Bool.or_eq_true, wordB, digB, UInt8.le_iff_toNat_le, UInt8.lt_iff_toNat_lt, beq_iff_eq, ← UInt8.toNat_inj, List.length_cons]
    constructor
    · rintro ⟨⟨h1, h2⟩, h3, h4⟩
      refine ⟨⟨by omega, h1⟩, ?_, ?_⟩
      · simp only [UInt8.toNat_ofNat] at *; omega
      · rw [List.all_eq_true] at h4 ⊢; intro x hx; have := h4 x hx; simpa [UInt8.le_iff_toNat_le, ← UInt8.toNat_inj] using this
    · rintro ⟨⟨_, h1⟩, h3, h4⟩
      refine ⟨⟨h1, ?_⟩, ?_, ?_⟩
      · simp only [UInt8.toNat_ofNat] at *; omega
      · simp only [UInt8.toNat_ofNat] at *; omega
      · rw [List.all_eq_true] at h4 ⊢; intro x hx; have := h4 x hx; simpa [UInt8.le_iff_toNat_le, ← UInt8.toNat_inj] using this

def nmOK : Nat → List UInt8 → Bool
  | _, [] => true
  | j, c :: r => (wordB c || (j != 0 && digB c)) && nmOK (j + 1) r
theorem nmOK_pos : ∀ (r : List UInt8) (j : Nat), 0 < j → nmOK j r = r.all (fun c => wordB c || digB c)
  | [], _, _ => rfl
  | c :: r, j, hj => by
    rw [nmOK, nmOK_pos r (j + 1) (by omega), List.all_cons]
    have : (j != 0) = true := by rw [bne_iff_ne]; omega
    simp [this]
theorem nameS_nm (s : List UInt8) : nameS s = (decide (0 < s.length) && decide (s.length ≤ 32) && nmOK 0 s) := by
  rw [nameS_eq]
  cases s with
  | nil => rfl
  | cons c r => simp [nmOK, nmOK_pos r 1 (by decide)]
theorem wordB_iff (c : UInt8) : wordB c = true ↔ (97 ≤ (c.toNat : Int) ∧ (c.toNat : Int) ≤ 122) ∨ (65 ≤ (c.toNat : Int) ∧ (c.toNat : Int) ≤ 90) ∨ (c.toNat : Int) = 95 := by
  simp only [wordB, Bool.or_eq_true, Bool.and_eq_true, decide_eq_true_eq, UInt8.le_iff_toNat_le, beq_iff_eq, ← UInt8.toNat_inj, UInt8.toNat_ofNat]
  omega
theorem digB_iff (c : UInt8) : digB c = true ↔ (48 ≤ (c.toNat : Int) ∧ (c.toNat : Int) ≤ 57) := by
  simp only [digB, Bool.and_eq_true, decide_eq_true_eq, UInt8.le_iff_toNat_le, UInt8.toNat_ofNat]
  omega
theorem nm_step {L : List UInt8} {c : UInt8} {r : List UInt8} {k : Nat} (h : nmOK 0 L = nmOK k (c :: r)) (hc : wordB c = true ∨ (k ≠ 0 ∧ digB c = true)) : nmOK 0 L = nmOK (k + 1) r := by
  rw [h, nmOK]
  rcases hc with hc | ⟨hk, hc⟩
  · simp [hc]
  · simp [hc, hk]
theorem nm_fail {L : List UInt8} {c : UInt8} {r : List UInt8} {k : Nat} (h : nmOK 0 L = nmOK k (c :: r)) (hw : ¬ wordB c = true) (hc : k = 0 ∨ ¬ digB c = true) : nameS L = false := by
  rw [nameS_nm, h, nmOK]
  rcases hc with hc | hc <;> simp at hw hc <;> simp [hc, hw]
set_option maxRecDepth 100000 in
set_option maxHeartbeats 1000000 in
theorem isName_any (s : ByteArray) (w : World) (hs : s.size ≤ maxLen) :
    Calls Try.prog 58 #[.string s] w fun e w' => e = .returned (.bool (nameS s.data.toList)) ∧ w' = w := by
  unfold maxLen at hs
  go_enter Try.func58, Try.ntmps58
  go_wp2
  go_loop [8] (fun j => ∃ k : Nat, k ≤ s.size ∧ j = .int .i64 k ∧ Hid (nmOK 0 s.data.toList = nmOK k (s.data.toList.drop k))) (fun j => s.size - (intOf j).toNat)
  case atStart => exact ⟨0, Nat.zero_le _, rfl, rfl⟩
  case round =>
    obtain ⟨k, hk, rfl, HR⟩ := hrel
    by_cases hlt : k < s.size
    · have hd : s.data.toList.drop k = s[k] :: s.data.toList.drop (k + 1) := by rw [List.drop_eq_getElem_cons (by simpa using hlt)]; rfl
      have HR2 : Hid (nmOK 0 s.data.toList = nmOK k (s[k] :: s.data.toList.drop (k + 1))) := by have := HR.out; rw [hd] at this; exact this
      have hw := Lib.hid (wordB_iff s[k])
      have hg := Lib.hid (digB_iff s[k])
      clear hd HR
      have hb : (s[k].toNat : Int) < 256 := by have := s[k].toNat_lt; omega
      have hcase : ((97 ≤ (s[k].toNat : Int) ∧ (s[k].toNat : Int) ≤ 122) ∨ (65 ≤ (s[k].toNat : Int) ∧ (s[k].toNat : Int) ≤ 90) ∨ (95 ≤ (s[k].toNat : Int) ∧ (s[k].toNat : Int) ≤ 95)) ∨
          (1 ≤ k ∧ 48 ≤ (s[k].toNat : Int) ∧ (s[k].toNat : Int) ≤ 57) ∨
          (k ≤ 0 ∧ ((s[k].toNat : Int) < 65 ∨ (90 < (s[k].toNat : Int) ∧ (s[k].toNat : Int) < 95) ∨ (95 < (s[k].toNat : Int) ∧ (s[k].toNat : Int) < 97) ∨ 122 < (s[k].toNat : Int))) ∨
          (1 ≤ k ∧ ((s[k].toNat : Int) < 48 ∨ (57 < (s[k].toNat : Int) ∧ (s[k].toNat : Int) < 65) ∨ (90 < (s[k].toNat : Int) ∧ (s[k].toNat : Int) < 95) ∨ (95 < (s[k].toNat : Int) ∧ (s[k].toNat : Int) < 97) ∨ 122 < (s[k].toNat : Int))) := by omega
      rcases hcase with h | ⟨h1, h2, h3⟩ | ⟨h1, h⟩ | ⟨h1, h⟩
      · have HC := Lib.hid h
        rcases h with ⟨h1, h2⟩ | ⟨h1, h2⟩ | ⟨h1, h2⟩
        all_goals
          go_wp2
          go_round
          case rel => exact ⟨k + 1, by omega, by go_num, nm_step HR2.out (.inl (hw.out.2 (by have := HC.out; omega)))⟩
          case measure => simp [intOf]; omega
      · have hk0 : ((k : Int) == 0) = false := by rw [beq_eq_false_iff_ne]; omega
        have hk1 : ¬ (s[k].toNat : Int) < 48 := by omega
        have hk2 : ¬ (57 : Int) < (s[k].toNat : Int) := by omega
        go_wp2
        go_round
        case rel => exact ⟨k + 1, by omega, by go_num, nm_step HR2.out (.inr ⟨by omega, hg.out.2 ⟨h2, h3⟩⟩)⟩
        case measure => simp [intOf]; omega
      · have HC := Lib.hid h
        have HF : Hid (nameS s.data.toList = false) := nm_fail HR2.out (fun e => by have := HC.out; have := hw.out.1 e; omega) (.inl (by omega))
        obtain rfl : k = 0 := by omega
        clear h1
        have e95 : (((s[0].toNat : Int)) == 95) = false := by rw [beq_eq_false_iff_ne]; omega
        rcases h with h | ⟨h, h'⟩ | ⟨h, h'⟩ | h
        all_goals
          try have d90 : decide ((s[0].toNat : Int) ≤ 90) = false := by simp; omega
          try have d122 : decide ((s[0].toNat : Int) ≤ 122) = false := by simp; omega
          go_wp2
          go_ret
          exact ⟨ret_bool HF.out.symm, rfl⟩
      · have HC := Lib.hid h
        have HF : Hid (nameS s.data.toList = false) := nm_fail HR2.out (fun e => by have := HC.out; have := hw.out.1 e; omega) (.inr (fun e => by have := HC.out; have := hg.out.1 e; omega))
        have hk0 : ((k : Int) == 0) = false := by rw [beq_eq_false_iff_ne]; omega
        have e95 : (((s[k].toNat : Int)) == 95) = false := by rw [beq_eq_false_iff_ne]; omega
        rcases h with h | ⟨h, h'⟩ | ⟨h, h'⟩ | ⟨h, h'⟩ | h
        all_goals
          try have d57 : decide ((s[k].toNat : Int) ≤ 57) = false := by simp; omega
          try have d90 : decide ((s[k].toNat : Int) ≤ 90) = false := by simp; omega
          try have d122 : decide ((s[k].toNat : Int) ≤ 122) = false := by simp; omega
          go_wp2
          go_ret
          exact ⟨ret_bool HF.out.symm, rfl⟩
    · have HE : Hid (nmOK 0 s.data.toList = true) := by
        have h := HR.out
        rw [List.drop_of_length_le (by simp; omega)] at h
        exact h
      have HL : Hid (nameS s.data.toList = (decide (0 < s.size) && decide (s.size ≤ 32))) := by show _ = _; rw [nameS_nm, HE.out]; simp
      clear HR
      by_cases h0 : 0 < s.size
      · have h0' : (0 : Int) < (s.size : Int) := by omega
        by_cases h1 : s.size ≤ 32
        all_goals
          go_wp2
          go_ret
          refine ⟨ret_bool ?_, rfl⟩
          rw [HL.out, Bool.eq_iff_iff]
          first | (simp [h0, h1]; done) | (simp; omega) | trace_state
      · have h0' : ¬ (0 : Int) < (s.size : Int) := by omega
        go_wp2
        go_ret
        exact ⟨ret_bool (by rw [HL.out]; simp; omega), rfl⟩
end Go.Proofs.Ytmclnnpaephkpaa

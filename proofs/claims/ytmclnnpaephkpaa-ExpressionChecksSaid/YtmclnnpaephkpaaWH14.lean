/-
  WALKS of chapter 14: same of the statements; Equal of the program, over slices.EqualFunc.
-/
import Derived.Test.YtmclnnpaephkpaaBase14
namespace Go.Proofs.Ytmclnnpaephkpaa
set_option linter.unusedVariables false
set_option linter.unusedSimpArgs false
set_option linter.unnecessarySimpa false
set_option linter.unusedSectionVars false
open Go.RowKit

theorem sameL_len : ∀ {l l' : List EX}, l.length ≠ l'.length → sameL l l' = false
  | [], [], h => by simp at h
  | a :: l, b :: l', h => by rw [sameL, sameL_len (by simpa using h)]; simp
  | [], b :: l', _ => by simp [sameL]
  | a :: l, [], _ => by simp [sameL]
def EqualSaid (e : EX) : Prop := ∀ (e' : EX) (v u : Value) (w : World), ER w e v → ER w e' u → Calls Try.prog 16 #[v, u] w fun en w' => en = .returned (.bool (sameE e e')) ∧ Below w.heap.size w w'
set_option maxRecDepth 100000 in
set_option maxHeartbeats 1000000 in
theorem equalFunc_any (l1 l2 : List EX) (n m c1 c2 : Nat) (A1 A2 : Option Addr) (hn : l1.length = n) (hm : l2.length = m) (hnb : n ≤ 35184372088831) (w : World) (h1 : ERo w A1 0 l1) (h2 : ERo w A2 0 l2)
    (ih : ∀ e, e ∈ l1 → EqualSaid e) :
    Calls Try.prog 45 #[.slice A1 n c1, .slice A2 m c2, .func (.func 16) #[] #[]] w fun en w' => en = .returned (.bool (sameL l1 l2)) ∧ Below w.heap.size w w' := by
  have HN := Lib.hid hn
  have HM := Lib.hid hm
  have H1 := Lib.hid h1
  have H2 := Lib.hid h2
  have IH := Lib.hid ih
  clear h1 h2 ih
  by_cases hnm : n = m
  case neg =>
    have hne : ((n : Int) != (m : Int)) = true := by rw [bne_iff_ne]; omega
    have HS := Lib.hid (sameL_len (l := l1) (l' := l2) (by rw [hn, hm]; exact hnm))
    clear hnm hn hm
    go_enter Try.func45, Try.ntmps45
    go_wp2
    go_ret
    exact ⟨ret_bool HS.out.symm, Below.refl _ _⟩
  subst hnm
  clear hn hm
  go_enter Try.func45, Try.ntmps45
  go_wp2
  go_loopw [17] (fun j wr => ∃ k : Nat, k ≤ n ∧ j = .int .i64 k ∧ Hid (∃ r1 r2, k + r1.length = n ∧ k + r2.length = n ∧ ERo w A1 k r1 ∧ ERo w A2 k r2 ∧ sameL l1 l2 = sameL r1 r2 ∧ (∀ e, e ∈ r1 → e ∈ l1) ∧ Below w.heap.size w wr)) (fun j _ => n - (intOf j).toNat)
  case atStart => exact ⟨0, Nat.zero_le _, rfl, l1, l2, by have := HN.out; omega, by have := HM.out; omega, H1.out, H2.out, rfl, fun _ h => h, Below.refl _ _⟩
  case round =>
    obtain ⟨k, hk, rfl, HR⟩ := hrel
    obtain ⟨r1, r2, hr1, hr2, e1, e2, hs, hsub, hB⟩ := HR.out
    have HS := Lib.hid hs
    have HR1 := Lib.hid hr1
    have HR2 := Lib.hid hr2
    have hsz := hB.size
    have HB := Lib.hid hB
    clear hs hr1 hr2 HR
    match r1, r2 with
    | [], [] =>
      have hlt : ¬ k < n := by have := HR1.out; simp at this; omega
      clear hB
      go_wp2
      go_ret
      exact ⟨ret_bool (by rw [HS.out]; simp [sameL]), HB.out⟩
    | a :: r1, b :: r2 =>
      have hlt : k < n := by have := HR1.out; simp at this; omega
      obtain ⟨b1, f1, rfl, A3, c3, a0, a1, a2, a3, hb1, hb1', hb1'', ha, hra⟩ := e1.cons'
      obtain ⟨b2, f2, rfl, A4, c4, d0, d1, d2, d3, hb2, hb2', hb2'', hd, hrd⟩ := e2.cons'
      have a0' := keepc hB a0
      have a1' := keepc hB a1
      have a2' := keepc hB a2
      have a3' := keepc hB a3
      have d0' := keepc hB d0
      have d1' := keepc hB d1
      have d2' := keepc hB d2
      have d3' := keepc hB d3
      have hb1w : b1 < wr.heap.size := by omega
      have hb2w : b2 < wr.heap.size := by omega
      have hb2w' : b2 < wr.heap.size + 1 := by omega
      clear a0 a1 a2 a3 d0 d1 d2 d3 hB
      have HC := Lib.hid (IH.out a (hsub a (by simp)) b)
      go_wp2_with fail
      refine (HC.out _ _ _ (ER.below ((HB.out.alloc HB.out.size _).alloc (by simp; omega) _) _ _ ha) (ER.below ((HB.out.alloc HB.out.size _).alloc (by simp; omega) _) _ _ hd)).mono ?_
      rintro en w2 ⟨rfl, hb3⟩
      have HB2 : Hid (Below w.heap.size w w2) := ((HB.out.alloc HB.out.size _).alloc (by simp; omega) _).trans (hb3.mono (by simp; omega))
      clear hb3
      cases hg : sameE a b
      · go_wp2
        go_ret
        exact ⟨ret_bool (by rw [HS.out]; simp [sameL, hg]), HB2.out⟩
      · go_wp2
        go_roundw
        case rel => exact ⟨k + 1, by omega, by go_num, r1, r2, by have := HR1.out; simp at this; omega, by have := HR2.out; simp at this; omega, hra, hrd, by rw [HS.out]; simp [sameL, hg], fun e he => hsub e (by simp [he]), HB2.out⟩
        case measure => simp [intOf]; omega
    | [], b :: r2 => exact absurd (HR1.out.trans HR2.out.symm) (by simp)
    | a :: r1, [] => exact absurd (HR1.out.trans HR2.out.symm) (by simp)
set_option maxRecDepth 100000 in
set_option maxHeartbeats 1000000 in
theorem equal_any : ∀ e, EqualSaid e := by
  refine EX.ind fun o x i l ih => ?_
  rintro ⟨o', x', i', l'⟩ v u w hv hu
  obtain ⟨A, c, rfl, h1, h2, h3⟩ := hv
  obtain ⟨A', c', rfl, h1', h2', h3'⟩ := hu
  have HB : Hid (∀ o1 o2, Below w.heap.size w ((w.alloc o1).alloc o2)) := Lib.hid fun _ _ => ((Below.refl _ w).alloc (Nat.le_refl _) _).alloc (by simp) _
  have H3 := Lib.hid (ER.ero h3)
  have H3' := Lib.hid (ER.ero h3')
  have IH := Lib.hid ih
  clear h3 h3' ih
  by_cases ho : (o == o') = true
  case neg =>
    have ho' : (o == o') = false := by simpa using ho
    clear ho
    go_enter Try.func16, Try.ntmps16
    go_wp2
    go_ret
    exact ⟨ret_bool (by simp [sameE, ho']), HB.out _ _⟩
  by_cases hx : (x == x') = true
  case neg =>
    have ho' : (x == x') = false := by simpa using hx
    clear hx
    go_enter Try.func16, Try.ntmps16
    go_wp2
    go_ret
    exact ⟨ret_bool (by simp [sameE, ho']), HB.out _ _⟩
  by_cases hi : (i == i') = true
  case neg =>
    have ho' : (i == i') = false := by simpa using hi
    clear hi
    go_enter Try.func16, Try.ntmps16
    go_wp2
    go_ret
    exact ⟨ret_bool (by simp [sameE, ho']), HB.out _ _⟩
  have HC := Lib.hid (fun w' => equalFunc_any l l' l.length l'.length c c' A A' rfl rfl (by omega) w')
  go_enter Try.func16, Try.ntmps16
  go_wp2_with fail
  refine (HC.out _ (H3.out.kept (HB.out _ _) (Nat.le_refl _)) (H3'.out.kept (HB.out _ _) (Nat.le_refl _)) IH.out).mono ?_
  rintro en w2 ⟨rfl, hb⟩
  go_wp2
  go_ret
  exact ⟨ret_bool (by simp [sameE, ho, hx, hi]), (HB.out _ _).trans (hb.mono (by simp; omega))⟩
set_option maxRecDepth 100000 in
theorem same_loop (o x i : Int) (l1 l2 : List EX) (n c1 c2 : Nat) (A1 A2 : Option Addr) (hn1 : l1.length = n) (hn2 : l2.length = n) (hn : n ≤ 35184372088831) (w : World)
   (h1 : ERo w A1 0 l1) (h2 : ERo w A2 0 l2)
   (ih : ∀ e, e ∈ l1 → ∀ e' v u w', ER w' e v → ER w' e' u → Calls Try.prog 17 #[v, u] w' fun en w'' => en = .returned (.bool (sameE e e')) ∧ Below w'.heap.size w' w'') :
    Calls Try.prog 17 #[.agg #[.int .i64 o, .int .i64 x, .int .i64 i, .slice A1 n c1], .agg #[.int .i64 o, .int .i64 x, .int .i64 i, .slice A2 n c2]] w fun e w' => e = .returned (.bool (sameL l1 l2)) ∧ Below w.heap.size w w' := by
  have HN1 := Lib.hid hn1
  have HN2 := Lib.hid hn2
  have H1 := Lib.hid h1
  have H2 := Lib.hid h2
  have IH := Lib.hid ih
  clear h1 h2 ih hn1 hn2
  go_enter Try.func17, Try.ntmps17
  go_wp2
  go_loopw [5] (fun j w' => ∃ k : Nat, k ≤ n ∧ j = .int .i64 k ∧ Hid (∃ r1 r2, k + r1.length = n ∧ k + r2.length = n ∧ ERo w A1 k r1 ∧ ERo w A2 k r2 ∧ sameL l1 l2 = sameL r1 r2 ∧ ∀ e, e ∈ r1 → e ∈ l1) ∧ Hid (Below (w.heap.size + 1 + 1) ((w.alloc (.cells #[.int .i64 o, .int .i64 x, .int .i64 i, .slice A1 n c1] 24)).alloc (.cells #[.int .i64 o, .int .i64 x, .int .i64 i, .slice A2 n c2] 24)) w')) (fun j _ => n - (intOf j).toNat)
  case atStart => exact ⟨0, Nat.zero_le _, rfl, ⟨l1, l2, by simpa using HN1.out, by simpa using HN2.out, H1.out, H2.out, rfl, fun _ h => h⟩, Below.refl _ _⟩
  case round =>
    obtain ⟨k, hk, rfl, HG, HB⟩ := hrel
    have hcell := bcell1 HB.out
    have hsz : w.heap.size + 1 + 1 ≤ wr.heap.size := by have := HB.out.size; simpa using this
    obtain ⟨r1, r2, hr1, hr2, e1, e2, hsame, hsub⟩ := HG.out
    have HBW := Lib.hid ((((Below.refl _ w).alloc (Nat.le_refl _) _).alloc (by simp) _).trans (HB.out.mono (show w.heap.size ≤ w.heap.size + 1 + 1 by omega)))
    have HR1 := Lib.hid hr1
    have HR2 := Lib.hid hr2
    have HS := Lib.hid hsame
    clear hr1 hr2 hsame
    match r1, r2 with
    | [], [] =>
      have hlt : ¬ k < n := by have := HR1.out; simp at this; omega
      go_wp2
      go_ret
      exact ⟨by rw [HS.out]; simp [sameL], HBW.out⟩
    | a :: r1, b :: r2 =>
      have hlt : k < n := by have := HR1.out; simp at this; omega
      obtain ⟨b1, f1, rfl, v0, v1, v2, v3, a0, a1, a2, a3, hb1, hb1', hb1'', ha, hra⟩ := e1.cons
      obtain ⟨b2, f2, rfl, u0, u1, u2, u3, d0, d1, d2, d3, hb2, hb2', hb2'', hd, hrd⟩ := e2.cons
      have HC := Lib.hid (IH.out a (hsub _ (by simp)) b)
      go_wp2_with fail
      go_region_held3 (fun w' => Below (w.heap.size + 1 + 1) wr w' ∧ w.heap.size + 1 + 1 ≤ w'.heap.size ∧ ∀ b o, b < w.heap.size + 1 + 1 → w'.cell? ⟨b, o, none⟩ = wr.cell? ⟨b, o, none⟩)
        (first | exact keep2 (by assumption) hb3 | exact keep0 hsz)
        (first | (go_at_call 17; refine (HC.out _ _ _ (ER.below (HBW.out.trans (Below.mono (And.left ‹Keeps (w.heap.size + 1 + 1) wr _›) (by omega))) _ _ ha) (ER.below (HBW.out.trans (Below.mono (And.left ‹Keeps (w.heap.size + 1 + 1) wr _›) (by omega))) _ _ hd)).mono ?_; rintro e w2 ⟨rfl, hb3⟩))
      have hK : Keeps (w.heap.size + 1 + 1) wr w2 := ‹_›
      have HK := Lib.hid hK
      have hBw2 := Lib.hid (HBW.out.trans (hK.1.mono (by omega)))
      clear hK hb3
      cases hg : sameE a b
      · go_wp2
        go_ret
        exact ⟨by rw [HS.out]; simp [sameL, hg], hBw2.out⟩
      · go_wp2
        go_roundw
        case rel => exact ⟨k + 1, by omega, by go_num, ⟨r1, r2, by have := HR1.out; simp at this; omega, by have := HR2.out; simp at this; omega, hra, hrd, by rw [HS.out]; simp [sameL, hg], fun e he => hsub e (by simp [he])⟩, HB.out.trans HK.out.1⟩
        case measure => simp [intOf]; omega
    | [], b :: r2 => exact absurd (HR1.out.trans HR2.out.symm) (by simp)
    | a :: r1, [] => exact absurd (HR1.out.trans HR2.out.symm) (by simp)

theorem same_any : ∀ (e e' : EX) v u w, ER w e v → ER w e' u → Calls Try.prog 17 #[v, u] w fun en w' => en = .returned (.bool (sameE e e')) ∧ Below w.heap.size w w' := by
  refine EX.ind fun o x i l ih => ?_
  rintro ⟨o', x', i', l'⟩ v u w hv hu
  obtain ⟨A, c, rfl, h1, h2, h3⟩ := hv
  obtain ⟨A', c', rfl, h1', h2', h3'⟩ := hu
  have hB : ∀ o1 o2, Below w.heap.size w ((w.alloc o1).alloc o2) := fun _ _ => ((Below.refl _ w).alloc (Nat.le_refl _) _).alloc (by simp) _
  rw [sameE]
  have HB := Lib.hid hB
  have H3 := Lib.hid h3
  have H3' := Lib.hid h3'
  have IH := Lib.hid ih
  clear hB h3 h3' ih
  by_cases ho : o = o'
  · subst ho
    by_cases hx : x = x'
    · subst hx
      by_cases hi : i = i'
      · subst hi
        by_cases hl : l.length = l'.length
        · have HL := Lib.hid hl
          have e := same_loop o x i l l' l.length c c' A A' rfl HL.out.symm (by omega) w (ER.ero H3.out) (ER.ero H3'.out) IH.out
          simp only [beq_self_eq_true, Bool.true_and]
          rw [← HL.out]
          exact e
        · have hl2 : ((l.length : Int) != (l'.length : Int)) = true := by rw [bne_iff_ne]; omega
          rw [sameL_len hl]
          clear hl
          go_enter Try.func17, Try.ntmps17
          go_wp2
          go_ret
          exact ⟨by simp, HB.out _ _⟩
      · have hi2 : (i == i') = false := by simpa using hi
        have hi3 : (i != i') = true := by simpa using hi
        rw [hi2]
        clear hi hi2
        go_enter Try.func17, Try.ntmps17
        go_wp2
        go_ret
        exact ⟨by simp, HB.out _ _⟩
    · have hi2 : (x == x') = false := by simpa using hx
      have hi3 : (x != x') = true := by simpa using hx
      rw [hi2]
      clear hx hi2
      go_enter Try.func17, Try.ntmps17
      go_wp2
      go_ret
      exact ⟨by simp, HB.out _ _⟩
  · have hi2 : (o == o') = false := by simpa using ho
    have hi3 : (o != o') = true := by simpa using ho
    rw [hi2]
    clear ho hi2
    go_enter Try.func17, Try.ntmps17
    go_wp2
    go_ret
    exact ⟨by simp, HB.out _ _⟩


end Go.Proofs.Ytmclnnpaephkpaa

/-
  WALKS of chapter 14: kind of the program, with its closures; Equal over slices.EqualFunc.
-/
import Derived.Test.YtmclnnpaephkpaaWF14
namespace Go.Proofs.Ytmclnnpaephkpaa
set_option linter.unusedVariables false
set_option linter.unusedSimpArgs false
set_option linter.unnecessarySimpa false
set_option linter.unusedSectionVars false
open Go.RowKit

/-- kind$1$1: whether a number differs from the captured one. -/
theorem kind11_any (x k : Int) (b : Nat) (w : World) (hc : w.cell? ⟨b, 0, none⟩ = some (.int .i64 k)) :
    Calls Try.prog 67 #[.int .i64 x, .pointer (some ⟨b, 0, none⟩)] w fun e w' => e = .returned (.bool (x != k)) ∧ w' = w := by
  go_enter Try.func67, Try.ntmps67
  go_wp2
  go_ret
  exact ⟨rfl, rfl⟩
/-- slices.IndexFunc over numbers, the function being the closure above. -/
theorem indexFunc11 (k : Int) (b : Nat) (l : List Int) (A : Option Addr) (n c : Nat) (hn : l.length = n) (hn2 : n ≤ 1000000) (w : World) (hl : IRo w A 0 l) (hc : w.cell? ⟨b, 0, none⟩ = some (.int .i64 k)) :
    Calls Try.prog 70 #[.slice A n c, .func (.func 67) #[] #[.pointer (some ⟨b, 0, none⟩)]] w fun e w' => ∃ q : Int, e = .returned (.int .i64 q) ∧ decide (0 ≤ q) = l.any (fun x => x != k) ∧ w' = w := by
  have HL := Lib.hid hl
  have HN := Lib.hid hn
  clear hl hn
  go_enter Try.func70, Try.ntmps70
  go_wp2
  go_loop [8] (fun j => ∃ m : Nat, m ≤ n ∧ j = .int .i64 m ∧ Hid (∃ r, m + r.length = n ∧ IRo w A m r ∧ l.any (fun x => x != k) = r.any (fun x => x != k))) (fun j => n - (intOf j).toNat)
  case atStart => exact ⟨0, by omega, rfl, l, by have := HN.out; omega, HL.out, rfl⟩
  case round =>
    obtain ⟨m, hm, rfl, HR⟩ := hrel
    obtain ⟨r, hr, hi, ha⟩ := HR.out
    have HA := Lib.hid ha
    have HLn := Lib.hid hr
    clear HR ha hr
    match r with
    | [] =>
      have hlt : ¬ m < n := by have := HLn.out; simp at this; omega
      go_wp2
      go_ret
      exact ⟨-1, rfl, by rw [HA.out]; rfl, rfl⟩
    | q :: r =>
      have hlt : m < n := by have := HLn.out; simp at this; omega
      obtain ⟨g, off, rfl, e0, _, _, _, hi3⟩ := hi.cons
      by_cases hq : q = k
      · have hq2 : (q != k) = false := by simpa using hq
        have HQ := Lib.hid hq
        clear hq
        go_wp2_with (go_at_call 67; refine (kind11_any _ k b _ hc).mono ?_; rintro e w' ⟨rfl, rfl⟩)
        go_round
        case rel => exact ⟨m + 1, by omega, by go_num, r, by have := HLn.out; simp at this; omega, hi3, by rw [HA.out]; simp [HQ.out]⟩
        case measure => simp [intOf]; omega
      · have hq2 : (q != k) = true := by simpa using hq
        have HQ := Lib.hid hq
        clear hq
        go_wp2_with (go_at_call 67; refine (kind11_any _ k b _ hc).mono ?_; rintro e w' ⟨rfl, rfl⟩)
        go_ret
        exact ⟨m, rfl, by rw [HA.out]; simp [HQ.out], rfl⟩
theorem contains11 (k : Int) (b : Nat) (l : List Int) (A : Option Addr) (n c : Nat) (hn : l.length = n) (hn2 : n ≤ 1000000) (w : World) (hl : IRo w A 0 l) (hc : w.cell? ⟨b, 0, none⟩ = some (.int .i64 k)) :
    Calls Try.prog 47 #[.slice A n c, .func (.func 67) #[] #[.pointer (some ⟨b, 0, none⟩)]] w fun e w' => e = .returned (.bool (l.any (fun x => x != k))) ∧ w' = w := by
  have HI := Lib.hid (indexFunc11 k b l A n c hn hn2 w hl hc)
  clear hl hn hc
  go_enter Try.func47, Try.ntmps47
  go_wp2_with fail
  refine HI.out.mono ?_
  rintro e w' ⟨q, rfl, hq, rfl⟩
  go_wp2
  go_ret
  exact ⟨rfl, rfl⟩
/-- kind$1: whether all of the captured list are k. -/
theorem kind1_any (k : Int) (g : Nat) (l : List Int) (A : Option Addr) (n c : Nat) (hn : l.length = n) (hn2 : n ≤ 1000000) (w : World) (hg : w.cell? ⟨g, 0, none⟩ = some (.slice A n c)) (hl : IRo w A 0 l) :
    Calls Try.prog 66 #[.int .i64 k, .pointer (some ⟨g, 0, none⟩)] w fun e w' => e = .returned (.bool (l.all (· == k))) ∧ Below w.heap.size w w' := by
  have hgl := World.block_lt_of_cell? _ _ hg
  have HL := Lib.hid hl
  have HN := Lib.hid hn
  clear hl hn
  have hmf : ∀ (fn : Fn) (first cap : Array Value) (w : World), (Instr.makeFunc fn first cap).run Try.prog w = .ok (.func fn first cap) w := fun _ _ _ _ => rfl
  go_enter Try.func66, Try.ntmps66
  go_wp2_with fail
  refine (contains11 k w.heap.size l A n c HN.out hn2 _ (HL.out.kept ((Below.refl _ w).alloc (Nat.le_refl _) _) (Nat.le_refl _)) (by simp [go_sem])).mono ?_
  rintro e w' ⟨rfl, rfl⟩
  go_wp2
  go_ret
  exact ⟨ret_bool (by rw [Bool.eq_iff_iff]; simp), (by repeat (first | exact Below.refl _ _ | assumption | refine Below.drew ?_ | refine below_drewN ?_ _ | refine Below.setCell ?_ (by simp; try omega) _ | refine Below.alloc ?_ (by simp; try omega) _))⟩

theorem argsS_le3 (o want : Int) (h : argsS o = some want) : want ≤ 3 := by
  unfold argsS at h
  repeat' split at h
  all_goals first | (injection h with h; omega) | cases h
def KindSaid (e : EX) : Prop := ∀ (v : Value) (w : World), ER w e v → Calls Try.prog 43 #[v] w fun en w' => en = .returned (.int .i64 (kindE e)) ∧ Below w.heap.size w w'
theorem ownBelow {w w2 : World} {base n : Nat} {e : TypeId} {v : Value} {xs : List Value} (h : w.ownsRow base e 1 v n xs) (hb2 : Below w.heap.size w w2) : w2.ownsRow base e 1 v n xs :=
  World.ownsRow.kept h (w' := w2) (row := none) ⟨hb2.os, hb2.tape, hb2.output, hb2.size, fun i hi _ => hb2.block i hi⟩ (by cases h : Value.ownBlock v <;> simp)
theorem oneBelow {w w2 : World} {b : Nat} {o : Obj} (h : w.heap[b]? = some o) (hb : Below w.heap.size w w2) : w2.heap[b]? = some o := (hb.block b (oneLt h)).trans h
theorem oneGrown {w w2 : World} {b : Nat} {o : Obj} {row : Option Nat} (h : w.heap[b]? = some o) (hg : w.grownBy w2 row) (hne : some b ≠ row) : w2.heap[b]? = some o := (hg.block b (oneLt h) hne).trans h
set_option maxRecDepth 100000 in
set_option maxHeartbeats 2000000 in
theorem kind_any : ∀ e, wfE e → KindSaid e := by
  refine EX.ind fun o x i l ih => ?_
  intro hwf v w hv
  obtain ⟨A, cc, rfl, hlc, hcm, hA⟩ := hv
  obtain ⟨N, hN⟩ : ∃ N, l.length = N := ⟨_, rfl⟩
  rw [wfE, hN] at hwf
  rw [hN] at hlc ⊢
  have HA := Lib.hid (ER.ero hA)
  have HN := Lib.hid hN
  have HO := Lib.hid hwf.1
  have IH : Hid (∀ e, e ∈ l → KindSaid e) := Lib.hid fun e he => ih e he (wfL_mem hwf.2 he)
  have hN3 : N ≤ 3 := by have := argsS_le3 o _ hwf.1; omega
  have hops : 0 ≤ o ∧ o ≤ 13 := argsS_rng o _ hwf.1
  have hmf : ∀ (fn : Fn) (first cap : Array Value) (w : World), (Instr.makeFunc fn first cap).run Try.prog w = .ok (.func fn first cap) w := fun _ _ _ _ => rfl
  clear hA hN hwf ih
  go_enter Try.func43, Try.ntmps43
  go_wp2
  go_loopw [11] (fun j wr => ∃ k : Nat, k ≤ N ∧ j = .int .i64 k ∧ Hid (∃ r ks A' c', k + r.length = N ∧ ks.length = k ∧ ERo w A k r ∧ (∀ e, e ∈ r → e ∈ l) ∧ kindL l = (kindL r).map (ks ++ ·) ∧ wr.heap[w.heap.size + 1]? = some (.cells #[.slice A' k c'] 33 (0, 0)) ∧ wr.ownsRow (w.heap.size + 2) 3 1 (.slice A' k c') k (ks.map (Value.int .i64)) ∧ Keeps (w.heap.size + 1) (w.alloc (.cells #[.int .i64 o, .int .i64 x, .int .i64 i, .slice A N cc] 24)) wr)) (fun j _ => N - (intOf j).toNat)
  case atStart => exact ⟨0, Nat.zero_le _, rfl, l, [], none, 0, by have := HN.out; omega, rfl, HA.out, fun _ h => h, by simp, heap_alloc2_new _ _ _, World.ownsRow_nil _ _ _ _, keepA (keepSelf (by simp)) _⟩
  case round =>
    obtain ⟨k, hk, rfl, HR⟩ := hrel
    obtain ⟨r, ks, A', c', hr, hks, her, hsub, hf, hbox, hown, hkeep⟩ := HR.out
    have hcell := hkeep.2.2
    have hsz := hkeep.2.1
    have hcb := cell_of_one hbox
    have hfb := free_of_one hbox
    have hlb := oneLt hbox
    have HF := Lib.hid hf
    have HLN := Lib.hid hr
    have HKS := Lib.hid hks
    have HOW := Lib.hid hown
    have HBX := Lib.hid hbox
    have HK := Lib.hid hkeep
    have HB := Lib.hid (((Below.refl _ w).alloc (Nat.le_refl _) _).trans (hkeep.1.mono (Nat.le_succ _)))
    clear hf hr HR hks hown hkeep hbox
    match r with
    | [] =>
      have hlt : ¬ k < N := by have := HLN.out; simp at this; omega
      obtain rfl : k = N := by have := HLN.out; simp at this; omega
      have HE : Hid (kindE (.node o x i l) = kindOp o ks) := by
        have : kindL l = some ks := by rw [HF.out]; simp [kindL]
        show _ = _
        rw [kindE, this]
      have HI := Lib.hid (IRo.of_own' HOW.out)
      have hcls : o = 13 ∨ (o = 0 ∨ o = 1) ∨ (o = 2 ∨ o = 3 ∨ o = 4 ∨ o = 5) ∨ (o = 6 ∨ o = 7 ∨ o = 8 ∨ o = 9) ∨ (o = 10 ∨ o = 11 ∨ o = 12) := by omega
      clear hops
      rcases hcls with rfl | hcls | hcls | hcls | hcls
      · have HK3 : Hid (k = 3) := by have := HO.out; simp [argsS] at this; show _ = _; omega
        match ks, HKS, HI, HE with
        | [q0, q1, q2], _, HI, HE =>
          obtain ⟨g, off, rfl, e0, e1, e2⟩ := HI.out.three
          have hk0 : (0 : Int) < (k : Int) := by have := HK3.out; omega
          have hk1 : (1 : Int) < (k : Int) := by have := HK3.out; omega
          have hk2 : (2 : Int) < (k : Int) := by have := HK3.out; omega
          by_cases h0 : q0 = 2
          · have h0' : (q0 == 2) = true := by simpa using h0
            have H0 := Lib.hid h0
            clear h0
            by_cases h1 : q1 = q2
            · have h1' : (q1 == q2) = true := by simpa using h1
              have H1 := Lib.hid h1
              clear h1
              go_wp2
              go_quiet (fail)
              go_wp2
              go_ret
              exact ⟨ret_int (by rw [HE.out]; simp [kindOp, H0.out, H1.out]), below_drewN HB.out _⟩
            · have h1' : (q1 == q2) = false := by simpa using h1
              have H1 := Lib.hid h1
              clear h1
              go_wp2
              go_quiet (fail)
              go_wp2
              go_ret
              exact ⟨ret_int (by rw [HE.out]; simp [kindOp, H0.out, H1.out]), below_drewN HB.out _⟩
          · have h0' : (q0 == 2) = false := by simpa using h0
            have H0 := Lib.hid h0
            clear h0
            go_wp2
            go_quiet (fail)
            go_wp2
            go_ret
            exact ⟨ret_int (by rw [HE.out]; simp [kindOp, H0.out]), below_drewN HB.out _⟩
        | [], HKS, _, _ => exact absurd (HKS.out.trans HK3.out) (by simp)
        | [_], HKS, _, _ => exact absurd (HKS.out.trans HK3.out) (by simp)
        | [_, _], HKS, _, _ => exact absurd (HKS.out.trans HK3.out) (by simp)
        | _ :: _ :: _ :: _ :: _, HKS, _, _ => exact absurd (HKS.out.trans HK3.out) (by simp)
      · have HK0 : Hid (k = 0) := by rcases hcls with rfl | rfl <;> (have := HO.out; simp [argsS] at this; show _ = _; omega)
        obtain rfl : ks = [] := List.eq_nil_of_length_eq_zero (HKS.out.trans HK0.out)
        rcases hcls with rfl | rfl
        all_goals
          go_wp2
          go_ret
          exact ⟨ret_int (by rw [HE.out]; simp [kindOp]), HB.out⟩
      · by_cases hall : ks.all (· == 1) = true
        · rcases hcls with rfl | rfl | rfl | rfl
          all_goals
            go_wp2_with (go_at_call 66; refine (kind1_any _ _ ks A' k c' HKS.out (by omega) _ hcb HI.out).mono ?_; rintro e w' ⟨rfl, hb⟩)
            go_ret
            exact ⟨ret_int (by rw [HE.out]; simp only [kindOp]; rw [hall]; rfl), HB.out.trans (hb.mono (by omega))⟩
        · have hall : ks.all (· == 1) = false := by simpa using hall
          rcases hcls with rfl | rfl | rfl | rfl
          all_goals
            go_wp2_with (go_at_call 66; refine (kind1_any _ _ ks A' k c' HKS.out (by omega) _ hcb HI.out).mono ?_; rintro e w' ⟨rfl, hb⟩)
            go_ret
            exact ⟨ret_int (by rw [HE.out]; simp only [kindOp]; rw [hall]; rfl), HB.out.trans (hb.mono (by omega))⟩
      · by_cases hall : ks.all (· == 1) = true
        · rcases hcls with rfl | rfl | rfl | rfl
          all_goals
            go_wp2_with (go_at_call 66; refine (kind1_any _ _ ks A' k c' HKS.out (by omega) _ hcb HI.out).mono ?_; rintro e w' ⟨rfl, hb⟩)
            go_ret
            exact ⟨ret_int (by rw [HE.out]; simp only [kindOp]; rw [hall]; rfl), HB.out.trans (hb.mono (by omega))⟩
        · have hall : ks.all (· == 1) = false := by simpa using hall
          rcases hcls with rfl | rfl | rfl | rfl
          all_goals
            go_wp2_with (go_at_call 66; refine (kind1_any _ _ ks A' k c' HKS.out (by omega) _ hcb HI.out).mono ?_; rintro e w' ⟨rfl, hb⟩)
            go_ret
            exact ⟨ret_int (by rw [HE.out]; simp only [kindOp]; rw [hall]; rfl), HB.out.trans (hb.mono (by omega))⟩
      · by_cases hall : ks.all (· == 2) = true
        · rcases hcls with rfl | rfl | rfl
          all_goals
            go_wp2_with (go_at_call 66; refine (kind1_any _ _ ks A' k c' HKS.out (by omega) _ hcb HI.out).mono ?_; rintro e w' ⟨rfl, hb⟩)
            go_ret
            exact ⟨ret_int (by rw [HE.out]; simp only [kindOp]; rw [hall]; rfl), HB.out.trans (hb.mono (by omega))⟩
        · have hall : ks.all (· == 2) = false := by simpa using hall
          rcases hcls with rfl | rfl | rfl
          all_goals
            go_wp2_with (go_at_call 66; refine (kind1_any _ _ ks A' k c' HKS.out (by omega) _ hcb HI.out).mono ?_; rintro e w' ⟨rfl, hb⟩)
            go_ret
            exact ⟨ret_int (by rw [HE.out]; simp only [kindOp]; rw [hall]; rfl), HB.out.trans (hb.mono (by omega))⟩
    | y :: r =>
      have hlt : k < N := by have := HLN.out; simp at this; omega
      obtain ⟨b1, f1, rfl, A1, c1, a0, a1, a2, a3, hb1, hb1', hb1'', hy, hry⟩ := her.cons'
      have HC' := Lib.hid (IH.out y (hsub y (by simp)) _ (wr.alloc (.cells #[.int .i64 y.op, .int .i64 y.val, .int .i64 y.idx, .slice A1 y.args.length c1] 24)) (ER.below (HB.out.alloc HB.out.size _) _ _ hy))
      obtain ⟨q, hq⟩ : ∃ q, kindE y = q := ⟨_, rfl⟩
      have HQ := Lib.hid hq
      clear hq
      go_wp2_with fail
      refine (HC'.out).mono ?_
      rw [HQ.out]
      rintro en w2 ⟨rfl, hb2⟩
      have HK2 := Lib.hid (keep2 (keepA HK.out _) hb2)
      have HOW2 := Lib.hid (ownBelow (HOW.out.alloc _) hb2)
      have hbox2 := oneBelow (oneAlloc HBX.out _) hb2
      have hcb2 := cell_of_one hbox2
      have hfb2 := free_of_one hbox2
      have hlb2 := oneLt hbox2
      have HBX2 := Lib.hid hbox2
      clear hb2 hbox2
      by_cases hz : q = 0
      · subst hz
        go_wp2
        go_ret
        exact ⟨ret_int (by rw [kindE, HF.out, kindL, if_pos HQ.out]; rfl), (((Below.refl _ w).alloc (Nat.le_refl _) _).trans (HK2.out.1.mono (Nat.le_succ _)))⟩
      · have hz2 : (q == 0) = false := by simpa using hz
        have HZ := Lib.hid hz
        clear hz
        go_wp2_with (at_builtin; refine app_int rfl _ _ rfl (w.heap.size + 2) _ k ks rfl (HOW2.out.alloc _) _ q rfl (by simp [go_sem]) (by omega) (by have := HK2.out.2.1; simp; omega) ?_; intro v' w1 hown1 hg1; obtain ⟨A2, c2, rfl⟩ := own_form hown1; have hbox3 := oneGrown (oneAlloc HBX2.out _) hg1 (fun e => by have := own_ge HOW2.out _ e.symm; omega); have hcb3 := cell_of_one hbox3; have hfb3 := free_of_one hbox3; have hlb3 := oneLt hbox3; have HBX3 := Lib.hid hbox3; clear hbox3)
        go_roundw
        case rel => exact ⟨k + 1, by omega, by go_num, r, ks ++ [q], A2, c2, by have := HLN.out; simp at this; omega, by have := HKS.out; simp; omega, hry, fun e he => hsub e (by simp [he]), by rw [HF.out, kindL, if_neg (by rw [HQ.out]; exact HZ.out), HQ.out]; simp [Function.comp_def], one_setCell HBX3.out, ownsRow_setCell_below hown1 (by simp) _, keepS (keepG (keepA HK2.out _) hg1 (fun k hk => by have := own_ge HOW2.out k hk; omega)) (by simp) _⟩
        case measure => simp [intOf]; omega
end Go.Proofs.Ytmclnnpaephkpaa

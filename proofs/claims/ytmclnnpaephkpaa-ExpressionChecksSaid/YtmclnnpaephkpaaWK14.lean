/-
  WALKS of chapter 14: the check of variables.
-/
import Derived.Test.YtmclnnpaephkpaaWA14
namespace Go.Proofs.Ytmclnnpaephkpaa
set_option linter.unusedVariables false
set_option linter.unusedSimpArgs false
set_option linter.unnecessarySimpa false
set_option linter.unusedSectionVars false
open Go.RowKit

/-- A list of variables in memory. -/
def VRs (w : World) (b off : Nat) : List VT → Prop
  | [] => True
  | v :: vs => w.cell? ⟨b, off, none⟩ = some (.string v.name) ∧ w.cell? ⟨b, off + 1, none⟩ = some (.int .i64 v.low) ∧ w.cell? ⟨b, off + 2, none⟩ = some (.int .i64 v.high) ∧ w.cell? ⟨b, off + 3, none⟩ = some (.int .i64 v.init) ∧ v.name.size ≤ maxLen ∧ VRs w b (off + 4) vs
def VRo (w : World) (A : Option Addr) (k : Nat) (l : List VT) : Prop := l ≠ [] → ∃ b off, A = some ⟨b, off, none⟩ ∧ VRs w b (off + k * 4) l
theorem VRs.below {w w' : World} (hb : Below w.heap.size w w') : ∀ l b off, VRs w b off l → VRs w' b off l
  | [], _, _, _ => trivial
  | _ :: vs, b, _, ⟨h0, h1, h2, h3, hs, hr⟩ => ⟨keepc hb h0, keepc hb h1, keepc hb h2, keepc hb h3, hs, VRs.below hb vs b _ hr⟩
theorem VRo.kept {N : Nat} {w w' : World} (hb : Below N w w') (hN : w.heap.size ≤ N) {A : Option Addr} {k : Nat} {l : List VT} (h : VRo w A k l) : VRo w' A k l := fun hl => by
  obtain ⟨b, off, hA, hs⟩ := h hl
  exact ⟨b, off, hA, VRs.below (hb.mono hN) l _ _ hs⟩
theorem VRo.cons {w : World} {A : Option Addr} {k : Nat} {v : VT} {vs : List VT} (h : VRo w A k (v :: vs)) : ∃ b off, A = some ⟨b, off, none⟩ ∧ w.cell? ⟨b, off + k * 4, none⟩ = some (.string v.name) ∧ w.cell? ⟨b, off + k * 4 + 1, none⟩ = some (.int .i64 v.low) ∧ w.cell? ⟨b, off + k * 4 + 2, none⟩ = some (.int .i64 v.high) ∧ w.cell? ⟨b, off + k * 4 + 3, none⟩ = some (.int .i64 v.init) ∧ v.name.size ≤ maxLen ∧ b < w.heap.size ∧ b < w.heap.size + 1 ∧ VRo w A (k + 1) vs := by
  obtain ⟨b, off, hA, h0, h1, h2, h3, hs, hr⟩ := h (by simp)
  have hb := World.block_lt_of_cell? _ _ h0
  exact ⟨b, off, hA, h0, h1, h2, h3, hs, hb, by simp at hb; omega, fun _ => ⟨b, off, hA, by rw [Nat.succ_mul]; exact hr⟩⟩
theorem VRs.take {w : World} {b : Nat} : ∀ (l : List VT) (off k : Nat), VRs w b off l → VRs w b off (l.take k)
  | [], _, _, _ => by simp [VRs]
  | v :: vs, off, 0, _ => by simp [VRs]
  | v :: vs, off, k + 1, ⟨h0, h1, h2, h3, hs, hr⟩ => ⟨h0, h1, h2, h3, hs, VRs.take vs _ k hr⟩
theorem VRo.take {w : World} {A : Option Addr} {l : List VT} (h : VRo w A 0 l) (k : Nat) : VRo w A 0 (l.take k) := fun hl => by
  obtain ⟨b, off, hA, hs⟩ := h (fun e => hl (by simp [e]))
  exact ⟨b, off, hA, VRs.take l _ k hs⟩

theorem checkVariables1_any (s t : ByteArray) (x y z : Int) (g : Nat) (w : World) (hc : w.cell? ⟨g, 0, none⟩ = some (.string t)) :
    Calls Try.prog 60 #[.agg #[.string s, .int .i64 x, .int .i64 y, .int .i64 z], .pointer (some ⟨g, 0, none⟩)] w fun e w' => e = .returned (.bool (s.toList == t.toList)) ∧ Below w.heap.size w w' := by
  have hg := World.block_lt_of_cell? _ _ hc
  have hg2 : g < w.heap.size + 1 := by simp at hg; omega
  go_enter Try.func60, Try.ntmps60
  go_wp2
  go_ret
  exact ⟨rfl, (by repeat (first | exact Below.refl _ _ | assumption | refine Below.drew ?_ | refine below_drewN ?_ _ | refine Below.setCell ?_ (by simp; try omega) _ | refine Below.alloc ?_ (by simp; try omega) _))⟩
theorem indexFuncV_any (t : ByteArray) (g : Nat) (l : List VT) (A : Option Addr) (n c : Nat) (hn : l.length = n) (hn2 : n ≤ 1000000) (w : World) (hl : VRo w A 0 l) (hc : w.cell? ⟨g, 0, none⟩ = some (.string t)) :
    Calls Try.prog 77 #[.slice A n c, .func (.func 60) #[] #[.pointer (some ⟨g, 0, none⟩)]] w fun e w' => ∃ q : Int, e = .returned (.int .i64 q) ∧ Hid (decide (0 ≤ q) = l.any (fun u => u.name.toList == t.toList)) ∧ Below w.heap.size w w' := by
  have HL := Lib.hid hl
  have HN := Lib.hid hn
  clear hl hn
  go_enter Try.func77, Try.ntmps77
  go_wp2
  go_loopw [8] (fun j wr => ∃ m : Nat, m ≤ n ∧ j = .int .i64 m ∧ Hid (∃ r, m + r.length = n ∧ VRo w A m r ∧ l.any (fun u => u.name.toList == t.toList) = r.any (fun u => u.name.toList == t.toList) ∧ Below w.heap.size w wr)) (fun j _ => n - (intOf j).toNat)
  case atStart => exact ⟨0, by omega, rfl, l, by have := HN.out; omega, HL.out, rfl, Below.refl _ _⟩
  case round =>
    obtain ⟨m, hm, rfl, HR⟩ := hrel
    obtain ⟨r, hr, hi, ha, hb⟩ := HR.out
    have HA := Lib.hid ha
    have HLn := Lib.hid hr
    have HB := Lib.hid hb
    have hcr := keepc hb hc
    clear HR ha hr hc
    match r with
    | [] =>
      have hlt : ¬ m < n := by have := HLn.out; simp at this; omega
      clear hb
      go_wp2
      go_ret
      exact ⟨-1, rfl, by show _ = _; rw [HA.out]; rfl, HB.out⟩
    | v :: r =>
      have hlt : m < n := by have := HLn.out; simp at this; omega
      obtain ⟨b, off, rfl, a0, a1, a2, a3, _, _, _, hi3⟩ := hi.cons
      have a0' := keepc hb a0
      have a1' := keepc hb a1
      have a2' := keepc hb a2
      have a3' := keepc hb a3
      clear hb a0 a1 a2 a3
      go_wp2_with fail
      refine (checkVariables1_any v.name t v.low v.high v.init g _ hcr).mono ?_
      rintro e w2 ⟨rfl, hb2⟩
      have HB2 := Lib.hid (HB.out.trans (hb2.mono HB.out.size))
      clear hb2
      cases hq : (v.name.toList == t.toList)
      · have HQ := Lib.hid hq
        clear hq
        go_wp2
        go_roundw
        case rel => exact ⟨m + 1, by omega, by go_num, r, by have := HLn.out; simp at this; omega, hi3, by rw [HA.out]; simp [HQ.out], HB2.out⟩
        case measure => simp [intOf]; omega
      · have HQ := Lib.hid hq
        clear hq
        go_wp2
        go_ret
        exact ⟨m, rfl, by show _ = _; rw [HA.out]; simp [HQ.out], HB2.out⟩
theorem containsFuncV_any (t : ByteArray) (g : Nat) (l : List VT) (A : Option Addr) (n c : Nat) (hn : l.length = n) (hn2 : n ≤ 1000000) (w : World) (hl : VRo w A 0 l) (hc : w.cell? ⟨g, 0, none⟩ = some (.string t)) :
    Calls Try.prog 59 #[.slice A n c, .func (.func 60) #[] #[.pointer (some ⟨g, 0, none⟩)]] w fun e w' => e = .returned (.bool (l.any (fun u => u.name.toList == t.toList))) ∧ Below w.heap.size w w' := by
  have HI := Lib.hid (indexFuncV_any t g l A n c hn hn2 w hl hc)
  clear hl hn hc
  go_enter Try.func59, Try.ntmps59
  go_wp2_with fail
  refine HI.out.mono ?_
  rintro e w' ⟨q, rfl, hq, hb⟩
  have HB := Lib.hid hb
  clear hb
  go_wp2
  go_ret
  exact ⟨ret_bool hq.out, HB.out⟩
end Go.Proofs.Ytmclnnpaephkpaa

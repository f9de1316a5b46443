/-
  The reader and its model, side by side: Finish, Expect, List, all calls; the contract of LexerReads.
-/
import Derived.Test.YtoajpgclgdhhlaaC16yb
namespace Go.Proofs.Ytoajpgclgdhhlaa.V
set_option linter.unusedVariables false
set_option linter.unusedSimpArgs false
set_option linter.unnecessarySimpa false
set_option linter.unusedSectionVars false
open Go.RowKit
set_option maxRecDepth 1000000
def RA.finA (A : RA) : RA := if (A.pk.kind != 4) = true then A.fail 14 else A
theorem finR {src : List UInt8} {A : RA} {M : MA} (h : Sim src A M) : SS.CC 49 [.ptr 0 0] [some A.cells] = some (.tuple [], [some A.finA.cells]) := by
  have e0 : SS.CC 49 [.ptr 0 0] [some A.cells] = _ := g49_eq _ _ _ _
  rw [e0, clH_1 (show SS.CC 29 [.ptr 0 0] [some [.sl false 5 (A.toks.map tokP), .int .i64 A.line, .int .i64 A.col, .int .i64 A.e]] = _ from peekR h), h29_t]
  unfold RA.finA
  cases hk : A.pk.kind != 4 with
  | true => rw [bsel_true, clH_1 (show SS.CC 50 [.ptr 0 0, .int .i64 14] [some [.sl false 5 (A.toks.map tokP), .int .i64 A.line, .int .i64 A.col, .int .i64 A.e]] = _ from failR h 14), h50_t, if_pos rfl]; rfl
  | false => rw [bsel_false, if_neg (by decide)]; rfl
def RA.expA (A : RA) (x : List UInt8) : RA := if A.is x = true then A.next else A.fail 14
theorem expR {src : List UInt8} {A : RA} {M : MA} (h : Sim src A M) (x : List UInt8) : SS.CC 46 [.ptr 0 0, .str (bs x)] [some A.cells] = some (.tuple [], [some (A.expA x).cells]) := by
  have e0 : SS.CC 46 [.ptr 0 0, .str (bs x)] [some A.cells] = _ := g46_eq _ _ _ _ _
  rw [e0, clH_1 (show SS.CC 43 [.ptr 0 0, .str (bs x)] [some [.sl false 5 (A.toks.map tokP), .int .i64 A.line, .int .i64 A.col, .int .i64 A.e]] = _ from takeR h x), h43_t]
  unfold RA.expA RA.take
  cases hb : A.is x with
  | true => rw [Bool.not_true, bsel_false, if_pos rfl, if_pos rfl]; rfl
  | false => rw [Bool.not_false, bsel_true, if_neg (by decide), if_neg (by decide), clH_1 (show SS.CC 50 [.ptr 0 0, .int .i64 14] [some [.sl false 5 (A.toks.map tokP), .int .i64 A.line, .int .i64 A.col, .int .i64 A.e]] = _ from failR h 14), h50_t]; rfl
/-! ### List -/
theorem next_len (A : RA) : A.next.toks.length ≤ A.toks.length := by
  unfold RA.next
  split
  · show (A.toks.drop 1).length ≤ _
    rw [List.length_drop]; omega
  · exact Nat.le_refl _
theorem fail_toks (A : RA) (n : Int) : (A.fail n).toks = A.toks := by
  unfold RA.fail
  split
  · rfl
  · split <;> rfl
theorem name_len (A : RA) : A.nameA.toks.length ≤ A.toks.length := by
  unfold RA.nameA
  split
  · rw [fail_toks]; exact Nat.le_refl _
  · exact next_len A
theorem take_len {src : List UInt8} {A : RA} {M : MA} (h : Sim src A M) {x : List UInt8} (hb : A.is x = true) : (A.take x).toks.length < A.toks.length := by
  have hk : A.pk.kind ≠ 4 := fun e => by
    unfold RA.is at hb
    rw [e] at hb; cases hb
  have he : A.e = 0 := by
    by_cases he : A.e = 0
    · exact he
    · exfalso; apply hk; unfold RA.pk; rw [show (A.e != 0) = true by simp [bne_iff_ne, he], if_pos rfl]; rfl
  obtain ⟨t, tl, ht⟩ := h.ne he
  unfold RA.take RA.next
  rw [hb, if_pos rfl, show (A.e == 0) = true by simp [he], show (A.pk.kind != 4) = true by simp [bne_iff_ne, hk], if_pos (by rfl)]
  show (A.toks.drop 1).length < _
  rw [ht]; simp
theorem pk_len {src : List UInt8} {A : RA} {M : MA} (h : Sim src A M) : A.pk.text.length ≤ src.length := by
  by_cases he : A.e = 0
  · obtain ⟨t, tl, ht⟩ := h.ne he
    have hpk : A.pk = t := by unfold RA.pk; rw [show (A.e != 0) = false by simp [he], if_neg (by decide), ht]; rfl
    obtain ⟨i, hp⟩ := (h.ok he).2.1
    rw [hpk]
    rw [ht] at hp
    rcases hp with ⟨_, _, h2, _⟩ | ⟨_, o, _, _, h3, _⟩
    · rw [h2]; simp
    · omega
  · have : A.pk.text = [] := by unfold RA.pk; rw [show (A.e != 0) = true by simp [bne_iff_ne, he], if_pos rfl]; rfl
    rw [this]; simp
theorem name_slen {src : List UInt8} {A : RA} {M : MA} (h : Sim src A M) : A.nameS.length ≤ src.length := by
  unfold RA.nameS
  split
  · simp
  · exact pk_len h
theorem bs_app (a b : List UInt8) : bs a ++ bs b = bs (a ++ b) := by apply ByteArray.ext; simp [bs]
theorem bs_app1 (a : List UInt8) (c : UInt8) : bs a ++ (⟨#[c]⟩ : ByteArray) = bs (a ++ [c]) := by apply ByteArray.ext; simp [bs]
/-- An item. -/
theorem itemR {src : List UInt8} {A : RA} {M : MA} (h : Sim src A M) (s : List UInt8) (n : Nat) (hs : s.length ≤ 1000000) (hn : n ≤ 1000000) (hsrc : src.length ≤ 1000) :
    SS.CC 51 [.ptr 0 0, .ptr 1 0, .ptr 2 0] [some [.str (bs s)], some [.ptr 3 0], some [.int .i64 (n : Int)], some A.cells] = some (.tuple [], [some [.str (bs (s ++ A.nameS ++ [44]))], some [.ptr 3 0], some [.int .i64 ((n + 1 : Nat) : Int)], some A.nameA.cells]) := by
  have e0 : SS.CC 51 [.ptr 0 0, .ptr 1 0, .ptr 2 0] [some [.str (bs s)], some [.ptr 3 0], some [.int .i64 (n : Int)], some A.cells] = _ := g51_eq _ _ _ _ _ _
  have hl := name_slen h
  rw [e0, clH_1 (show SS.CC 47 [.ptr 0 0] [some [.sl false 5 (A.toks.map tokP), .int .i64 A.line, .int .i64 A.col, .int .i64 A.e]] = _ from nameR h),
    h47_t, chk_of (decT (by rw [bs_size, bs_size]; unfold LIM; omega)), bs_app, chk_of (decT (by rw [bs_size, List.length_append]; show _ + 1 ≤ LIM; unfold LIM; omega)), bs_app1, wrs (by omega)]
  rfl
def zTok : Tok := ⟨0, [], 0, 0, 0⟩
def outP (t : Tok) (b : Bool) (s : List UInt8) (n : Int) : PV := .agg [.int .i64 t.kind, .str (bs t.text), .int .i64 t.value, .int .i64 t.line, .int .i64 t.col, .bool b, .str (bs s), .int .i64 n]
theorem listL (src : List UInt8) (hsrc : src.length ≤ 1000) : ∀ (k : Nat) (A : RA) (M : MA) (s : List UInt8) (n : Nat), Sim src A M → A.toks.length ≤ k → s.length + k * 1001 ≤ 1000000 → n + k ≤ 1000000 →
    ∃ A' M' s' n', g22_L3 (A.toks.map tokP) A.line A.col A.e (bs s) (n : Int) = some (.tuple [], [some A'.cells, some [.str (bs s')], some [.ptr 0 0], some [.int .i64 n']]) ∧
      g28_L5 (M.full.map tokP) (M.pos : Int) M.line M.col M.e (bs s) (n : Int) = some (outP zTok false s' n', [some M'.cells]) ∧ Sim src A' M' := by
  intro k
  induction k with
  | zero =>
    intro A M s n h hk _ _
    have he : A.e ≠ 0 := fun he => by
      obtain ⟨t, tl, ht⟩ := h.ne he
      rw [ht] at hk; simp at hk
    have hb : A.is [44] = false := by
      unfold RA.is RA.pk
      rw [show (A.e != 0) = true by simp [bne_iff_ne, he], if_pos rfl]; rfl
    obtain ⟨M', k1, k2⟩ := takeM h [44]
    have hA : A.take [44] = A := by unfold RA.take; rw [hb, if_neg (by decide)]
    rw [hb] at k1
    rw [hA] at k2
    rw [g22_L3_eq, show (A.e == 0) = false by simp [he], bsel_false, g28_L5_eq, clH_1 (show SS.CC 54 [.ptr 0 0, .str ⟨#[44]⟩] [some [.sl false 5 (M.full.map tokP), .int .i64 (M.pos : Int), .int .i64 M.line, .int .i64 M.col, .int .i64 M.e]] = _ from k1), h54_t, bsel_false]
    exact ⟨A, M', s, n, rfl, rfl, k2⟩
  | succ k ih =>
    intro A M s n h hk hs hn
    obtain ⟨M1, k1, k2⟩ := takeM h [44]
    rw [g22_L3_eq, g28_L5_eq, clH_1 (show SS.CC 54 [.ptr 0 0, .str ⟨#[44]⟩] [some [.sl false 5 (M.full.map tokP), .int .i64 (M.pos : Int), .int .i64 M.line, .int .i64 M.col, .int .i64 M.e]] = _ from k1), h54_t]
    cases hb : A.is [44] with
    | false =>
      have hA : A.take [44] = A := by unfold RA.take; rw [hb, if_neg (by decide)]
      rw [hA] at k2
      rw [bsel_false]
      refine ⟨A, M1, s, n, ?_, rfl, k2⟩
      cases he : A.e == 0 with
      | false => rw [bsel_false]; rfl
      | true =>
        have hR := takeR h [44]
        rw [hb, hA] at hR
        rw [bsel_true, clH_1 (show SS.CC 43 [.ptr 0 0, .str ⟨#[44]⟩] [some [.sl false 5 (A.toks.map tokP), .int .i64 A.line, .int .i64 A.col, .int .i64 A.e]] = _ from hR), h43_t, bsel_false]; rfl
    | true =>
      have hlt := take_len h hb
      have he : A.e = 0 := by
        by_cases he : A.e = 0
        · exact he
        · exfalso
          unfold RA.is RA.pk at hb
          rw [show (A.e != 0) = true by simp [bne_iff_ne, he], if_pos rfl] at hb; cases hb
      have hR := takeR h [44]
      rw [hb] at hR
      obtain ⟨M2, k3, k4⟩ := nameM k2
      have hsl := name_slen k2
      have hnl := name_len (A.take [44])
      have hit := itemR k2 s n (by omega) (by omega) hsrc
      rw [show (A.e == 0) = true by simp [he], bsel_true, clH_1 (show SS.CC 43 [.ptr 0 0, .str ⟨#[44]⟩] [some [.sl false 5 (A.toks.map tokP), .int .i64 A.line, .int .i64 A.col, .int .i64 A.e]] = _ from hR), h43_t, bsel_true, bsel_true,
        clH_1 (show SS.CC 51 [.ptr 0 0, .ptr 1 0, .ptr 2 0] [some [.str (bs s)], some [.ptr 3 0], some [.int .i64 (n : Int)], some [.sl false 5 ((A.take [44]).toks.map tokP), .int .i64 (A.take [44]).line, .int .i64 (A.take [44]).col, .int .i64 (A.take [44]).e]] = _ from hit),
        clH_1 (show SS.CC 56 [.ptr 0 0] [some [.sl false 5 (M1.full.map tokP), .int .i64 (M1.pos : Int), .int .i64 M1.line, .int .i64 M1.col, .int .i64 M1.e]] = _ from k3),
        h56_t, chk_of (decT (by rw [bs_size, bs_size]; unfold LIM; omega)), bs_app, chk_of (decT (by rw [bs_size, List.length_append]; show _ + 1 ≤ LIM; unfold LIM; omega)), bs_app1, wrs (by omega)]
      obtain ⟨A', M', s', n', q1, q2, q3⟩ := ih (A.take [44]).nameA M2 (s ++ (A.take [44]).nameS ++ [44]) (n + 1) k4 (by omega) (by simp only [List.length_append, List.length_cons, List.length_nil]; omega) (by omega)
      exact ⟨A', M', s', n', q1, q2, q3⟩
end Go.Proofs.Ytoajpgclgdhhlaa.V

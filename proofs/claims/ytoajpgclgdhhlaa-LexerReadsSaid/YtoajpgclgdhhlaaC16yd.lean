/-
  All calls; the contract of LexerReads.
-/
import Derived.Test.YtoajpgclgdhhlaaC16yc
import Derived.Test.YtoajpgclgdhhlaaO16
namespace Go.Proofs.Ytoajpgclgdhhlaa.V
set_option linter.unusedVariables false
set_option linter.unusedSimpArgs false
set_option linter.unnecessarySimpa false
set_option linter.unusedSectionVars false
open Go.RowKit
set_option maxRecDepth 1000000
theorem h25_t (t : Tok) (b : Bool) (s : List UInt8) (n : Int) (A : RA) (K : Int → ByteArray → Int → Int → Int → Bool → ByteArray → Int → List PV → Int → Int → Int → R) : h25_0 (outP t b s n) [some A.cells] K = K t.kind (bs t.text) t.value t.line t.col b (bs s) n (A.toks.map tokP) A.line A.col A.e := rfl
theorem h28_t (t : Tok) (b : Bool) (s : List UInt8) (n : Int) (M : MA) (K : Int → ByteArray → Int → Int → Int → Bool → ByteArray → Int → List PV → Int → Int → Int → Int → R) : h28_0 (outP t b s n) [some M.cells] K = K t.kind (bs t.text) t.value t.line t.col b (bs s) n (M.full.map tokP) (M.pos : Int) M.line M.col M.e := rfl
theorem h24_t (a b c : Int) (A : RA) (K : Int → Int → Int → List PV → Int → Int → Int → R) : h24_0 (.tuple [.int .i64 a, .int .i64 b, .int .i64 c]) [some A.cells] K = K a b c (A.toks.map tokP) A.line A.col A.e := rfl
def Pair (src : List UInt8) (x y : R) : Prop := ∃ t b s n A' M', x = some (outP t b s n, [some (RA.cells A')]) ∧ y = some (outP t b s n, [some (MA.cells M')]) ∧ Sim src A' M'
theorem pair_bsel {src : List UInt8} {x y x' y' : R} (b : Bool) (h1 : Pair src x x') (h2 : Pair src y y') : Pair src (bsel b x y) (bsel b x' y') := by cases b <;> assumption
section
variable {src : List UInt8} {A : RA} {M : MA}
theorem callP (hsrc : src.length ≤ 1000) (h : Sim src A M) (kd : Int) (x : List UInt8) (lo hi : Int) :
    Pair src (SS.CC 25 [.ptr 0 0, .agg [.int .u8 kd, .str (bs x), .int .i8 lo, .int .i8 hi]] [some A.cells]) (SS.CC 28 [.ptr 0 0, .agg [.int .u8 kd, .str (bs x), .int .i8 lo, .int .i8 hi]] [some M.cells]) := by
  have e1 : SS.CC 25 [.ptr 0 0, .agg [.int .u8 kd, .str (bs x), .int .i8 lo, .int .i8 hi]] [some A.cells] = _ := g25_eq _ _ _ _ _ _ _ _
  have e2 : SS.CC 28 [.ptr 0 0, .agg [.int .u8 kd, .str (bs x), .int .i8 lo, .int .i8 hi]] [some M.cells] = _ := g28_eq _ _ _ _ _ _ _ _ _
  rw [e1, e2]
  refine pair_bsel _ ?_ (pair_bsel _ ?_ (pair_bsel _ ?_ (pair_bsel _ ?_ (pair_bsel _ ?_ (pair_bsel _ ?_ (pair_bsel _ ?_ (pair_bsel _ ?_ (pair_bsel _ ?_ ?_))))))))
  · rw [clH_1 (show SS.CC 29 [.ptr 0 0] [some [.sl false 5 (A.toks.map tokP), .int .i64 A.line, .int .i64 A.col, .int .i64 A.e]] = _ from peekR h), clH_1 (show SS.CC 30 [.ptr 0 0] [some [.sl false 5 (M.full.map tokP), .int .i64 (M.pos : Int), .int .i64 M.line, .int .i64 M.col, .int .i64 M.e]] = _ from peekM h), h29_t, h30_t]
    exact ⟨A.pk, false, [], 0, A, M, rfl, rfl, h⟩
  · obtain ⟨M', k1, k2⟩ := nextM h
    rw [clH_1 (show SS.CC 44 [.ptr 0 0] [some [.sl false 5 (A.toks.map tokP), .int .i64 A.line, .int .i64 A.col, .int .i64 A.e]] = _ from nextR h), clH_1 (show SS.CC 52 [.ptr 0 0] [some [.sl false 5 (M.full.map tokP), .int .i64 (M.pos : Int), .int .i64 M.line, .int .i64 M.col, .int .i64 M.e]] = _ from k1), h44_t, h52_t]
    exact ⟨A.pk, false, [], 0, A.next, M', rfl, rfl, k2⟩
  · rw [clH_1 (show SS.CC 45 [.ptr 0 0, .str (bs x)] [some [.sl false 5 (A.toks.map tokP), .int .i64 A.line, .int .i64 A.col, .int .i64 A.e]] = _ from isR h x), clH_1 (show SS.CC 53 [.ptr 0 0, .str (bs x)] [some [.sl false 5 (M.full.map tokP), .int .i64 (M.pos : Int), .int .i64 M.line, .int .i64 M.col, .int .i64 M.e]] = _ from isM h x), h45_t, h53_t]
    exact ⟨zTok, A.is x, [], 0, A, M, rfl, rfl, h⟩
  · obtain ⟨M', k1, k2⟩ := takeM h x
    rw [clH_1 (show SS.CC 43 [.ptr 0 0, .str (bs x)] [some [.sl false 5 (A.toks.map tokP), .int .i64 A.line, .int .i64 A.col, .int .i64 A.e]] = _ from takeR h x), clH_1 (show SS.CC 54 [.ptr 0 0, .str (bs x)] [some [.sl false 5 (M.full.map tokP), .int .i64 (M.pos : Int), .int .i64 M.line, .int .i64 M.col, .int .i64 M.e]] = _ from k1), h43_t, h54_t]
    exact ⟨zTok, A.is x, [], 0, A.take x, M', rfl, rfl, k2⟩
  · obtain ⟨M1, k1, k2⟩ := takeM h x
    rw [clH_1 (show SS.CC 46 [.ptr 0 0, .str (bs x)] [some [.sl false 5 (A.toks.map tokP), .int .i64 A.line, .int .i64 A.col, .int .i64 A.e]] = _ from expR h x), clH_1 (show SS.CC 54 [.ptr 0 0, .str (bs x)] [some [.sl false 5 (M.full.map tokP), .int .i64 (M.pos : Int), .int .i64 M.line, .int .i64 M.col, .int .i64 M.e]] = _ from k1), h54_t]
    unfold RA.take at k2
    unfold RA.expA
    cases hb : A.is x with
    | true =>
      rw [hb, if_pos rfl] at k2
      rw [Bool.not_true, bsel_false, if_pos rfl]
      exact ⟨zTok, false, [], 0, A.next, M1, rfl, rfl, k2⟩
    | false =>
      rw [hb, if_neg (by decide)] at k2
      obtain ⟨M2, k3, k4⟩ := failM k2 14
      rw [Bool.not_false, bsel_true, if_neg (by decide), clH_1 (show SS.CC 55 [.ptr 0 0, .int .i64 14] [some [.sl false 5 (M1.full.map tokP), .int .i64 (M1.pos : Int), .int .i64 M1.line, .int .i64 M1.col, .int .i64 M1.e]] = _ from k3), h55_t]
      exact ⟨zTok, false, [], 0, A.fail 14, M2, rfl, rfl, k4⟩
  · obtain ⟨M', k1, k2⟩ := nameM h
    rw [clH_1 (show SS.CC 47 [.ptr 0 0] [some [.sl false 5 (A.toks.map tokP), .int .i64 A.line, .int .i64 A.col, .int .i64 A.e]] = _ from nameR h), clH_1 (show SS.CC 56 [.ptr 0 0] [some [.sl false 5 (M.full.map tokP), .int .i64 (M.pos : Int), .int .i64 M.line, .int .i64 M.col, .int .i64 M.e]] = _ from k1)]
    exact ⟨zTok, false, A.nameS, 0, A.nameA, M', rfl, rfl, k2⟩
  · obtain ⟨M', k1, k2⟩ := intM h (IntKind.i64.wrap lo) (IntKind.i64.wrap hi)
    rw [clH_1 (show SS.CC 48 [.ptr 0 0, .int .i64 (IntKind.i64.wrap lo), .int .i64 (IntKind.i64.wrap hi)] [some [.sl false 5 (A.toks.map tokP), .int .i64 A.line, .int .i64 A.col, .int .i64 A.e]] = _ from intR h _ _), clH_1 (show SS.CC 57 [.ptr 0 0, .int .i64 (IntKind.i64.wrap lo), .int .i64 (IntKind.i64.wrap hi)] [some [.sl false 5 (M.full.map tokP), .int .i64 (M.pos : Int), .int .i64 M.line, .int .i64 M.col, .int .i64 M.e]] = _ from k1)]
    exact ⟨zTok, false, [], _, _, M', rfl, rfl, k2⟩
  · rw [clH_1 (show SS.CC 49 [.ptr 0 0] [some [.sl false 5 (A.toks.map tokP), .int .i64 A.line, .int .i64 A.col, .int .i64 A.e]] = _ from finR h), clH_1 (show SS.CC 30 [.ptr 0 0] [some [.sl false 5 (M.full.map tokP), .int .i64 (M.pos : Int), .int .i64 M.line, .int .i64 M.col, .int .i64 M.e]] = _ from peekM h), h30_t]
    unfold RA.finA
    cases hk : A.pk.kind != 4 with
    | true =>
      obtain ⟨M', k1, k2⟩ := failM h 14
      rw [bsel_true, if_pos rfl, clH_1 (show SS.CC 55 [.ptr 0 0, .int .i64 14] [some [.sl false 5 (M.full.map tokP), .int .i64 (M.pos : Int), .int .i64 M.line, .int .i64 M.col, .int .i64 M.e]] = _ from k1), h55_t]
      exact ⟨zTok, false, [], 0, A.fail 14, M', rfl, rfl, k2⟩
    | false =>
      rw [bsel_false, if_neg (by decide)]
      exact ⟨zTok, false, [], 0, A, M, rfl, rfl, h⟩
  · obtain ⟨M', k1, k2⟩ := failM h (IntKind.i64.wrap (BitVec.ofInt 64 (IntKind.i64.wrap lo) &&& BitVec.ofInt 64 15).toNat)
    rw [clH_1 (show SS.CC 50 [.ptr 0 0, .int .i64 (IntKind.i64.wrap (BitVec.ofInt 64 (IntKind.i64.wrap lo) &&& BitVec.ofInt 64 15).toNat)] [some [.sl false 5 (A.toks.map tokP), .int .i64 A.line, .int .i64 A.col, .int .i64 A.e]] = _ from failR h _), clH_1 (show SS.CC 55 [.ptr 0 0, .int .i64 (IntKind.i64.wrap (BitVec.ofInt 64 (IntKind.i64.wrap lo) &&& BitVec.ofInt 64 15).toNat)] [some [.sl false 5 (M.full.map tokP), .int .i64 (M.pos : Int), .int .i64 M.line, .int .i64 M.col, .int .i64 M.e]] = _ from k1), h55_t, h50_t]
    exact ⟨zTok, false, [], 0, _, M', rfl, rfl, k2⟩
  · obtain ⟨M1, k1, k2⟩ := nameM h
    have hsl := name_slen h
    have htk := k2.tk
    have hit := itemR h [] 0 (by simp) (by omega) hsrc
    obtain ⟨A', M', s', n', q1, q2, q3⟩ := listL src hsrc A.nameA.toks.length A.nameA M1 (A.nameS ++ [44]) 1 k2 (Nat.le_refl _) (by rw [List.length_append, List.length_singleton]; omega) (by omega)
    have hR : SS.CC 22 [.ptr 0 0, .func (.func 51) [] [.ptr 1 0, .ptr 2 0, .ptr 3 0]] [some [.sl false 5 (A.toks.map tokP), .int .i64 A.line, .int .i64 A.col, .int .i64 A.e], some [.str ⟨#[]⟩], some [.ptr 0 0], some [.int .i64 0]] = some (.tuple [], [some A'.cells, some [.str (bs s')], some [.ptr 0 0], some [.int .i64 n']]) := by
      rw [g22_eq, clH_1 (show SS.CC 51 [.ptr 0 0, .ptr 1 0, .ptr 2 0] [some [.str ⟨#[]⟩], some [.ptr 3 0], some [.int .i64 0], some [.sl false 5 (A.toks.map tokP), .int .i64 A.line, .int .i64 A.col, .int .i64 A.e]] = _ from hit)]
      exact q1
    rw [clH_1 hR, clH_1 (show SS.CC 56 [.ptr 0 0] [some [.sl false 5 (M.full.map tokP), .int .i64 (M.pos : Int), .int .i64 M.line, .int .i64 M.col, .int .i64 M.e]] = _ from k1),
      h56_t, chk_of (decT (by rw [bs_size]; show _ + 1 ≤ LIM; unfold LIM; omega)), bs_app1]
    exact ⟨zTok, false, s', n', A', M', rfl, q2, q3⟩
end
def encK (c : CallV) : PV := encC c
theorem reads_loop (src : List UInt8) (hsrc : src.length ≤ 1000) (cs : List CallV) (hcs : cs.length ≤ 1000) : ∀ (m k : Nat) (A : RA) (M : MA), k + m = cs.length → Sim src A M →
    g10_L6 (cs.map encC) (A.toks.map tokP) A.line A.col A.e (M.full.map tokP) (M.pos : Int) M.line M.col M.e (k : Int) = Ret (.bool true) := by
  intro m
  induction m with
  | zero =>
    intro k A M hk h
    rw [g10_L6_eq, decF (by rw [List.length_map]; omega), bsel_false]
  | succ m ih =>
    intro k A M hk h
    have hc : (cs.map encC)[((k : Int)).toNat]? = some (encC cs[k]) := by rw [Int.toNat_natCast, List.getElem?_map, List.getElem?_eq_getElem (by omega)]; rfl
    have hl : ∀ {K : PV → R}, lgetX (cs.map encC) (k : Int) K = K (encC cs[k]) := fun {K} => lgetX_of (by omega) hc
    have hx : cs[k].text = bs cs[k].text.data.toList := (bs_data _).symm
    rw [g10_L6_eq, decT (by rw [List.length_map]; omega), bsel_true]
    simp only [hl, encC, v40_mk]
    by_cases h20 : 20 < cs[k].text.size
    · rw [decT (by omega), bsel_true]
    · rw [decF (by omega), bsel_false]
      obtain ⟨t, b, s, n, A1, M1, q1, q2, q3⟩ := callP hsrc h (cs[k].kind.toNat : Int) cs[k].text.data.toList cs[k].low cs[k].high
      rw [bs_data] at q1 q2
      rw [clH_1 (show SS.CC 25 _ [some [.sl false 5 (A.toks.map tokP), .int .i64 A.line, .int .i64 A.col, .int .i64 A.e]] = _ from q1), h25_t]
      try simp only [hl, encC, v40_mk]
      rw [clH_1 (show SS.CC 28 _ [some [.sl false 5 (M.full.map tokP), .int .i64 (M.pos : Int), .int .i64 M.line, .int .i64 M.col, .int .i64 M.e]] = _ from q2), h28_t]
      try simp only [BEq.rfl, Bool.and_self, Bool.not_true, bsel_false]
      rw [clH_1 (show SS.CC 29 [.ptr 0 0] [some [.sl false 5 (A1.toks.map tokP), .int .i64 A1.line, .int .i64 A1.col, .int .i64 A1.e]] = _ from peekR q3), h29_t, clH_1 (show SS.CC 30 [.ptr 0 0] [some [.sl false 5 (M1.full.map tokP), .int .i64 (M1.pos : Int), .int .i64 M1.line, .int .i64 M1.col, .int .i64 M1.e]] = _ from peekM q3), h30_t]
      try simp only [BEq.rfl, Bool.and_self, Bool.not_true, bsel_false]
      have hR := errR A1
      have hgo := ih (k + 1) A1 M1 (by omega) q3
      have he := q3.e
      rw [clH_1 (show SS.CC 24 [.ptr 0 0] [some [.sl false 5 (A1.toks.map tokP), .int .i64 A1.line, .int .i64 A1.col, .int .i64 A1.e]] = _ from hR), h24_t]
      simp only [wrs (show k < 1000000000000000 by omega)]
      rw [← he] at hgo ⊢
      rw [show (A1.e != A1.e) = false by simp, bsel_false]
      by_cases h0 : A1.e = 0
      · rw [show (A1.e == 0) = true by simp [h0], show (A1.e != 0) = false by simp [h0], bsel_true, if_pos rfl, if_pos rfl, show (IntKind.i64.wrap (0 + 0) != 0) = false from rfl, bsel_false, bsel_false]
        exact hgo
      · obtain ⟨r1, r2⟩ := q3.er h0
        rw [show (A1.e == 0) = false by simp [h0], show (A1.e != 0) = true by simp [bne_iff_ne, h0], bsel_false, if_neg (by decide), if_neg (by decide), bsel_true, r1, r2, show (M1.line != M1.line) = false by simp, show (M1.col != M1.col) = false by simp, bsel_false, bsel_false]
        rw [r1, r2] at hgo
        exact hgo
/-! ### words are no minus signs -/
theorem read_word {b : UInt8} {r : List UInt8} (h : (readS (b :: r)).2 = 0) (hk : (readS (b :: r)).1.kind = 1) : (readS (b :: r)).1.text ≠ [45] := by
  rw [show readS (b :: r) = if isDig b.toNat then numberS (b :: r) else if isLet b.toNat then wordS (b :: r) else symbolS (b :: r) from rfl] at h hk ⊢
  split
  · rename_i hd
    intro e
    simp only [hd, if_true] at h hk
    unfold numberS at h hk
    split at h
    · cases h
    · rename_i c1
      rw [if_neg c1] at hk
      split at h
      · cases h
      · rename_i c2
        rw [if_neg c2] at hk
        split at h
        · cases h
        · rename_i n hn
          rw [hn] at hk
          exact absurd hk (by show ¬ (2 : Int) = 1; decide)
  · rename_i hd
    simp only [hd] at h hk
    split
    · rename_i hw
      simp only [hw, if_true] at h
      unfold wordS at h ⊢
      by_cases c : 32 < (runS isW (b :: r)).length
      · simp [c] at h
      · simp only [if_neg c]
        have : runS isW (b :: r) = b :: runS isW r := by unfold runS; rw [List.takeWhile_cons, show isW b.toNat = true by simp [isW, hw]]; rfl
        rw [this]
        intro e
        injection e with e1 _
        subst e1
        revert hw; decide
    · rename_i hw
      intro e
      simp only [hw] at h hk
      unfold symbolS at h hk
      cases hs : symOf (b :: r) with
      | none => simp [hs] at h
      | some x => rw [hs] at hk; exact absurd hk (by show ¬ (3 : Int) = 1; decide)
theorem scan_words : ∀ (f : Nat) (rest : List UInt8) (i line start : Nat) (acc ts : List Tok), scanS f rest i line start acc = .ok ts → (∀ t, t ∈ acc → t.kind = 1 → t.text ≠ [45]) → ∀ t, t ∈ ts → t.kind = 1 → t.text ≠ [45]
  | 0, _, _, _, _, _, _, h, _ => by cases h
  | f + 1, rest, i, line, start, acc, ts, h, ha => by
    unfold scanS at h
    simp only at h
    split at h
    · injection h with h
      subst h
      intro t ht hk
      rcases List.mem_append.1 ht with ht | ht
      · exact ha t ht hk
      · simp at ht; subst ht; exact absurd hk (by show ¬ (4 : Int) = 1; decide)
    · rename_i b r hcons
      split at h
      · rename_i h0
        refine scan_words f _ _ _ _ _ ts h fun t ht hk => ?_
        rcases List.mem_append.1 ht with ht | ht
        · exact ha t ht hk
        · simp only [List.mem_singleton] at ht; subst ht; exact read_word h0 hk
      · cases h
theorem pl_cnt {full : List UInt8} : ∀ {ts : List Tok} {i : Nat}, PlL full i ts → i + ts.length ≤ full.length + 1
  | [], _, h => h.elim
  | t :: ts, i, h => by
    rcases h with ⟨rfl, _, _, h, _⟩ | ⟨_, o, h1, h2, _, _, _, _, h⟩
    · simp; omega
    · have := pl_cnt h; rw [List.length_cons]; omega
/-- LexerReads says true. -/
theorem c10 (full : List UInt8) (cs : List CallV) : SS.CC 10 [.str (bs full), .sl false 4 (cs.map encC)] [] = Ret (.bool true) := by
  have h11 : SS.CC 11 [] [] = Ret (.bool true) := by rw [CC_eq SS_ok]; rfl
  have hk : ∀ {K : PV → R}, clX SS.CC 11 [] K = K (.bool true) := fun {K} => clX_of h11
  rw [g10_eq, hk, vB_mk, Bool.not_true, bsel_false, bs_size, List.length_map]
  by_cases h3 : 200 < full.length
  · rw [decT (by omega), bsel_true, hk, vB_mk]
  · rw [decF (by omega), bsel_false]
    by_cases h4 : 20 < cs.length
    · rw [decT (by omega), bsel_true, hk, vB_mk]
    · rw [decF (by omega), bsel_false, clH_1 (newR full)]
      have hM := newM full (by omega)
      have hsc : scanT full = scanS (full.length + 1) full 0 1 0 [] := by unfold scanT; rw [if_neg (by omega)]
      cases hs : scanT full with
      | err a b e =>
        rw [hs] at hM
        have he : e ≠ 0 := scan_err _ _ _ _ _ _ (by omega) (hsc ▸ hs)
        have := reads_loop full (by omega) cs (by omega) cs.length 0 ⟨[], a, b, e⟩ ⟨[], 0, a, b, e⟩ (by omega) ⟨rfl, fun h => absurd h he, fun _ => ⟨rfl, rfl⟩, by simp, by simp, by simp⟩
        show h26_0 (.ptr 0 0) [some (RA.cells ⟨[], a, b, e⟩)] _ = _
        simp only [RA.cells, h26_0_mk, clH_1 hM, MA.cells, h27_0_mk]
        exact this
      | ok ts =>
        rw [hs] at hM
        obtain ⟨ts', e1, hpl⟩ := scan_pl full (full.length + 1) full 0 [] ts (hsc ▸ hs) rfl (Nat.zero_le _)
        rw [List.nil_append] at e1; subst e1
        have hc := pl_cnt hpl
        have := reads_loop full (by omega) cs (by omega) cs.length 0 ⟨ts, 0, 0, 0⟩ ⟨ts, 0, 0, 0, 0⟩ (by omega) ⟨rfl, fun _ => ⟨rfl, ⟨0, hpl⟩, scan_words _ _ _ _ _ _ _ (hsc ▸ hs) (by simp)⟩, fun h => absurd rfl h, by show ts.length ≤ _; omega, by simp, by show ts.length ≤ _; omega⟩
        show h26_0 (.ptr 0 0) [some (RA.cells ⟨ts, 0, 0, 0⟩)] _ = _
        simp only [RA.cells, h26_0_mk, clH_1 hM, MA.cells, h27_0_mk]
        exact this
theorem c10s (s : ByteArray) (cs : List CallV) : SS.CC 10 [.str s, .sl false 4 (cs.map encC)] [] = Ret (.bool true) := by
  have := c10 s.data.toList cs
  rwa [bs_data] at this
theorem ev10 (s : ByteArray) (cs : List CallV) : Ev Try.prog 10 [.str s, .sl false 4 (cs.map encC)] [] (.bool true) [] :=
  CC_sound mixed16 SS_ok CV_ok 10 _ [] _ [] (c10s s cs)
end Go.Proofs.Ytoajpgclgdhhlaa.V

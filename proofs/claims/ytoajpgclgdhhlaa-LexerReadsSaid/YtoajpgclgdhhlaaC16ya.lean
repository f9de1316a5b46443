/-
  The reader and its model, side by side.
-/
import Derived.Test.YtoajpgclgdhhlaaV16a
import Derived.Test.YtoajpgclgdhhlaaV16b
namespace Go.Proofs.Ytoajpgclgdhhlaa.V
set_option linter.unusedVariables false
set_option linter.unusedSimpArgs false
set_option linter.unnecessarySimpa false
set_option linter.unusedSectionVars false
open Go.RowKit
set_option maxRecDepth 1000000
theorem clH_1 {C : Cal} {g : FuncId} {args : List PV} {h : Objs} {K : PV → Objs → R} {r : PV} {h' : Objs} (e : C g args h = some (r, h')) : clH C g args h K = K r h' := by unfold clH; rw [e]
theorem v29_tok (t : Tok) (K : Int → ByteArray → Int → Int → Int → R) : v29 (tokP t) K = K t.kind (bs t.text) t.value t.line t.col := rfl
structure RA where
  toks : List Tok
  line : Int
  col : Int
  e : Int
def RA.cells (A : RA) : List PV := [.sl false 5 (A.toks.map tokP), .int .i64 A.line, .int .i64 A.col, .int .i64 A.e]
structure MA where
  full : List Tok
  pos : Nat
  line : Int
  col : Int
  e : Int
def MA.cells (M : MA) : List PV := [.sl false 5 (M.full.map tokP), .int .i64 (M.pos : Int), .int .i64 M.line, .int .i64 M.col, .int .i64 M.e]
/-- The tokens that are left. -/
def Left (src : List UInt8) (ts : List Tok) : Prop := (∃ i, PlL src i ts) ∧ ∀ t, t ∈ ts → t.kind = 1 → t.text ≠ [45]
structure Sim (src : List UInt8) (A : RA) (M : MA) : Prop where
  e : A.e = M.e
  ok : A.e = 0 → A.toks = M.full.drop M.pos ∧ Left src A.toks
  er : A.e ≠ 0 → A.line = M.line ∧ A.col = M.col
  sz : M.full.length ≤ 1000000
  ps : M.pos ≤ M.full.length
  tk : A.toks.length ≤ 900
def endT (A : RA) : Tok := ⟨4, [], 0, A.line, A.col⟩
/-- The next token. -/
def RA.pk (A : RA) : Tok := if (A.e != 0) = true then endT A else A.toks.headD (endT A)
theorem Sim.ne {src : List UInt8} {A : RA} {M : MA} (h : Sim src A M) (he : A.e = 0) : ∃ t tl, A.toks = t :: tl := by
  obtain ⟨_, ⟨i, hp⟩, _⟩ := h.ok he
  match hA : A.toks with
  | [] => rw [hA] at hp; exact hp.elim
  | t :: tl => exact ⟨t, tl, rfl⟩
theorem peekR {src : List UInt8} {A : RA} {M : MA} (h : Sim src A M) : SS.CC 29 [.ptr 0 0] [some A.cells] = some (tokP A.pk, [some A.cells]) := by
  unfold RA.cells
  rw [g29_eq]
  unfold RA.pk
  by_cases he : A.e = 0
  · obtain ⟨t, tl, ht⟩ := h.ne he
    rw [show (A.e != 0) = false by simp [he], bsel_false, ht, List.map_cons, lgetX_of (e := tokP t) (Int.le_refl _) rfl, v29_tok]
    rfl
  · rw [show (A.e != 0) = true by simp [bne_iff_ne, he], bsel_true]; rfl
theorem peekM {src : List UInt8} {A : RA} {M : MA} (h : Sim src A M) : SS.CC 30 [.ptr 0 0] [some M.cells] = some (tokP A.pk, [some M.cells]) := by
  unfold MA.cells
  rw [g30_eq, ← h.e]
  unfold RA.pk
  by_cases he : A.e = 0
  · obtain ⟨t, tl, ht⟩ := h.ne he
    have hg : M.full[M.pos]? = some t := by
      have := (h.ok he).1
      rw [ht] at this
      have := congrArg (fun l => l[0]?) this.symm
      simpa using this
    rw [show (A.e != 0) = false by simp [he], bsel_false, ht, lgetX_of (e := tokP t) (by omega) (by rw [Int.toNat_natCast, List.getElem?_map, hg]; rfl), v29_tok]
    rfl
  · obtain ⟨h1, h2⟩ := h.er he
    rw [show (A.e != 0) = true by simp [bne_iff_ne, he], bsel_true, ← h1, ← h2]; rfl
def RA.next (A : RA) : RA := if (A.e == 0 && A.pk.kind != 4) = true then { A with toks := A.toks.drop 1 } else A
theorem h29_t (t : Tok) (A : RA) (K : Int → ByteArray → Int → Int → Int → List PV → Int → Int → Int → R) : h29_0 (tokP t) [some A.cells] K = K t.kind (bs t.text) t.value t.line t.col (A.toks.map tokP) A.line A.col A.e := rfl
theorem h30_t (t : Tok) (M : MA) (K : Int → ByteArray → Int → Int → Int → List PV → Int → Int → Int → Int → R) : h30_0 (tokP t) [some M.cells] K = K t.kind (bs t.text) t.value t.line t.col (M.full.map tokP) (M.pos : Int) M.line M.col M.e := rfl
theorem nextR {src : List UInt8} {A : RA} {M : MA} (h : Sim src A M) : SS.CC 44 [.ptr 0 0] [some A.cells] = some (tokP A.pk, [some A.next.cells]) := by
  have e0 : SS.CC 44 [.ptr 0 0] [some A.cells] = _ := g44_eq _ _ _ _
  rw [e0, clH_1 (show SS.CC 29 [.ptr 0 0] [some [.sl false 5 (A.toks.map tokP), .int .i64 A.line, .int .i64 A.col, .int .i64 A.e]] = _ from peekR h), h29_t]
  unfold RA.next
  by_cases he : A.e = 0
  · obtain ⟨t, tl, ht⟩ := h.ne he
    rw [show (A.e == 0) = true by simp [he], bsel_true, Bool.true_and]
    cases hk : A.pk.kind != 4 with
    | true =>
      rw [bsel_true, chk_of (by rw [ht, List.length_map, List.length_cons]; simp <;> omega), if_pos rfl]
      unfold RA.cells
      rw [List.map_drop]; rfl
    | false => rw [bsel_false]; rfl
  · rw [show (A.e == 0) = false by simp [he], bsel_false]; rfl
theorem nextM {src : List UInt8} {A : RA} {M : MA} (h : Sim src A M) : ∃ M', SS.CC 52 [.ptr 0 0] [some M.cells] = some (tokP A.pk, [some M'.cells]) ∧ Sim src A.next M' := by
  have e0 : SS.CC 52 [.ptr 0 0] [some M.cells] = _ := g52_eq _ _ _ _ _
  rw [e0, clH_1 (show SS.CC 30 [.ptr 0 0] [some [.sl false 5 (M.full.map tokP), .int .i64 (M.pos : Int), .int .i64 M.line, .int .i64 M.col, .int .i64 M.e]] = _ from peekM h), h30_t]
  unfold RA.next
  by_cases he : A.e = 0
  · obtain ⟨t, tl, ht⟩ := h.ne he
    obtain ⟨h1, ⟨i, hp⟩, hw⟩ := h.ok he
    have hlt : M.pos < M.full.length := by
      rcases Nat.lt_or_ge M.pos M.full.length with h' | h'
      · exact h'
      · rw [List.drop_eq_nil_of_le h', ht] at h1; cases h1
    have hsz := h.sz
    rw [show (A.e == 0) = true by simp [he], Bool.true_and]
    cases hk : A.pk.kind != 4 with
    | true =>
      rw [bsel_true, if_pos rfl]
      refine ⟨{ M with pos := M.pos + 1 }, ?_, ⟨h.e, fun _ => ⟨?_, ?_, ?_⟩, fun hn => absurd he hn, h.sz, hlt, Nat.le_trans (by show (A.toks.drop 1).length ≤ _; rw [List.length_drop]; omega) h.tk⟩⟩
      · unfold MA.cells
        rw [wrs (by omega)]; rfl
      · show A.toks.drop 1 = M.full.drop (M.pos + 1)
        rw [h1, List.drop_drop]
      · rw [ht] at hp ⊢
        have hpk : A.pk = t := by unfold RA.pk; rw [show (A.e != 0) = false by simp [he], if_neg (by decide), ht]; rfl
        rw [hpk] at hk
        rcases hp with ⟨_, h4, _⟩ | ⟨_, o, _, _, _, _, _, _, hp⟩
        · rw [h4] at hk; cases hk
        · exact ⟨_, hp⟩
      · exact fun x hx => hw x (List.mem_of_mem_drop hx)
    | false =>
      rw [bsel_false, if_neg (by decide)]
      exact ⟨M, rfl, h⟩
  · have hpk : A.pk.kind = 4 := by unfold RA.pk; rw [show (A.e != 0) = true by simp [bne_iff_ne, he], if_pos rfl]; rfl
    have hk4 : (A.pk.kind != 4) = false := by rw [hpk]; rfl
    rw [hk4, bsel_false, Bool.and_false, if_neg (by decide)]
    exact ⟨M, rfl, h⟩
/-! ### Is, Take, Error -/
def RA.is (A : RA) (x : List UInt8) : Bool := (A.pk.kind == 1 || A.pk.kind == 3) && A.pk.text == x
theorem isR {src : List UInt8} {A : RA} {M : MA} (h : Sim src A M) (x : List UInt8) : SS.CC 45 [.ptr 0 0, .str (bs x)] [some A.cells] = some (.bool (A.is x), [some A.cells]) := by
  have e0 : SS.CC 45 [.ptr 0 0, .str (bs x)] [some A.cells] = _ := g45_eq _ _ _ _ _
  rw [e0, clH_1 (show SS.CC 29 [.ptr 0 0] [some [.sl false 5 (A.toks.map tokP), .int .i64 A.line, .int .i64 A.col, .int .i64 A.e]] = _ from peekR h), h29_t, bs_toList, bs_toList]
  unfold RA.is
  cases A.pk.kind == 1 <;> cases A.pk.kind == 3 <;> rfl
theorem isM {src : List UInt8} {A : RA} {M : MA} (h : Sim src A M) (x : List UInt8) : SS.CC 53 [.ptr 0 0, .str (bs x)] [some M.cells] = some (.bool (A.is x), [some M.cells]) := by
  have e0 : SS.CC 53 [.ptr 0 0, .str (bs x)] [some M.cells] = _ := g53_eq _ _ _ _ _ _
  rw [e0, clH_1 (show SS.CC 30 [.ptr 0 0] [some [.sl false 5 (M.full.map tokP), .int .i64 (M.pos : Int), .int .i64 M.line, .int .i64 M.col, .int .i64 M.e]] = _ from peekM h), h30_t, bs_toList, bs_toList]
  unfold RA.is
  cases A.pk.kind == 1 <;> cases A.pk.kind == 3 <;> rfl
def RA.take (A : RA) (x : List UInt8) : RA := if A.is x = true then A.next else A
theorem h45_t (b : Bool) (A : RA) (K : Bool → List PV → Int → Int → Int → R) : h45_0 (.bool b) [some A.cells] K = K b (A.toks.map tokP) A.line A.col A.e := rfl
theorem h53_t (b : Bool) (M : MA) (K : Bool → List PV → Int → Int → Int → Int → R) : h53_0 (.bool b) [some M.cells] K = K b (M.full.map tokP) (M.pos : Int) M.line M.col M.e := rfl
theorem h44_t (t : Tok) (A : RA) (K : Int → ByteArray → Int → Int → Int → List PV → Int → Int → Int → R) : h44_0 (tokP t) [some A.cells] K = K t.kind (bs t.text) t.value t.line t.col (A.toks.map tokP) A.line A.col A.e := rfl
theorem h52_t (t : Tok) (M : MA) (K : Int → ByteArray → Int → Int → Int → List PV → Int → Int → Int → Int → R) : h52_0 (tokP t) [some M.cells] K = K t.kind (bs t.text) t.value t.line t.col (M.full.map tokP) (M.pos : Int) M.line M.col M.e := rfl
theorem takeR {src : List UInt8} {A : RA} {M : MA} (h : Sim src A M) (x : List UInt8) : SS.CC 43 [.ptr 0 0, .str (bs x)] [some A.cells] = some (.bool (A.is x), [some (A.take x).cells]) := by
  have e0 : SS.CC 43 [.ptr 0 0, .str (bs x)] [some A.cells] = _ := g43_eq _ _ _ _ _
  rw [e0, clH_1 (show SS.CC 45 [.ptr 0 0, .str (bs x)] [some [.sl false 5 (A.toks.map tokP), .int .i64 A.line, .int .i64 A.col, .int .i64 A.e]] = _ from isR h x), h45_t]
  unfold RA.take
  cases hb : A.is x with
  | true =>
    rw [bsel_true, clH_1 (show SS.CC 44 [.ptr 0 0] [some [.sl false 5 (A.toks.map tokP), .int .i64 A.line, .int .i64 A.col, .int .i64 A.e]] = _ from nextR h), h44_t, if_pos rfl]; rfl
  | false => rw [bsel_false, if_neg (by decide)]; rfl
theorem takeM {src : List UInt8} {A : RA} {M : MA} (h : Sim src A M) (x : List UInt8) : ∃ M', SS.CC 54 [.ptr 0 0, .str (bs x)] [some M.cells] = some (.bool (A.is x), [some M'.cells]) ∧ Sim src (A.take x) M' := by
  have e0 : SS.CC 54 [.ptr 0 0, .str (bs x)] [some M.cells] = _ := g54_eq _ _ _ _ _ _
  rw [e0, clH_1 (show SS.CC 53 [.ptr 0 0, .str (bs x)] [some [.sl false 5 (M.full.map tokP), .int .i64 (M.pos : Int), .int .i64 M.line, .int .i64 M.col, .int .i64 M.e]] = _ from isM h x), h53_t]
  unfold RA.take
  cases hb : A.is x with
  | true =>
    obtain ⟨M', k1, k2⟩ := nextM h
    rw [bsel_true, clH_1 (show SS.CC 52 [.ptr 0 0] [some [.sl false 5 (M.full.map tokP), .int .i64 (M.pos : Int), .int .i64 M.line, .int .i64 M.col, .int .i64 M.e]] = _ from k1), h52_t, if_pos rfl]
    exact ⟨M', rfl, k2⟩
  | false =>
    rw [bsel_false, if_neg (by decide)]
    exact ⟨M, rfl, h⟩
theorem errR (A : RA) : SS.CC 24 [.ptr 0 0] [some A.cells] = some (.tuple [.int .i64 (if (A.e == 0) = true then 0 else A.line), .int .i64 (if (A.e == 0) = true then 0 else A.col), .int .i64 A.e], [some A.cells]) := by
  have e0 : SS.CC 24 [.ptr 0 0] [some A.cells] = _ := g24_eq _ _ _ _
  rw [e0]
  cases hb : A.e == 0 with
  | true =>
    have : A.e = 0 := by simpa using hb
    rw [bsel_true, this]
    unfold RA.cells
    rw [this]; rfl
  | false => rfl
/-! ### New and start -/
theorem newR (full : List UInt8) : SS.CC 26 [.str (bs full)] [] = some (.ptr 0 0, [some (match scanT full with | .ok ts => RA.cells ⟨ts, 0, 0, 0⟩ | .err a b e => RA.cells ⟨[], a, b, e⟩)]) := by
  have h12 : SS.CC 12 [.str (bs full)] [] = Ret (scanP (scanT full)) := by
    rw [CC_eq SS_ok]; rfl
  rw [g26_eq, clX_of h12]
  cases scanT full <;> rfl
theorem newM (full : List UInt8) (hf : full.length ≤ 1000000) : SS.CC 27 [.str (bs full)] [] = some (.ptr 0 0, [some (match scanT full with | .ok ts => MA.cells ⟨ts, 0, 0, 0, 0⟩ | .err a b e => MA.cells ⟨[], 0, a, b, e⟩)]) := by
  have h20 : SS.CC 20 [.str (bs full)] [] = Ret (scanP (scanT full)) := by
    rw [CC_eq SS_ok]
    have e : SS.C0 20 [.str (bs full)] [] = Ret (scanP (scanT full)) := by
      show (match Nat.ble (bs full).size 1000000 with | true => some (scanP (scanT (bs full).data.toList), []) | false => none) = _
      rw [bs_size, show Nat.ble full.length 1000000 = true by rw [Nat.ble_eq]; exact hf]
      simp [bs]
    rw [e]; rfl
  rw [g27_eq, clX_of h20]
  cases scanT full <;> rfl
end Go.Proofs.Ytoajpgclgdhhlaa.V

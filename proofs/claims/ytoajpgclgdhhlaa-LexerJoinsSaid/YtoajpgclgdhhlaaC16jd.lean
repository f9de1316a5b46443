/-
  Pretty, and the contract of LexerJoins.
-/
import Derived.Test.YtoajpgclgdhhlaaC16jc
import Derived.Test.YtoajpgclgdhhlaaO16
namespace Go.Proofs.Ytoajpgclgdhhlaa.W
set_option linter.unusedVariables false
set_option linter.unusedSimpArgs false
set_option linter.unnecessarySimpa false
set_option linter.unusedSectionVars false
open Go.RowKit Go.Shelf
set_option maxRecDepth 1000000
theorem m67 (y : List UInt8) : SS.CC 67 [.ptr 0 0] [some [.bld 68 0, .slT y]] = some (.tuple [], [some [.bld 68 0, .slT y]]) := by
  rw [CC_eq SS_ok]; rfl
theorem m40 (y : List UInt8) : SS.CC 40 [.ptr 0 0] [some [.bld 68 0, .slT y]] = some (.str (bs y), [some [.bld 68 0, .sl false 1 (bytesPV y)]]) := by
  rw [CC_eq SS_ok]; rfl
theorem m39 (op : Nat) (h : op ≤ 1000) : SS.CC 39 [.str ⟨#[32, 32]⟩, .int .i64 (op : Int)] [] = Ret (.str (bs (Lib.repeatL [32, 32] op))) := by
  rw [CC_eq SS_ok]
  have e : SS.C0 39 [.str ⟨#[32, 32]⟩, .int .i64 (op : Int)] [] = Ret (.str (bs (Lib.repeatL [32, 32] op))) := by
    show (match decide ((0 : Int) ≤ (op : Int)) && (Nat.ble ((op : Int)).toNat 9223372036854775807 && Nat.ble ((⟨#[32, 32]⟩ : ByteArray).size * ((op : Int)).toNat) 140737488355328) with
      | true => some (PV.str ⟨(Lib.repeatL (⟨#[32, 32]⟩ : ByteArray).data.toList ((op : Int)).toNat).toArray⟩, [])
      | false => none) = _
    rw [decT (by omega), Int.toNat_natCast]
    have h1 : Nat.ble op 9223372036854775807 = true := by rw [Nat.ble_eq]; omega
    have h2 : Nat.ble ((⟨#[32, 32]⟩ : ByteArray).size * op) 140737488355328 = true := by rw [Nat.ble_eq]; show 2 * op ≤ _; omega
    rw [h1, h2]; rfl
  rw [e]; rfl
theorem m38 (s y : List UInt8) (h : y.length + s.length ≤ LIM) : SS.CC 38 [.ptr 0 0, .str (bs s)] [some [.bld 68 0, .slT y]] = some (.tuple [.int .i64 (s.length : Int), .raw .nilIface], [some [.bld 68 0, .slT (y ++ s)]]) := by
  rw [g38_eq, clH_1 (m67 y), h67_0_mk, chk_of (decT (by rw [bs_size]; exact h)), bs_size]
  simp [bs]
theorem m37 (c : UInt8) (y : List UInt8) (h : y.length + 1 ≤ LIM) : SS.CC 37 [.ptr 0 0, .int .u8 (c.toNat : Int)] [some [.bld 68 0, .slT y]] = some (.raw .nilIface, [some [.bld 68 0, .slT (y ++ [c])]]) := by
  have hc : c.toNat < 256 := c.toNat_lt
  rw [g37_eq, clH_1 (m67 y), h67_0_mk, decT h, decT (by omega), decT (by omega), chk_of (b := true && true && true) rfl, Int.toNat_natCast, UInt8.ofNat_toNat]
theorem m36 (f : Bool) (y : List UInt8) (h : y.length + 1 ≤ LIM) : SS.CC 36 [.ptr 0 0, .ptr 1 0] [some [.bool f], some [.bld 68 1, .slT y]] = some (.tuple [], [some [.bool true], some [.bld 68 1, .slT (if f = true then y else y ++ [10])]]) := by
  rw [g36_eq]
  cases f with
  | true => rfl
  | false =>
    have := m37 10 y h
    rw [show ((10 : UInt8).toNat : Int) = 10 from rfl] at this
    rw [Bool.not_false, bsel_true, clH_1 this, h37_0_mk]; rfl
/-- Behind the blanks: the token's text, and the line's end. -/
theorem tail15 (b : List Tok) (t : Tok) (f : Bool) (out line : List UInt8) (op k : Nat) (hop : op ≤ 1000) (hk : k ≤ 1000) (hsz : out.length + line.length ≤ 1000000) (ht : t.text.length ≤ 40) :
    g15_J19 (b.map tokP) (out ++ line) f t.kind (bs t.text) t.value t.line t.col (op : Int) (k : Int) =
      if (t.text == [123] || (t.text == [59] || t.text == [125])) = true then g15_L10 (b.map tokP) ((if (t.text == [123]) = true then op + 1 else op : Nat) : Int) (bs t.text) ((k + 1 : Nat) : Int) (out ++ (line ++ t.text) ++ [10]) true
      else g15_L10 (b.map tokP) ((if (t.text == [123]) = true then op + 1 else op : Nat) : Int) (bs t.text) ((k + 1 : Nat) : Int) (out ++ (line ++ t.text)) false := by
  have h36 := m36 false (out ++ line ++ t.text) (by rw [List.length_append, List.length_append]; unfold LIM; omega)
  rw [g15_J19_eq, clH_1 (m38 t.text (out ++ line) (by rw [List.length_append]; unfold LIM; omega)), h38_0_mk]
  simp only [bs_toList, bsE, clH_1 h36, h36_0_mk]
  rw [wrs (k := op) (by omega), wrs (k := k) (by omega), List.append_assoc out line]
  cases h1 : t.text == [123] with
  | true => simp only [bsel_true, Bool.true_or, if_true, Bool.false_eq_true, if_false]
  | false =>
    cases h2 : t.text == [59] with
    | true =>
      cases h3 : t.text == [125] <;> simp only [bsel_true, bsel_false, Bool.true_or, Bool.false_or, if_true, Bool.false_eq_true, if_false]
    | false =>
      cases h3 : t.text == [125] with
      | true => simp only [bsel_true, bsel_false, Bool.false_or, if_true, Bool.false_eq_true, if_false]
      | false => simp only [bsel_false, Bool.false_or, Bool.false_eq_true, if_false]
theorem m15L (b : List Tok) (h : Few b) (hne : ∀ t, t ∈ b → t.text ≠ []) : ∀ (m k : Nat) (out line : List UInt8) (op : Nat) (before : List UInt8), k + m = b.length → op ≤ k → out.length + line.length ≤ k * 1000 →
    g15_L10 (b.map tokP) (op : Int) (bs before) (k : Int) (out ++ line) (line == []) = Ret (prP (prS (b.drop k) out line op before)) := by
  have hb := h.1
  intro m
  induction m with
  | zero =>
    intro k out line op before hk hop hsz
    rw [g15_L10_eq, decF (by rw [List.length_map]; omega), bsel_false, List.drop_eq_nil_of_le (by omega), prS, clH_1 (m36 _ _ (by rw [List.length_append]; unfold LIM; omega)), h36_0_mk, clH_1 (m40 _), h40_0_mk]
    cases hl : line == [] with
    | true =>
      have : line = [] := by simpa using hl
      subst this
      simp only [if_true, List.append_nil]; rfl
    | false => rfl
  | succ m ih =>
    intro k out line op before hk hop hsz
    have hkl : k < b.length := by omega
    have h1 : b[k]? = some b[k] := List.getElem?_eq_getElem hkl
    have ht := h.2 b[k] (List.getElem_mem _)
    have htn := hne b[k] (List.getElem_mem _)
    rw [List.drop_eq_getElem_cons hkl, prS]
    generalize htk : b[k] = t at *
    have hJ : ∀ (out1 line1 : List UInt8), out1.length + line1.length ≤ k * 1000 + 1 → ∀ (op1 : Nat), op1 ≤ op → ∀ line2, line2 = (if (line1 == []) = true then Lib.repeatL [32, 32] op1 else if (!(t.text == [44]) && (!(t.text == [59]) && (!(t.text == [41]) && !(before == [40])))) = true then line1 ++ [32] else line1) →
        g15_J15 (b.map tokP) (out1 ++ line1) (line1 == []) t.kind (bs t.text) t.value t.line t.col (op1 : Int) (bs before) (k : Int) = Ret (prP (if (t.text == [123] || (t.text == [59] || t.text == [125])) = true then prS (b.drop (k + 1)) (out1 ++ (line2 ++ t.text) ++ [10]) [] (if (t.text == [123]) = true then op1 + 1 else op1) t.text else prS (b.drop (k + 1)) out1 (line2 ++ t.text) (if (t.text == [123]) = true then op1 + 1 else op1) t.text)) := by
      intro out1 line1 hs1 op1 hop1 line2 hl2
      have hr := Lib.repeatL_length [32, 32] op1
      simp only [List.length_cons, List.length_nil] at hr
      have e15 : ∃ f, g15_J15 (b.map tokP) (out1 ++ line1) (line1 == []) t.kind (bs t.text) t.value t.line t.col (op1 : Int) (bs before) (k : Int) = g15_J19 (b.map tokP) (out1 ++ line2) f t.kind (bs t.text) t.value t.line t.col (op1 : Int) (k : Int) := by
        refine ⟨line1 == [], ?_⟩
        have h37 := m37 32 (out1 ++ line1) (by rw [List.length_append]; unfold LIM; omega)
        rw [g15_J15_eq]
        simp only [bs_toList, bsE]
        rw [show ((32 : UInt8).toNat : Int) = 32 from rfl] at h37
        simp only [clH_1 h37, h37_0_mk]
        cases hl : line1 == [] with
        | true =>
          rw [hl, if_pos rfl] at hl2
          have : line1 = [] := by simpa using hl
          subst this
          rw [bsel_true, clX_of (m39 op1 (by omega)), vS_mk, clH_1 (m38 _ _ (by rw [List.length_append, hr]; unfold LIM; simp only [List.length_nil]; omega)), h38_0_mk, hl2, List.append_nil]
        | false =>
          rw [hl, if_neg (by decide)] at hl2
          rw [bsel_false, hl2]
          cases t.text == [44] <;> cases t.text == [59] <;> cases t.text == [41] <;> cases before == [40] <;> simp only [bsel_true, bsel_false, Bool.not_true, Bool.not_false, Bool.and_self, Bool.and_false, Bool.false_and, Bool.true_and, Bool.and_true, if_true, Bool.false_eq_true, if_false, List.append_assoc]
      obtain ⟨f, e15⟩ := e15
      have hl2l : out1.length + line2.length ≤ k * 1000 + 1 + 100 := by
        subst hl2
        split
        · omega
        · split
          · rw [List.length_append, List.length_singleton]; omega
          · omega
      rw [e15, tail15 b t f out1 line2 op1 k (by omega) (by omega) (by omega) ht]
      have hop2 : (if (t.text == [123]) = true then op1 + 1 else op1) ≤ k + 1 := by split <;> omega
      split
      · have := ih (k + 1) (out1 ++ (line2 ++ t.text) ++ [10]) [] _ t.text (by omega) hop2 (by simp only [List.length_append, List.length_cons, List.length_nil]; omega)
        rw [List.append_nil] at this
        exact this
      · have := ih (k + 1) out1 (line2 ++ t.text) _ t.text (by omega) hop2 (by simp only [List.length_append]; omega)
        have e : (line2 ++ t.text == []) = false := by
          rw [beq_eq_false_iff_ne]
          intro e
          exact htn (List.append_eq_nil_iff.1 e).2
        rw [e] at this
        exact this
    rw [g15_L10_eq, decT (by rw [List.length_map]; omega), bsel_true, lget_tok h1, v29_tok, bs_toList, bsE, clH_1 (m36 _ _ (by rw [List.length_append]; unfold LIM; omega)), h36_0_mk]
    cases h5 : t.text == [125] with
    | true =>
      have eop : (if (0 : Int) > IntKind.i64.wrap ((op : Int) - 1) then (0 : Int) else IntKind.i64.wrap ((op : Int) - 1)) = ((op - 1 : Nat) : Int) := by
        rw [wrap64 (by omega) (by omega)]
        split <;> omega
      rw [bsel_true, eop]
      cases hl : line == [] with
      | true =>
        have : line = [] := by simpa using hl
        subst this
        have := hJ out [] (by omega) (op - 1) (by omega) _ rfl
        rw [h5] at this
        simpa only [Bool.not_true, Bool.and_false, if_true, Bool.false_eq_true, if_false, hl] using this
      | false =>
        have := hJ (out ++ line ++ [10]) [] (by simp only [List.length_append, List.length_cons, List.length_nil]; omega) (op - 1) (by omega) _ rfl
        rw [h5, List.append_nil] at this
        simpa only [Bool.not_false, Bool.and_self, if_true, Bool.false_eq_true, if_false, show (([] : List UInt8) == []) = true from rfl] using this
    | false =>
      have := hJ out line (by omega) op (by omega) _ rfl
      rw [h5] at this
      rw [bsel_false]
      simpa only [Bool.false_and, Bool.false_eq_true, if_false] using this
theorem pl_ne {full : List UInt8} : ∀ {i : Nat} {ts : List Tok}, PlL full i ts → ∀ t, t ∈ ts → t.kind ≠ 4 → t.text ≠ []
  | _, [], h => h.elim
  | i, t :: ts, h => by
    intro x hx hk
    rcases h with ⟨rfl, h1, _⟩ | ⟨_, o, _, h2, _, _, _, _, h⟩
    · simp at hx; subst hx; exact absurd h1 hk
    · rcases List.mem_cons.1 hx with hx | hx
      · subst hx; intro e; rw [e] at h2; simp at h2
      · exact pl_ne h x hx hk
theorem join_ne {b : List Tok} {s : List UInt8} (h : joinO b = some s) : ∀ t, t ∈ b → t.text ≠ [] := by
  unfold joinO at h
  split at h
  · rename_i m hm
    split at h
    · rename_i ha
      intro t ht
      have e : (bareS m).map Tok.bare = b.map Tok.bare := of_decide_eq_true ha
      have hmem : t.bare ∈ (bareS m).map Tok.bare := by rw [e]; exact List.mem_map_of_mem ht
      obtain ⟨u, hu, hb⟩ := List.mem_map.1 hmem
      obtain ⟨hu1, hu2⟩ := List.mem_filter.1 hu
      have := pl_ne (scanT_pl hm) u hu1 (by simpa [bne_iff_ne] using hu2)
      have e2 : u.text = t.text := congrArg (fun x => x.2.1) hb
      rw [← e2]; exact this
    · cases h
  · cases h
def prO (ts : List Tok) : PV := match joinO (bareS ts) with
  | some _ => prP (prS (bareS ts) [] [] 0 [])
  | none => jP none
theorem m15 (ts : List Tok) (h : Few ts) : SS.CC 15 [.sl false 5 (ts.map tokP)] [] = Ret (prO ts) := by
  have hl := h.1
  rw [g15_eq, clX_of (m14 ts h)]
  unfold prO
  cases hj : joinO (bareS ts) with
  | none => simp only [jP, w_9_3_mk]; rfl
  | some s =>
    simp only [jP, w_9_3_mk]
    rw [show ((0 : Int) != 0) = false from rfl, bsel_false, clX_of (m32 ts (by omega)), vL_mk]
    exact m15L (bareS ts) (few_bare h) (join_ne hj) (bareS ts).length 0 [] [] 0 [] (by omega) (Nat.le_refl _) (by simp)
theorem m17 (ts : List Tok) (h : Few ts) : SS.CC 17 [.sl false 5 (ts.map tokP)] [] = Ret (prO ts) := by
  have hl := h.1
  rw [g17_eq, clX_of (m16 ts h)]
  unfold prO
  cases hj : joinO (bareS ts) with
  | none => simp only [jP, w_9_3_mk]; rfl
  | some s =>
    simp only [jP, w_9_3_mk]
    rw [show ((0 : Int) != 0) = false from rfl, bsel_false, clX_of (m41 ts (by omega)), vL_mk]
    exact m17L (bareS ts) (few_bare h) (bareS ts).length 0 [] [] 0 [] (by omega) (Nat.le_refl _) (by simp)
theorem m13L (ts : List Tok) (hl : ts.length ≤ 1000000000000000 - 1) : ∀ (m k : Nat), k + m = ts.length → (∀ t, t ∈ ts.take k → t.text.length ≤ 40) → g13_L3 (ts.map tokP) (k : Int) = Ret (.bool false) ∨ (g13_L3 (ts.map tokP) (k : Int) = Ret (.bool true) ∧ Few ts) := by
  intro m
  induction m with
  | zero =>
    intro k hk h
    rw [List.take_of_length_le (by omega)] at h
    rw [g13_L3_eq, decF (by rw [List.length_map]; omega), bsel_false, List.length_map]
    by_cases h12 : ts.length ≤ 12
    · right; exact ⟨by rw [decT (by omega)], h12, h⟩
    · left; rw [decF (by omega)]
  | succ m ih =>
    intro k hk h
    have h1 : ts[k]? = some ts[k] := List.getElem?_eq_getElem (by omega)
    rw [g13_L3_eq, decT (by rw [List.length_map]; omega), bsel_true, lget_tok h1, v29_tok, bs_size, wrs (by omega)]
    by_cases h40 : 40 < ts[k].text.length
    · left; rw [decT (by omega), bsel_true]
    · rw [decF (by omega), bsel_false]
      refine ih (k + 1) (by omega) fun t ht => ?_
      rw [List.take_succ_eq_append_getElem (by omega)] at ht
      rcases List.mem_append.1 ht with ht | ht
      · exact h t ht
      · simp only [List.mem_singleton] at ht; subst ht; omega
/-- LexerJoins says true. -/
theorem c4 (ts : List Tok) (hl : ts.length ≤ 1000000000000000 - 1) : SS.CC 4 [.sl false 5 (ts.map tokP)] [] = Ret (.bool true) := by
  have hk : ∀ {K : PV → R}, clX SS.CC 11 [] K = K (.bool true) := fun {K} => clX_of c11
  rw [g4_eq, hk, vB_mk, Bool.not_true, bsel_false]
  have h13 := m13L ts hl ts.length 0 (by omega) (by simp)
  have e13 : SS.CC 13 [.sl false 5 (ts.map tokP)] [] = g13_L3 (ts.map tokP) 0 := g13_eq _
  rcases h13 with h13 | ⟨h13, hf⟩
  · rw [clX_of (e13.trans h13), vB_mk, Bool.not_false, bsel_true, hk, vB_mk]
  · rw [clX_of (e13.trans h13), vB_mk, Bool.not_true, bsel_false, clX_of (m14 ts hf)]
    have h15 : ∀ {K : PV → R}, clX SS.CC 15 [.sl false 5 (ts.map tokP)] K = K (prO ts) := fun {K} => clX_of (m15 ts hf)
    have h16 : ∀ {K : PV → R}, clX SS.CC 16 [.sl false 5 (ts.map tokP)] K = K (jP (joinO (bareS ts))) := fun {K} => clX_of (m16 ts hf)
    have h17 : ∀ {K : PV → R}, clX SS.CC 17 [.sl false 5 (ts.map tokP)] K = K (prO ts) := fun {K} => clX_of (m17 ts hf)
    simp only [h15, h16, h17]
    unfold prO
    cases joinO (bareS ts) with
    | none =>
      simp only [jP, w_9_3_mk]
      rw [BEq.rfl, bsel_true, eqB_T rfl, bsel_true, bsel_true]
    | some s =>
      simp only [jP, prP, w_9_3_mk]
      rw [BEq.rfl, bsel_true, eqB_T rfl, bsel_true, BEq.rfl, bsel_true]
def toTok (v : TokV) : Tok := ⟨v.kind, v.text.data.toList, v.val, v.line, v.col⟩
theorem tok_enc (v : TokV) : tokP (toTok v) = encT v := by
  unfold tokP toTok encT
  simp only [bs_data]
theorem c4e (l : List TokV) (hl : l.length ≤ 1000000000000000 - 1) : SS.CC 4 [.sl false 5 (l.map encT)] [] = Ret (.bool true) := by
  have := c4 (l.map toTok) (by rw [List.length_map]; exact hl)
  rw [List.map_map, show tokP ∘ toTok = encT from funext tok_enc] at this
  exact this
end Go.Proofs.Ytoajpgclgdhhlaa.W

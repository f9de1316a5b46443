/-
  Join, and the model's join.
-/
import Derived.Test.YtoajpgclgdhhlaaC16ja
import Derived.Test.YtoajpgclgdhhlaaC16v
import Derived.Test.YtoajpgclgdhhlaaPB16
import Derived.Test.YtoajpgclgdhhlaaW16b
namespace Go.Proofs.Ytoajpgclgdhhlaa.W
set_option linter.unusedVariables false
set_option linter.unusedSimpArgs false
set_option linter.unnecessarySimpa false
set_option linter.unusedSectionVars false
open Go.RowKit
set_option maxRecDepth 1000000
/-! ### alike -/
def alikeB (xs ys : List Tok) : Bool := decide (xs.map Tok.bare = ys.map Tok.bare)
theorem alikeB_nil : alikeB [] [] = true := rfl
theorem alikeB_cons (x y : Tok) (xs ys : List Tok) : alikeB (x :: xs) (y :: ys) = ((x.kind == y.kind && (x.text == y.text && x.value == y.value)) && alikeB xs ys) := by
  unfold alikeB
  rw [Bool.eq_iff_iff]
  simp [Tok.bare]
theorem alikeB_len {xs ys : List Tok} (h : xs.length ≠ ys.length) : alikeB xs ys = false := by
  unfold alikeB
  rw [decide_eq_false_iff_not]
  intro e
  have := congrArg List.length e
  simp at this
  exact h this
theorem m19gL (xs ys : List Tok) (hlen : xs.length = ys.length) (hl : xs.length ≤ 1000000) : ∀ (m k : Nat), k + m = xs.length → g19_L5 (xs.map tokP) (ys.map tokP) (k : Int) = Ret (.bool (alikeB (xs.drop k) (ys.drop k))) := by
  intro m
  induction m with
  | zero =>
    intro k hk
    rw [g19_L5_eq, decF (by rw [List.length_map]; omega), bsel_false, List.drop_eq_nil_of_le (by omega), List.drop_eq_nil_of_le (by omega)]; rfl
  | succ m ih =>
    intro k hk
    have h1 : xs[k]? = some xs[k] := List.getElem?_eq_getElem (by omega)
    have h2 : ys[k]? = some ys[k] := List.getElem?_eq_getElem (by omega)
    rw [g19_L5_eq, decT (by rw [List.length_map]; omega), bsel_true]
    simp only [lget_tok h1, lget_tok h2, v29_tok, bs_toList]
    rw [wrs (by omega), ih (k + 1) (by omega), List.drop_eq_getElem_cons (show k < xs.length by omega), List.drop_eq_getElem_cons (show k < ys.length by omega), alikeB_cons, bne, bne]
    cases xs[k].kind == ys[k].kind <;> cases xs[k].text == ys[k].text <;> cases xs[k].value == ys[k].value <;> rfl
theorem m19g (xs ys : List Tok) (hl : xs.length ≤ 1000000) : SS.CC 19 [.sl false 5 (xs.map tokP), .sl false 5 (ys.map tokP)] [] = Ret (.bool (alikeB xs ys)) := by
  rw [g19_eq, List.length_map, List.length_map]
  by_cases h : xs.length = ys.length
  · rw [show ((xs.length : Int) != (ys.length : Int)) = false by simp [h], bsel_false]
    exact m19gL xs ys h hl xs.length 0 (by omega)
  · rw [show ((xs.length : Int) != (ys.length : Int)) = true by simp [bne_iff_ne]; omega, bsel_true, alikeB_len h]
theorem m35 (x y : Tok) : SS.CC 35 [.agg [.int .i64 x.kind, .str (bs x.text), .int .i64 x.value, .int .i64 x.line, .int .i64 x.col], .agg [.int .i64 y.kind, .str (bs y.text), .int .i64 y.value, .int .i64 y.line, .int .i64 y.col]] [] = Ret (.bool (x.kind == y.kind && (x.text == y.text && x.value == y.value))) := by
  rw [g35_eq, bs_toList, bs_toList]
  cases x.kind == y.kind <;> cases x.text == y.text <;> rfl
theorem m34L (xs ys : List Tok) (hlen : xs.length = ys.length) (hl : xs.length ≤ 1000000) : ∀ (m k : Nat), k + m = xs.length → g34_L5 (ys.map tokP) (xs.map tokP) (k : Int) = Ret (.bool (alikeB (xs.drop k) (ys.drop k))) := by
  intro m
  induction m with
  | zero =>
    intro k hk
    rw [g34_L5_eq, decF (by rw [List.length_map]; omega), bsel_false, List.drop_eq_nil_of_le (by omega), List.drop_eq_nil_of_le (by omega)]; rfl
  | succ m ih =>
    intro k hk
    have h1 : xs[k]? = some xs[k] := List.getElem?_eq_getElem (by omega)
    have h2 : ys[k]? = some ys[k] := List.getElem?_eq_getElem (by omega)
    rw [g34_L5_eq, decT (by rw [List.length_map]; omega), bsel_true, lget_tok h1, v29_tok, lget_tok h2, v29_tok, clX_of (m35 _ _), vB_mk, wrs (by omega), ih (k + 1) (by omega), List.drop_eq_getElem_cons (show k < xs.length by omega), List.drop_eq_getElem_cons (show k < ys.length by omega), alikeB_cons]
    cases (xs[k].kind == ys[k].kind && (xs[k].text == ys[k].text && xs[k].value == ys[k].value)) <;> rfl
theorem m34 (xs ys : List Tok) (hl : xs.length ≤ 1000000) : SS.CC 34 [.sl false 5 (xs.map tokP), .sl false 5 (ys.map tokP), .func (.func 35) [] []] [] = Ret (.bool (alikeB xs ys)) := by
  rw [g34_eq, List.length_map, List.length_map]
  by_cases h : xs.length = ys.length
  · rw [show ((xs.length : Int) != (ys.length : Int)) = false by simp [h], bsel_false]
    exact m34L xs ys h hl xs.length 0 (by omega)
  · rw [show ((xs.length : Int) != (ys.length : Int)) = true by simp [bne_iff_ne]; omega, bsel_true, alikeB_len h]
/-! ### the joined text -/
def joinT : List Tok → List UInt8
  | [] => []
  | t :: r => t.text ++ r.flatMap fun x => 32 :: x.text
theorem joinT_snoc {l : List Tok} (h : l ≠ []) (t : Tok) : joinT (l ++ [t]) = joinT l ++ [32] ++ t.text := by
  cases l with
  | nil => exact absurd rfl h
  | cons a l => simp [joinT, List.flatMap_append]
theorem joinT_len {l : List Tok} (h : ∀ t, t ∈ l → t.text.length ≤ 40) : (joinT l).length ≤ l.length * 41 := by
  have key : ∀ r : List Tok, (∀ t, t ∈ r → t.text.length ≤ 40) → (r.flatMap fun x => 32 :: x.text).length ≤ r.length * 41 := by
    intro r
    induction r with
    | nil => intro _; simp
    | cons a r ih =>
      intro h
      have h1 := h a (by simp)
      have h2 := ih fun t ht => h t (by simp [ht])
      rw [List.flatMap_cons, List.length_append, List.length_cons, List.length_cons, Nat.succ_mul]
      omega
  cases l with
  | nil => simp [joinT]
  | cons a l =>
    have h1 := h a (by simp)
    have h2 := key l fun t ht => h t (by simp [ht])
    rw [joinT, List.length_append, List.length_cons, Nat.succ_mul]
    omega
theorem joinT_lib (l : List Tok) : joinB (l.map fun t => bs t.text) ⟨#[32]⟩ = joinT l := by
  unfold joinB
  rw [List.map_map]
  have e : ((fun x : ByteArray => x.data.toList) ∘ fun t : Tok => bs t.text) = Tok.text := by
    funext t; simp [bs]
  rw [e]
  cases l with
  | nil => rfl
  | cons a l =>
    rw [List.map_cons, Lib.join_cons, joinT]
    congr 1
    unfold Lib.joinTail
    rw [List.map_map, List.flatMap_def]
    rfl
def Few (ts : List Tok) : Prop := ts.length ≤ 12 ∧ ∀ t, t ∈ ts → t.text.length ≤ 40
theorem bare_len (ts : List Tok) : (bareS ts).length ≤ ts.length := List.length_filter_le _ _
theorem few_bare {ts : List Tok} (h : Few ts) : Few (bareS ts) := ⟨Nat.le_trans (List.length_filter_le _ _) h.1, fun t ht => h.2 t (List.mem_filter.1 ht).1⟩
theorem few_join {ts : List Tok} (h : Few ts) : (joinT ts).length ≤ 500 := by
  have := joinT_len h.2
  have := h.1
  omega
theorem strs_tok : ∀ (l : List Tok), strsOf (l.map fun t => .str (bs t.text)) = some (l.map fun t => bs t.text)
  | [] => rfl
  | t :: l => by rw [List.map_cons, strsOf, strs_tok l]; rfl
theorem m33 {l : List Tok} (h : Few l) : SS.CC 33 [.sl false 1 (l.map fun t => .str (bs t.text)), .str ⟨#[32]⟩] [] = Ret (.str (bs (joinT l))) := by
  rw [CC_eq SS_ok]
  have hj := joinT_lib l
  have hlen := few_join h
  have e : CS 33 [.sl false 1 (l.map fun t => .str (bs t.text)), .str ⟨#[32]⟩] [] = Ret (.str (bs (joinT l))) := by
    show (match strsOf (l.map fun t => PV.str (bs t.text)) with
      | some xs => (match Nat.ble (joinB xs ⟨#[32]⟩).length 140737488355328 && Nat.ble xs.length 140737488355328 with
        | true => some (PV.str ⟨(joinB xs ⟨#[32]⟩).toArray⟩, [])
        | false => none)
      | none => none) = _
    rw [strs_tok]
    simp only [hj]
    have h1 : Nat.ble (joinT l).length 140737488355328 = true := by rw [Nat.ble_eq]; omega
    have h2 : Nat.ble (l.map fun t => bs t.text).length 140737488355328 = true := by have := h.1; rw [Nat.ble_eq, List.length_map]; omega
    rw [h1, h2]; rfl
  have e0 : SS.C0 33 [.sl false 1 (l.map fun t => .str (bs t.text)), .str ⟨#[32]⟩] [] = Ret (.str (bs (joinT l))) := e
  rw [e0]; rfl
theorem scanT_err {l : List UInt8} {a b e : Int} (h : scanT l = .err a b e) : e ≠ 0 := by
  unfold scanT at h
  split at h
  · injection h with _ _ h; rw [← h]; decide
  · exact scan_err _ _ _ _ _ _ (by omega) h
theorem scanT_pl {l : List UInt8} {ts : List Tok} (h : scanT l = .ok ts) : PlL l 0 ts := by
  unfold scanT at h
  split at h
  · cases h
  · obtain ⟨ts', e1, hpl⟩ := scan_pl l (l.length + 1) l 0 [] ts h rfl (Nat.zero_le _)
    rw [List.nil_append] at e1; subst e1; exact hpl
/-- What Join says of tokens without Ends. -/
def joinO (b : List Tok) : Option (List UInt8) := match scanT (joinT b) with
  | .ok m => if alikeB (bareS m) b then some (joinT b) else none
  | .err _ _ _ => none
def jP : Option (List UInt8) → PV
  | some s => .tuple [.str (bs s), .int .i64 0]
  | none => .tuple [.str ⟨#[]⟩, .int .i64 6]
theorem m14L (b : List Tok) (h : Few b) : ∀ (m k : Nat), k + m = b.length → g14_L5 (b.map tokP) ((b.take k).map fun t => .str (bs t.text)) (k : Int) = Ret (jP (joinO b)) := by
  have hb := h.1
  intro m
  induction m with
  | zero =>
    intro k hk
    rw [g14_L5_eq, decF (by rw [List.length_map]; omega), bsel_false, List.take_of_length_le (by omega), clX_of (m33 h), vS_mk, clX_of (c12 _)]
    unfold joinO
    cases hs : scanT (joinT b) with
    | err a b e =>
      have he := scanT_err hs
      simp only [scanP, w_24_3_3_3_mk]
      rw [show (e != 0) = true by simp [bne_iff_ne, he], bsel_true]; rfl
    | ok ms =>
      have hl := pl_len (scanT_pl hs)
      have hj := few_join h
      simp only [scanP, w_24_3_3_3_mk]
      rw [show ((0 : Int) != 0) = false from rfl, bsel_false, clX_of (m32 ms (by omega)), vL_mk, clX_of (m34 (bareS ms) b (Nat.le_trans (bare_len ms) (by omega))), vB_mk]
      cases alikeB (bareS ms) b <;> rfl
  | succ m ih =>
    intro k hk
    have h1 : b[k]? = some b[k] := List.getElem?_eq_getElem (by omega)
    have := ih (k + 1) (by omega)
    rw [List.take_succ_eq_append_getElem (by omega), List.map_append] at this
    rw [g14_L5_eq, decT (by rw [List.length_map]; omega), bsel_true, lget_tok h1, v29_tok, chk_of (decT (by rw [List.length_map, List.length_take]; unfold LIM; omega)), wrs (by omega)]
    exact this
/-- Join. -/
theorem m14 (ts : List Tok) (h : Few ts) : SS.CC 14 [.sl false 5 (ts.map tokP)] [] = Ret (jP (joinO (bareS ts))) := by
  have := h.1
  rw [g14_eq, clX_of (m32 ts (by omega)), vL_mk]
  exact m14L (bareS ts) (few_bare h) (bareS ts).length 0 (by omega)
theorem m16L (b : List Tok) (h : Few b) : ∀ (m k : Nat), k + m = b.length → g16_L5 (b.map tokP) (bs (joinT (b.take k))) (k : Int) = Ret (jP (joinO b)) := by
  have hb := h.1
  intro m
  induction m with
  | zero =>
    intro k hk
    have hj := few_join h
    rw [g16_L5_eq, decF (by rw [List.length_map]; omega), bsel_false, List.take_of_length_le (by omega), clX_of (m20 _ (by omega))]
    unfold joinO
    cases hs : scanT (joinT b) with
    | err a b e =>
      have he := scanT_err hs
      simp only [scanP, w_24_3_3_3_mk]
      rw [show (e != 0) = true by simp [bne_iff_ne, he], bsel_true]; rfl
    | ok ms =>
      have hl := pl_len (scanT_pl hs)
      simp only [scanP, w_24_3_3_3_mk]
      rw [show ((0 : Int) != 0) = false from rfl, bsel_false, clX_of (m41 ms (by omega)), vL_mk, clX_of (m19g (bareS ms) b (Nat.le_trans (bare_len ms) (by omega))), vB_mk]
      cases alikeB (bareS ms) b <;> rfl
  | succ m ih =>
    intro k hk
    have h1 : b[k]? = some b[k] := List.getElem?_eq_getElem (by omega)
    have hfk : Few (b.take k) := ⟨by rw [List.length_take]; omega, fun t ht => h.2 t (List.mem_of_mem_take ht)⟩
    have hj := few_join hfk
    have ht := h.2 b[k] (List.getElem_mem _)
    have hn := ih (k + 1) (by omega)
    rw [List.take_succ_eq_append_getElem (by omega)] at hn
    have e32 : bs (joinT (b.take k)) ++ (⟨#[32]⟩ : ByteArray) = bs (joinT (b.take k) ++ [32]) := by apply ByteArray.ext; simp [bs]
    have eap : ∀ l : List UInt8, bs l ++ bs b[k].text = bs (l ++ b[k].text) := fun l => by apply ByteArray.ext; simp [bs]
    rw [g16_L5_eq, decT (by rw [List.length_map]; omega), bsel_true]
    by_cases hk0 : 0 < k
    · have hne : b.take k ≠ [] := fun e => by
        have := congrArg List.length e
        rw [List.length_take, List.length_nil] at this; omega
      rw [joinT_snoc hne] at hn
      rw [decT (by omega), bsel_true, chk_of (decT (by rw [bs_size]; show _ + 1 ≤ LIM; unfold LIM; omega)), e32, g16_J9_eq, lget_tok h1, v29_tok, chk_of (decT (by rw [bs_size, bs_size, List.length_append, List.length_singleton]; unfold LIM; omega)), wrs (by omega), eap]
      exact hn
    · have hk1 : k = 0 := by omega
      subst hk1
      rw [decF (by omega), bsel_false, g16_J9_eq, lget_tok h1, v29_tok, chk_of (decT (by rw [bs_size, bs_size]; unfold LIM; omega)), wrs (by omega), eap]
      have e0 : joinT (b.take 0) ++ b[0].text = joinT (b.take 0 ++ [b[0]]) := by simp [joinT]
      rw [e0]
      exact hn
theorem m16 (ts : List Tok) (h : Few ts) : SS.CC 16 [.sl false 5 (ts.map tokP)] [] = Ret (jP (joinO (bareS ts))) := by
  have := h.1
  rw [g16_eq, clX_of (m41 ts (by omega)), vL_mk]
  exact m16L (bareS ts) (few_bare h) (bareS ts).length 0 (by omega)
end Go.Proofs.Ytoajpgclgdhhlaa.W

/-
  Tokens without the Ends: the model's bare, and without (Clone, DeleteFunc).
-/
import Derived.Test.YtoajpgclgdhhlaaC16r
import Derived.Test.YtoajpgclgdhhlaaW16j
namespace Go.Proofs.Ytoajpgclgdhhlaa.W
set_option linter.unusedVariables false
set_option linter.unusedSimpArgs false
set_option linter.unnecessarySimpa false
set_option linter.unusedSectionVars false
open Go.RowKit
set_option maxRecDepth 1000000
def bareS (ts : List Tok) : List Tok := ts.filter fun t => t.kind != 4
def c5P (t : Tok) : List PV := [.int .i64 t.kind, .str (bs t.text), .int .i64 t.value, .int .i64 t.line, .int .i64 t.col]
def flatT (us : List Tok) : List PV := us.flatMap c5P
theorem flatT_cons (t : Tok) (us : List Tok) : flatT (t :: us) = c5P t ++ flatT us := rfl
theorem flatPV_tok : ∀ (us : List Tok), flatPV (us.map tokP) = flatT us
  | [] => rfl
  | t :: us => by
    rw [List.map_cons, flatT_cons, ← flatPV_tok us]; rfl
theorem flatT_len : ∀ (us : List Tok), (flatT us).length = us.length * 5
  | [] => rfl
  | t :: us => by rw [flatT_cons, List.length_append, flatT_len us, List.length_cons, Nat.succ_mul]; show 5 + _ = _; omega
theorem flatT_app (a b : List Tok) : flatT (a ++ b) = flatT a ++ flatT b := List.flatMap_append
theorem flatT_drop : ∀ (us : List Tok) (j : Nat), (flatT us).drop (j * 5) = flatT (us.drop j)
  | [], j => by simp [flatT]
  | t :: us, 0 => rfl
  | t :: us, j + 1 => by
    rw [flatT_cons, show (j + 1) * 5 = 5 + j * 5 by omega, List.drop_succ_cons, ← flatT_drop us j]
    exact List.drop_length_add_append (l₁ := c5P t) (l₂ := flatT us) (j * 5)
theorem flatT_take : ∀ (us : List Tok) (j : Nat), (flatT us).take (j * 5) = flatT (us.take j)
  | [], j => by simp [flatT]
  | t :: us, 0 => by simp [flatT]
  | t :: us, j + 1 => by
    rw [flatT_cons, show (j + 1) * 5 = 5 + j * 5 by omega, List.take_succ_cons, flatT_cons, ← flatT_take us j]
    exact List.take_length_add_append (l₁ := c5P t) (l₂ := flatT us) (j * 5)
theorem flatT_get {us : List Tok} {j : Nat} {t : Tok} (h : us[j]? = some t) : ((flatT us).drop (j * 5)).take 5 = c5P t := by
  have hlt := (List.getElem?_eq_some_iff.1 h).1
  rw [flatT_drop, List.drop_eq_getElem_cons hlt, flatT_cons]
  rw [List.getElem?_eq_getElem hlt] at h; injection h with h
  rw [h]; rfl
theorem flatT_set {us : List Tok} {i : Nat} (h : i < us.length) (t : Tok) : (flatT us).take (i * 5) ++ c5P t ++ (flatT us).drop (i * 5 + 5) = flatT (us.set i t) := by
  rw [show i * 5 + 5 = (i + 1) * 5 by omega, flatT_take, flatT_drop, List.set_eq_take_append_cons_drop, if_pos h, flatT_app, flatT_cons, List.append_assoc]
theorem flatT_plain (us : List Tok) : (flatT us).all plainC = true := by
  rw [List.all_eq_true]
  intro p hp
  obtain ⟨t, _, ht⟩ := List.mem_flatMap.1 hp
  simp only [c5P, List.mem_cons, List.not_mem_nil, or_false] at ht
  rcases ht with rfl | rfl | rfl | rfl | rfl <;> rfl
theorem flatT_flat (us : List Tok) : ((flatT us).all fun p => p.one && p.flat) = true := by
  rw [List.all_eq_true]
  intro p hp
  obtain ⟨t, _, ht⟩ := List.mem_flatMap.1 hp
  simp only [c5P, List.mem_cons, List.not_mem_nil, or_false] at ht
  rcases ht with rfl | rfl | rfl | rfl | rfl <;> rfl
theorem tok_plainE (us : List Tok) : (us.map tokP).all (plainE 5) = true := by
  rw [List.all_eq_true]
  intro p hp
  obtain ⟨t, _, rfl⟩ := List.mem_map.1 hp
  rfl
theorem flatT_chunk {us : List Tok} {k : Nat} (h : k ≤ us.length) : chunkP 5 (flatT us) k = (us.take k).map tokP := by
  show (List.range k).map (fun j => PV.agg ((((flatT us).drop (j * 5)).take 5).map PV.un)) = _
  apply List.ext_getElem?
  intro j
  by_cases hj : j < k
  · have h1 : us[j]? = some us[j] := List.getElem?_eq_getElem (by omega)
    rw [List.getElem?_map, List.getElem?_range hj, List.getElem?_map, List.getElem?_take, if_pos hj, h1, Option.map_some, Option.map_some, flatT_get h1]
    rfl
  · rw [List.getElem?_eq_none (by rw [List.length_map, List.length_range]; omega), List.getElem?_eq_none (by rw [List.length_map, List.length_take]; omega)]
theorem zero_flat (m : Nat) : (List.replicate m [PV.int .i64 0, .str ⟨#[]⟩, .int .i64 0, .int .i64 0, .int .i64 0]).flatten.map PV.un = flatT (List.replicate m Tok.zero) := by
  induction m with
  | zero => rfl
  | succ m ih => rw [List.replicate_succ, List.replicate_succ, List.flatten_cons, List.map_append, ih, flatT_cons]; rfl
theorem clH_1 {C : Cal} {g : FuncId} {args : List PV} {h : Objs} {K : PV → Objs → R} {r : PV} {h' : Objs} (e : C g args h = some (r, h')) : clH C g args h K = K r h' := by unfold clH; rw [e]
theorem m65 (t : Tok) : SS.CC 65 [.agg [.int .i64 t.kind, .str (bs t.text), .int .i64 t.value, .int .i64 t.line, .int .i64 t.col]] [] = Ret (.bool (t.kind == 4)) := g65_eq _ _ _ _ _
theorem m82L (ts : List Tok) (hl : ts.length ≤ 1000000) : ∀ (m k : Nat), k + m = ts.length → (∀ t, t ∈ ts.take k → t.kind ≠ 4) →
    (g82_L3 (ts.map tokP) (k : Int) = Ret (.int .i64 (-1)) ∧ ∀ t, t ∈ ts → t.kind ≠ 4) ∨ ∃ (p : Nat) (t : Tok), g82_L3 (ts.map tokP) (k : Int) = Ret (.int .i64 (p : Int)) ∧ ts[p]? = some t ∧ t.kind = 4 ∧ ∀ t, t ∈ ts.take p → t.kind ≠ 4 := by
  intro m
  induction m with
  | zero =>
    intro k hk h
    left
    rw [List.take_of_length_le (by omega)] at h
    exact ⟨by rw [g82_L3_eq, decF (by rw [List.length_map]; omega), bsel_false], h⟩
  | succ m ih =>
    intro k hk h
    have h1 : ts[k]? = some ts[k] := List.getElem?_eq_getElem (by omega)
    rw [g82_L3_eq, decT (by rw [List.length_map]; omega), bsel_true, lget_tok h1, v29_tok, clX_of (m65 _), vB_mk, wrs (by omega)]
    by_cases h4 : ts[k].kind = 4
    · right
      rw [eqB_T h4, bsel_true]
      exact ⟨k, ts[k], rfl, h1, h4, h⟩
    · rw [eqB_F h4, bsel_false]
      refine ih (k + 1) (by omega) fun t ht => ?_
      rw [List.take_succ_eq_append_getElem (by omega)] at ht
      rcases List.mem_append.1 ht with ht | ht
      · exact h t ht
      · simp only [List.mem_singleton] at ht; subst ht; exact h4
theorem m82 (ts : List Tok) (hl : ts.length ≤ 1000000) : (SS.CC 82 [.sl false 5 (ts.map tokP), .func (.func 65) [] []] [] = Ret (.int .i64 (-1)) ∧ ∀ t, t ∈ ts → t.kind ≠ 4) ∨ ∃ (p : Nat) (t : Tok), SS.CC 82 [.sl false 5 (ts.map tokP), .func (.func 65) [] []] [] = Ret (.int .i64 (p : Int)) ∧ ts[p]? = some t ∧ t.kind = 4 ∧ ∀ t, t ∈ ts.take p → t.kind ≠ 4 := by
  rw [g82_eq]
  exact m82L ts hl ts.length 0 (by omega) (by simp)
theorem bare_all {ts : List Tok} (h : ∀ t, t ∈ ts → t.kind ≠ 4) : bareS ts = ts := List.filter_eq_self.2 fun t ht => by simp [bne_iff_ne, h t ht]
theorem bare_app (a b : List Tok) : bareS (a ++ b) = bareS a ++ bareS b := List.filter_append ..
theorem bare_cons4 {t : Tok} (h : t.kind = 4) (l : List Tok) : bareS (t :: l) = bareS l := List.filter_cons_of_neg (by simp [h])
theorem bare_consN {t : Tok} (h : t.kind ≠ 4) (l : List Tok) : bareS (t :: l) = t :: bareS l := List.filter_cons_of_pos (by simp [bne_iff_ne, h])
theorem m63L (ts : List Tok) (hl : ts.length ≤ 1000000) (h0 : 0 < ts.length) : ∀ (m i j : Nat) (us : List Tok), j + m = ts.length → i ≤ j → us.length = ts.length → us.drop j = ts.drop j →
    ∃ k us', g63_L6 ts.length (i : Int) (flatT us) (j : Int) = some (.slh 0 0 k 5, [some (flatT us')]) ∧ us'.length = ts.length ∧ k ≤ ts.length ∧ us'.take k = us.take i ++ bareS (ts.drop j) := by
  intro m
  induction m with
  | zero =>
    intro i j us hj hij hul hd
    have hjn : j = ts.length := by omega
    subst hjn
    rw [g63_L6_eq]
    simp only [flatT_plain, Bool.and_self, Int.toNat_natCast, Nat.zero_add, flatT_len]
    rw [chk_of rfl, decF (by omega), bsel_false, chk_of rfl, chk_of (by simp <;> omega)]
    rw [List.drop_eq_nil_of_le (Nat.le_refl _)]
    by_cases hi : i < ts.length
    · have e1 : (flatT us).take (i * 5) ++ (List.replicate (ts.length - i) [PV.int .i64 0, .str ⟨#[]⟩, .int .i64 0, .int .i64 0, .int .i64 0]).flatten.map PV.un ++ (flatT us).drop (i * 5 + (ts.length - i) * 5) = flatT (us.take i ++ List.replicate (ts.length - i) Tok.zero) := by
        rw [zero_flat, flatT_take, show i * 5 + (ts.length - i) * 5 = ts.length * 5 by omega, ← hul, flatT_drop, List.drop_eq_nil_of_le (Nat.le_refl _), flatT_app]
        simp [flatT]
      rw [decT (by omega), bsel_true, e1, chk_of (decT (by rw [hul]; omega)), chk_of (by simp <;> omega), flatT_plain, chk_of (b := true && true) rfl]
      have hti : (us.take i).length = i := by rw [List.length_take]; omega
      refine ⟨i, _, rfl, by rw [List.length_append, hti, List.length_replicate]; omega, by omega, ?_⟩
      rw [List.take_append_of_le_length (by omega), List.take_of_length_le (by omega)]
      simp [bareS]
    · rw [decF (by omega), bsel_false, chk_of (by simp <;> omega), chk_of rfl]
      exact ⟨i, us, rfl, hul, by omega, by simp [bareS]⟩
  | succ m ih =>
    intro i j us hj hij hul hd
    have hjl : j < ts.length := by omega
    have h1 : ts[j]? = some ts[j] := List.getElem?_eq_getElem hjl
    have h2 : us[j]? = some ts[j] := by
      have := congrArg (fun l => l[0]?) hd
      have e : us[j]? = ts[j]? := by simpa using this
      rw [e, h1]
    have hd1 : us.drop (j + 1) = ts.drop (j + 1) := by
      have := congrArg (fun l => l.drop 1) hd
      simpa using this
    rw [List.drop_eq_getElem_cons hjl]
    rw [g63_L6_eq]
    simp only [flatT_plain, Bool.and_self, Int.toNat_natCast, Nat.zero_add, flatT_len, flatT_get h2]
    rw [chk_of rfl, decT (by omega), bsel_true, chk_of rfl, chk_of (by simp <;> omega), chk_of (decT (by rw [hul]; omega)), show PV.agg ((c5P ts[j]).map PV.un) = tokP ts[j] from rfl, v29_tok, clX_of (m65 _), vB_mk]
    by_cases h4 : ts[j].kind = 4
    · rw [eqB_T h4, Bool.not_true, bsel_false, chk_of rfl, wrs (by omega)]
      obtain ⟨k, us', q1, q2, q3, q4⟩ := ih i (j + 1) us (by omega) (by omega) hul hd1
      refine ⟨k, us', q1, q2, q3, ?_⟩
      rw [q4, bare_cons4 h4]
    · have hil : i < us.length := by omega
      have e1 := flatT_set hil ts[j]
      rw [eqB_F h4, Bool.not_false, bsel_true, chk_of (by simp <;> omega), chk_of (decT (by rw [hul]; omega)), show [PV.int .i64 ts[j].kind, .str (bs ts[j].text), .int .i64 ts[j].value, .int .i64 ts[j].line, .int .i64 ts[j].col] = c5P ts[j] from rfl, e1, flatT_plain, chk_of (b := true && true) rfl,
        wrs (k := i) (by omega), wrs (k := j) (by omega)]
      obtain ⟨k, us', q1, q2, q3, q4⟩ := ih (i + 1) (j + 1) (us.set i ts[j]) (by omega) (by omega) (by rw [List.length_set]; exact hul) (by rw [List.drop_set_of_lt (by omega)]; exact hd1)
      refine ⟨k, us', q1, q2, q3, ?_⟩
      rw [q4, List.take_succ_eq_append_getElem (by rw [List.length_set]; exact hil), List.getElem_set_self, List.take_set_of_le (Nat.le_refl _)]
      rw [bare_consN h4, List.append_assoc]; rfl
theorem m63 (ts : List Tok) (hl : ts.length ≤ 1000000) (h0 : 0 < ts.length) : ∃ k us', SS.CC 63 [.slh 0 0 ts.length 5, .func (.func 65) [] []] [some (flatT ts)] = some (.slh 0 0 k 5, [some (flatT us')]) ∧ us'.length = ts.length ∧ k ≤ ts.length ∧ us'.take k = bareS ts := by
  rw [g63_eq]
  simp only [flatT_plain, flatT_len]
  rw [chk_of (by simp), flatT_chunk (Nat.le_refl _), List.take_of_length_le (Nat.le_refl _)]
  rcases m82 ts hl with ⟨e, h⟩ | ⟨p, t, e, h1, h2, h3⟩
  · rw [clX_of e, vI_mk, eqB_T rfl, bsel_true, chk_of (b := true && true) rfl]
    exact ⟨ts.length, ts, rfl, rfl, Nat.le_refl _, by rw [List.take_of_length_le (Nat.le_refl _), bare_all h]⟩
  · have hp := (List.getElem?_eq_some_iff.1 h1).1
    rw [clX_of e, vI_mk, eqB_F (by omega), bsel_false, chk_of (b := true && true) rfl, wrs (by omega)]
    obtain ⟨k, us', q1, q2, q3, q4⟩ := m63L ts hl h0 (ts.length - (p + 1)) p (p + 1) ts (by omega) (by omega) rfl rfl
    refine ⟨k, us', q1, q2, q3, ?_⟩
    rw [q4]
    have hsplit : ts = ts.take p ++ t :: ts.drop (p + 1) := by
      conv => lhs; rw [← List.take_append_drop p ts, List.drop_eq_getElem_cons hp]
      rw [List.getElem?_eq_getElem hp] at h1; injection h1 with h1; rw [h1]
    conv => rhs; rw [hsplit, bare_app, bare_all h3, bare_cons4 h2]
theorem m63n : SS.CC 63 [.sl false 5 [], .func (.func 65) [] []] [] = Ret (.sl false 5 []) := CC_of_sem SS_ok 60 (by kernel_rfl)
theorem m64 (ts : List Tok) (hl : ts.length ≤ 1000000) : SS.CC 64 [.sl false 5 (ts.map tokP)] [] = Ret (.sl true 5 (ts.map tokP)) := by
  rw [g64_eq]
  refine nilX_of ?_ fun h => ?_
  · rw [show (false == true) = false from rfl, bsel_false, chk_of (decT (by rw [List.length_map]; unfold LIM; omega))]
  · rw [h]; rfl
/-- without. -/
theorem m32 (ts : List Tok) (hl : ts.length ≤ 1000000) : SS.CC 32 [.sl false 5 (ts.map tokP)] [] = Ret (.sl false 5 ((bareS ts).map tokP)) := by
  rw [g32_eq, clX_of (m64 ts hl), vL_mk, List.length_map]
  by_cases h0 : 0 < ts.length
  · obtain ⟨k, us', q1, q2, q3, q4⟩ := m63 ts hl h0
    rw [decT h0, bsel_true, chk_of (tok_plainE ts), flatPV_tok, flatT_plain, chk_of (b := true && true) rfl, clH_1 q1, h63_0_mk, flatT_plain, chk_of (b := true && true) rfl, flatT_flat, flatT_len, chk_of (by rw [decT (by omega)]; rfl), flatT_chunk (by omega), q4]
  · have : ts = [] := List.eq_nil_of_length_eq_zero (by omega)
    subst this
    rw [decF h0, bsel_false, clX_of m63n, vL_mk]; rfl
/-- bare. -/
theorem m41L (ts : List Tok) (hl : ts.length ≤ 1000000) : ∀ (m k : Nat) (pre : List Tok), k + m = ts.length → pre.length ≤ k → g41_L4 (ts.map tokP) (pre.map tokP) (k : Int) = Ret (.sl false 5 ((pre ++ bareS (ts.drop k)).map tokP)) := by
  intro m
  induction m with
  | zero =>
    intro k pre hk hp
    rw [g41_L4_eq, decF (by rw [List.length_map]; omega), bsel_false, List.drop_eq_nil_of_le (by omega)]
    simp [bareS]
  | succ m ih =>
    intro k pre hk hp
    have hkl : k < ts.length := by omega
    have h1 : ts[k]? = some ts[k] := List.getElem?_eq_getElem hkl
    rw [g41_L4_eq, decT (by rw [List.length_map]; omega), bsel_true]
    simp only [lget_tok h1, v29_tok]
    rw [wrs (by omega), List.drop_eq_getElem_cons hkl]
    by_cases h4 : ts[k].kind = 4
    · rw [h4, show ((4 : Int) != 4) = false from rfl, bsel_false, ih (k + 1) pre (by omega) (by omega), bare_cons4 h4]
    · rw [show (ts[k].kind != 4) = true by simp [bne_iff_ne, h4], bsel_true, chk_of (decT (by rw [List.length_map]; unfold LIM; omega))]
      have := ih (k + 1) (pre ++ [ts[k]]) (by omega) (by rw [List.length_append, List.length_singleton]; omega)
      rw [List.map_append] at this
      rw [show [PV.agg [.int .i64 ts[k].kind, .str (bs ts[k].text), .int .i64 ts[k].value, .int .i64 ts[k].line, .int .i64 ts[k].col]] = [ts[k]].map tokP from rfl, this]
      rw [bare_consN h4, List.append_assoc]; rfl
theorem m41 (ts : List Tok) (hl : ts.length ≤ 1000000) : SS.CC 41 [.sl false 5 (ts.map tokP)] [] = Ret (.sl false 5 ((bareS ts).map tokP)) := by
  rw [g41_eq]
  exact m41L ts hl ts.length 0 [] (by omega) (by simp)
end Go.Proofs.Ytoajpgclgdhhlaa.W

/-
  The contract of LexerSpaces.
-/
import Derived.Test.YtoajpgclgdhhlaaPB16
import Derived.Test.YtoajpgclgdhhlaaC16r
import Derived.Test.YtoajpgclgdhhlaaW16b
namespace Go.Proofs.Ytoajpgclgdhhlaa.W
set_option linter.unusedVariables false
set_option linter.unusedSimpArgs false
set_option linter.unnecessarySimpa false
set_option linter.unusedSectionVars false
open Go.RowKit
set_option maxRecDepth 1000000
/-! ### alike -/
theorem m19L (xs ys : List Tok) (hl : xs.length ≤ 1000000) (h : xs.map Tok.bare = ys.map Tok.bare) : ∀ (m k : Nat), k + m = xs.length → g19_L5 (xs.map tokP) (ys.map tokP) (k : Int) = Ret (.bool true) := by
  have hlen : xs.length = ys.length := by have := congrArg List.length h; simpa using this
  intro m
  induction m with
  | zero =>
    intro k hk
    rw [g19_L5_eq, decF (by rw [List.length_map]; omega), bsel_false]
  | succ m ih =>
    intro k hk
    have h1 : xs[k]? = some xs[k] := List.getElem?_eq_getElem (by omega)
    have h2 : ys[k]? = some ys[k] := List.getElem?_eq_getElem (by omega)
    have hb : xs[k].bare = ys[k].bare := by
      have := congrArg (fun l => l[k]?) h
      simp only [List.getElem?_map, h1, h2, Option.map_some] at this
      injection this
    have hk1 : xs[k].kind = ys[k].kind := congrArg (fun x => x.1) hb
    have hk2 : xs[k].text = ys[k].text := congrArg (fun x => x.2.1) hb
    have hk3 : xs[k].value = ys[k].value := congrArg (fun x => x.2.2) hb
    rw [g19_L5_eq, decT (by rw [List.length_map]; omega), bsel_true]
    simp only [lget_tok h1, lget_tok h2, v29_tok]
    rw [hk1, hk2, hk3]
    simp only [bne_self_eq_false, BEq.rfl, Bool.not_true, bsel_false]
    rw [wrs (by omega)]
    exact ih (k + 1) (by omega)
theorem m19 (xs ys : List Tok) (hl : xs.length ≤ 1000000) (h : xs.map Tok.bare = ys.map Tok.bare) : SS.CC 19 [.sl false 5 (xs.map tokP), .sl false 5 (ys.map tokP)] [] = Ret (.bool true) := by
  have hlen : xs.length = ys.length := by have := congrArg List.length h; simpa using this
  rw [g19_eq, List.length_map, List.length_map, hlen, show ((ys.length : Int) != (ys.length : Int)) = false by simp, bsel_false]
  exact m19L xs ys hl h xs.length 0 (by omega)
/-! ### the text -/
def sepsL : List (List UInt8) := [[], [32], [10], [9], [47, 47, 32, 97, 32, 99, 111, 109, 109, 101, 110, 116, 32, 45, 62, 32, 49, 120, 10], [13, 10], [47, 47, 10]]
theorem skip_com : ∀ (p u : List UInt8), (∀ c, c ∈ p → c ≠ 10) → skipS true (p ++ 10 :: u) = p.length + 1 + skipS false u
  | [], u, _ => by rw [List.nil_append, skipS, if_pos rfl]; rfl
  | b :: p, u, h => by
    rw [List.cons_append, skipS, if_neg (h b (by simp)), skip_com p u fun c hc => h c (by simp [hc]), List.length_cons]
    omega
theorem skip_47 (l : List UInt8) : skipS false (47 :: 47 :: l) = 1 + skipS true (47 :: l) := rfl
theorem seps_ok : ∀ p, p ∈ sepsL → SepOK p ∧ p.length ≤ 19 := by
  intro p hp
  unfold sepsL at hp
  simp only [List.mem_cons, List.not_mem_nil, or_false] at hp
  rcases hp with rfl | rfl | rfl | rfl | rfl | rfl | rfl
  · exact ⟨sep_nil, by decide⟩
  · exact ⟨sep_blank, by decide⟩
  · exact ⟨sep_of fun u => by show skipS false (10 :: u) = _; rw [skipS]; rfl, by decide⟩
  · exact ⟨sep_of fun u => by show skipS false (9 :: u) = _; rw [skipS]; rfl, by decide⟩
  · refine ⟨sep_of fun u => ?_, by decide⟩
    have e : [47, 47, 32, 97, 32, 99, 111, 109, 109, 101, 110, 116, 32, 45, 62, 32, 49, 120, 10] ++ u = 47 :: 47 :: ([32, 97, 32, 99, 111, 109, 109, 101, 110, 116, 32, 45, 62, 32, 49, 120] ++ 10 :: u) := rfl
    rw [e, skip_47, ← List.cons_append, skip_com _ _ (by decide)]
    simp only [List.length_cons, List.length_nil]
    omega
  · refine ⟨sep_of fun u => ?_, by decide⟩
    have e : [13, 10] ++ u = 13 :: 10 :: u := rfl
    rw [e, skipS, if_pos (by decide), skipS, if_pos (by decide)]
    simp only [List.length_cons, List.length_nil]
    omega
  · refine ⟨sep_of fun u => ?_, by decide⟩
    have e : [47, 47, 10] ++ u = 47 :: 47 :: ([] ++ 10 :: u) := rfl
    rw [e, skip_47, ← List.cons_append, skip_com _ _ (by decide)]
    simp only [List.length_cons, List.length_nil]
    omega
def sepB (c : UInt8) : List UInt8 := sepsL.getD (c.toNat % 7) []
theorem sepB_mem (c : UInt8) : sepsL[c.toNat % 7]? = some (sepB c) ∧ sepB c ∈ sepsL := by
  have h : c.toNat % 7 < sepsL.length := Nat.mod_lt _ (by decide)
  have e : sepsL[c.toNat % 7]? = some (sepB c) := by
    unfold sepB
    rw [List.getD_eq_getElem?_getD, List.getElem?_eq_getElem h]; rfl
  exact ⟨e, List.mem_of_getElem? e⟩
theorem sp_len : ∀ (ts : List Tok) (ps : List (List UInt8)) (n : Nat), (∀ t, t ∈ ts → t.text.length ≤ n) → (∀ p, p ∈ ps → p.length ≤ 19) → (spT ts ps).length ≤ ts.length * (n + 20)
  | [], _, _, _, _ => by simp [spT]
  | t :: ts, ps, n, h1, h2 => by
    have := sp_len ts ps.tail n (fun x hx => h1 x (by simp [hx])) fun p hp => h2 p (List.mem_of_mem_tail hp)
    have ht := h1 t (by simp)
    have hh : (ps.headD []).length ≤ 19 := by
      cases ps with
      | nil => simp
      | cons p ps => exact h2 p (by simp)
    rw [spT, List.length_append, List.length_cons, List.length_append, List.length_cons, Nat.succ_mul]
    omega
theorem sep7 (c : UInt8) {K : PV → R} : lgetX [.str ⟨#[]⟩, .str ⟨#[32]⟩, .str ⟨#[10]⟩, .str ⟨#[9]⟩, .str ⟨#[47, 47, 32, 97, 32, 99, 111, 109, 109, 101, 110, 116, 32, 45, 62, 32, 49, 120, 10]⟩, .str ⟨#[13, 10]⟩, .str ⟨#[47, 47, 10]⟩] (Int.tmod (c.toNat : Int) 7) K = K (.str (bs (sepB c))) := by
  rw [show [PV.str ⟨#[]⟩, .str ⟨#[32]⟩, .str ⟨#[10]⟩, .str ⟨#[9]⟩, .str ⟨#[47, 47, 32, 97, 32, 99, 111, 109, 109, 101, 110, 116, 32, 45, 62, 32, 49, 120, 10]⟩, .str ⟨#[13, 10]⟩, .str ⟨#[47, 47, 10]⟩] = sepsL.map fun p => PV.str (bs p) from rfl]
  have e : Int.tmod (c.toNat : Int) 7 = ((c.toNat % 7 : Nat) : Int) := by
    rw [Int.tmod_eq_emod_of_nonneg (by omega)]; rfl
  rw [e]
  exact lgetX_of (by omega) (by rw [Int.toNat_natCast, List.getElem?_map, (sepB_mem c).1]; rfl)
def encU (l : List UInt8) : List PV := l.map fun c => .int .u8 (c.toNat : Int)
theorem sp7L (cs : List UInt8) (ts : List Tok) (us : List Tok) (hcs : cs.length ≤ 20) (hts : ts.length ≤ 300) (htx : ∀ t, t ∈ ts → t.text.length ≤ 200) (hbare : us.map Tok.bare = ts.map Tok.bare) (full : List UInt8)
    (hfull : full = spT ts (cs.map sepB)) (hall : scanT full = .ok us) : ∀ (m k : Nat) (pre : List UInt8), k + m = ts.length → pre ++ spT (ts.drop k) ((cs.drop k).map sepB) = full → pre.length + (ts.length - k) * 220 ≤ 100000 →
    g7_L9 (encU cs) (ts.map tokP) (bs pre) (k : Int) = Ret (.bool true) := by
  intro m
  induction m with
  | zero =>
    intro k pre hk hpre _
    rw [List.drop_eq_nil_of_le (by omega), spT, List.append_nil] at hpre
    subst hpre
    have hlen : us.length = ts.length := by have := congrArg List.length hbare; simpa using this
    rw [g7_L9_eq, decF (by rw [List.length_map]; omega), bsel_false, clX_of (c12 _), hall]
    simp only [scanP, w_24_3_3_3_mk]
    rw [eqB_T rfl, bsel_true, clX_of (m19 ts us (by omega) hbare.symm), vB_mk]
  | succ m ih =>
    intro k pre hk hpre hsz
    have h1 : ts[k]? = some ts[k] := List.getElem?_eq_getElem (by omega)
    have ht := htx ts[k] (List.getElem_mem _)
    have hb1 : bs pre ++ bs ts[k].text = bs (pre ++ ts[k].text) := by apply ByteArray.ext; simp [bs]
    have hb2 : bs (pre ++ ts[k].text) ++ (⟨#[32]⟩ : ByteArray) = bs (pre ++ ts[k].text ++ [32]) := by apply ByteArray.ext; simp [bs]
    have hmul : (ts.length - k) * 220 = (ts.length - (k + 1)) * 220 + 220 := by omega
    rw [List.drop_eq_getElem_cons (show k < ts.length by omega), spT] at hpre
    rw [g7_L9_eq, decT (by rw [List.length_map]; omega), bsel_true, lget_tok h1, v29_tok, chk_of (decT (by rw [bs_size, bs_size]; unfold LIM; omega)), hb1, chk_of (decT (by rw [bs_size, List.length_append]; show _ + 1 ≤ LIM; unfold LIM; omega)), hb2, wrs (by omega)]
    rw [show (encU cs).length = cs.length from List.length_map _]
    by_cases hc : k < cs.length
    · have h2 : (encU cs)[k]? = some (.int .u8 (cs[k].toNat : Int)) := by unfold encU; rw [List.getElem?_map, List.getElem?_eq_getElem hc]; rfl
      have hsl := (seps_ok _ (sepB_mem cs[k]).2).2
      have hb3 : bs (pre ++ ts[k].text ++ [32]) ++ bs (sepB cs[k]) = bs (pre ++ ts[k].text ++ [32] ++ sepB cs[k]) := by apply ByteArray.ext; simp [bs]
      rw [decT (by omega), bsel_true, lgetX_of (by omega) (by rw [Int.toNat_natCast]; exact h2), vI_mk, sep7, vS_mk, chk_of (decT (by rw [bs_size, bs_size, List.length_append, List.length_append, List.length_singleton]; unfold LIM; omega)), hb3]
      refine ih (k + 1) _ (by omega) ?_ ?_
      · rw [List.drop_eq_getElem_cons hc, List.map_cons, List.headD_cons, List.tail_cons] at hpre
        rw [← hpre]; simp
      · simp only [List.length_append, List.length_singleton]; omega
    · rw [decF (by omega), bsel_false]
      refine ih (k + 1) _ (by omega) ?_ ?_
      · rw [List.drop_eq_nil_of_le (show cs.length ≤ k by omega)] at hpre
        rw [List.drop_eq_nil_of_le (show cs.length ≤ k + 1 by omega)]
        rw [← hpre]; simp
      · simp only [List.length_append, List.length_singleton]; omega
theorem pl_text {full : List UInt8} : ∀ {i : Nat} {ts : List Tok}, PlL full i ts → ∀ t, t ∈ ts → t.text.length ≤ full.length
  | _, [], h => h.elim
  | i, t :: ts, h => by
    intro x hx
    rcases h with ⟨rfl, _, h2, _⟩ | ⟨_, o, _, _, h3, _, _, _, h⟩
    · simp at hx; subst hx; rw [h2]; simp
    · rcases List.mem_cons.1 hx with hx | hx
      · subst hx; omega
      · exact pl_text h x hx
/-- LexerSpaces says true. -/
theorem c7 (s cs : List UInt8) : SS.CC 7 [.str (bs s), .sl false 1 (encU cs)] [] = Ret (.bool true) := by
  have hk : ∀ {K : PV → R}, clX SS.CC 11 [] K = K (.bool true) := fun {K} => clX_of c11
  rw [g7_eq, hk, vB_mk, Bool.not_true, bsel_false, bs_size, show (encU cs).length = cs.length from List.length_map _]
  by_cases h3 : 200 < s.length
  · rw [decT (by omega), bsel_true, hk, vB_mk]
  · rw [decF (by omega), bsel_false]
    by_cases h4 : 20 < cs.length
    · rw [decT (by omega), bsel_true, hk, vB_mk]
    · rw [decF (by omega), bsel_false, clX_of (c12 s)]
      rw [show scanT s = scanS (s.length + 1) s 0 1 0 [] by unfold scanT; rw [if_neg (by omega)]]
      cases h1 : scanS (s.length + 1) s 0 1 0 [] with
      | err a b e =>
        have he := scan_err _ _ _ _ _ _ (by omega) h1
        have hb : (e != 0) = true := by simp [bne_iff_ne, he]
        simp only [scanP, w_24_3_3_3_mk, hb, bsel_true]
        rfl
      | ok l =>
        obtain ⟨l', e1, hpl⟩ := scan_pl s (s.length + 1) s 0 [] l h1 rfl (Nat.zero_le _)
        rw [List.nil_append] at e1; subst e1
        have hl := pl_len hpl
        have htx := pl_text hpl
        obtain ⟨ts0, e, q1, q2, q3, q4, q5⟩ := scan_good _ _ _ _ _ _ _ h1 (by simp)
        have hseps : ∀ p, p ∈ cs.map sepB → SepOK p ∧ p.length ≤ 19 := fun p hp => by
          obtain ⟨c, _, rfl⟩ := List.mem_map.1 hp
          exact seps_ok _ (sepB_mem c).2
        obtain ⟨us, w1, w2⟩ := sp_scan e q3 q4 q5 ts0 (cs.map sepB) q2 (fun p hp => (hseps p hp).1) 0 1 0 []
        rw [← q1] at w1 w2
        have hsl := sp_len l (cs.map sepB) 200 (fun t ht => by have := htx t ht; omega) fun p hp => (hseps p hp).2
        have hlm : l.length * (200 + 20) ≤ 201 * 220 := Nat.mul_le_mul_right _ (by omega)
        have hall : scanT (spT l (cs.map sepB)) = .ok us := by
          unfold scanT
          rw [if_neg (by omega), scan_C, w1, List.nil_append]
        simp only [scanP, w_24_3_3_3_mk, show ((0 : Int) != 0) = false from rfl, bsel_false]
        exact sp7L cs l us (by omega) (by omega) (fun t ht => by have := htx t ht; omega) w2 _ rfl hall l.length 0 [] (by omega) rfl (by simp; omega)
theorem c7s (s : ByteArray) (cs : List UInt8) : SS.CC 7 [.str s, .sl false 1 (encU cs)] [] = Ret (.bool true) := by
  have := c7 s.data.toList cs
  rwa [bs_data] at this
end Go.Proofs.Ytoajpgclgdhhlaa.W

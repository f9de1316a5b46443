/-
  Plain laws of chapter 52: the compacted list runs alike; steps increase; bits that are not written stay.
-/
import Derived.Test.YtiejgieiokmmfaaDoorP52
namespace Go.Proofs.YtiejgieiokmmfaaDoor
set_option linter.unusedVariables false
set_option linter.unusedSimpArgs false
set_option linter.unnecessarySimpa false
set_option linter.unusedSectionVars false
open Go.RowKit
theorem comp_len (w : Nat) (l : List Ins) : (compS w l).length = idxS w l l.length := by unfold compS; rw [List.length_map, raw_len]
theorem comp_get {w : Nat} {l : List Ins} {i : Nat} {x : Ins} (hx : l[i]? = some x) (hk : keepS w l i x = true) : (compS w l)[idxS w l i]? = some (adjS w l x) := by
  unfold compS; rw [List.getElem?_map, raw_get hx hk]; rfl
theorem comp_inv {w : Nat} {l : List Ins} {k : Nat} {y : Ins} (h : (compS w l)[k]? = some y) : ∃ i x, l[i]? = some x ∧ keepS w l i x = true ∧ idxS w l i = k ∧ y = adjS w l x := by
  unfold compS at h
  rw [List.getElem?_map, Option.map_eq_some_iff] at h
  obtain ⟨x, h1, h2⟩ := h
  obtain ⟨i, _, h3, h4, h5⟩ := raw_inv w l h1
  exact ⟨i, x, h3, h4, h5, h2.symm⟩
theorem adj_op (w : Nat) (l : List Ins) (x : Ins) : (adjS w l x).1 = x.1 := by unfold adjS; split <;> rfl
theorem adj_lo {w : Nat} {l : List Ins} {x : Ins} (h : x.1 ≤ 10) : adjS w l x = x := by unfold adjS; rw [if_neg (by omega)]
theorem adj_hi {w : Nat} {l : List Ins} {x : Ins} (h : 11 ≤ x.1) : (adjS w l x).2 = (idxS w l x.2.toNat : Int) := by unfold adjS; rw [if_pos h]
theorem keep_of {w : Nat} {l : List Ins} {i : Nat} {x : Ins} (h : keepS w l i x = true) : RS l i = true ∧ DS w l i x = false := by
  unfold keepS at h; simpa using h
theorem comp_ok {w : Nat} {l : List Ins} (hok : okL w l) : okL w (compS w l) := by
  have hl : (compS w l).length ≤ 2048 := by rw [comp_len]; have := idx_le w l l.length; have := hok.1; omega
  refine ⟨hl, fun k y hy => ?_⟩
  obtain ⟨i, x, hx, hk, rfl, rfl⟩ := comp_inv hy
  obtain ⟨h1, h2, h3, h4⟩ := hok.2 i x hx
  unfold okI
  rw [adj_op]
  refine ⟨h1, h2, fun h => by rw [adj_lo h]; exact h3 h, fun h => ?_⟩
  rw [adj_hi h, comp_len]
  have := h4 h
  have e := idx_keep hx hk
  have m1 := idx_mono w l (i := i + 1) (j := x.2.toNat) (by omega)
  have m2 := idx_mono w l (i := x.2.toNat) (j := l.length) (by omega)
  omega
/-! ### the compacted list runs alike -/
def agrS (N b c : List Bool) : Prop := ∀ k, N.getD k false = true → b.getD k false = c.getD k false
theorem agr_all {w : Nat} {b c : List Bool} (hb : b.length = w) (hc : c.length = w) (h : agrS (List.replicate w true) b c) : b = c := by
  apply List.ext_getElem (by omega)
  intro k h1 h2
  have := h k (by rw [List.getD_eq_getElem?_getD, List.getElem?_replicate, if_pos (by omega)]; rfl)
  rw [List.getD_eq_getElem?_getD, List.getD_eq_getElem?_getD, List.getElem?_eq_getElem h1, List.getElem?_eq_getElem h2] at this
  exact this
theorem agr_or1 {a c b d : List Bool} (hl : a.length = c.length) (h : agrS (orS a c) b d) : agrS a b d := fun k hk => h k (by rw [orS_getD hl, hk]; rfl)
theorem agr_or2 {a c b d : List Bool} (hl : a.length = c.length) (h : agrS (orS a c) b d) : agrS c b d := fun k hk => h k (by rw [orS_getD hl, hk]; simp)
theorem sim {w : Nat} {l : List Ins} (hok : okL w l) : ∀ (f f' i : Nat) (acc : Bool) (b c : List Bool) (st st' : List Int), RS l i = true → i ≤ l.length → b.length = w → c.length = w → agrS (NS w l i) b c → l.length ≤ i + f → (compS w l).length ≤ idxS w l i + f' →
    (runS l f i acc b st).2 = (runS (compS w l) f' (idxS w l i) acc c st').2 := by
  have hfin : ∀ (f f' i : Nat) (acc : Bool) (b c : List Bool) (st st' : List Int), i = l.length → b.length = w → c.length = w → agrS (NS w l i) b c → (runS l f i acc b st).2 = (runS (compS w l) f' (idxS w l i) acc c st').2 := by
    intro f f' i acc b c st st' hi hb hc ha
    subst hi
    rw [NS_end w l (Nat.le_refl _)] at ha
    have hbc := agr_all hb hc ha
    subst hbc
    have e1 : (runS l f l.length acc b st).2 = b := by
      cases f with
      | zero => rfl
      | succ f => rw [runS, List.getElem?_eq_none (Nat.le_refl _)]
    have e2 : (runS (compS w l) f' (idxS w l l.length) acc b st').2 = b := by
      cases f' with
      | zero => rfl
      | succ f => rw [runS, List.getElem?_eq_none (by rw [comp_len]; exact Nat.le_refl _)]
    rw [e1, e2]
  intro f
  induction f with
  | zero =>
    intro f' i acc b c st st' hr hi hb hc ha hf hf'
    exact hfin 0 f' i acc b c st st' (by omega) hb hc ha
  | succ f ih =>
    intro f' i acc b c st st' hr hi hb hc ha hf hf'
    by_cases hin : i = l.length
    · exact hfin (f + 1) f' i acc b c st st' hin hb hc ha
    obtain ⟨x, hx⟩ := get_lt (show i < l.length by omega)
    obtain ⟨o1, o2, o3, o4⟩ := hok.2 i x hx
    obtain ⟨r1, r2⟩ := RS_step (fwd_of hok) hx (fun h => (o4 h).2) hr
    have hn1 := NS_len hok l.length (i + 1) (by omega)
    have hst := NS_step hok hx
    rw [runS, hx]
    simp only
    cases hk : keepS w l i x with
    | false =>
      have hd : DS w l i x = true := by unfold keepS at hk; rw [hr] at hk; simpa using hk
      have hd2 : (x.1 = 7 ∨ x.1 = 8) ∧ (NS w l (i + 1)).getD x.2.toNat false = false := by
        unfold DS at hd
        split at hd
        · rename_i h; refine ⟨h, ?_⟩; simpa [hr] using hd
        · cases hd
      rw [if_neg (by omega), if_pos (by omega)]
      have hidx := idx_drop hx hk
      rw [← hidx]
      refine ih f' (i + 1) acc _ c _ st' (r2 (by omega)) (by omega) (by simpa using hb) hc (fun k hkk => ?_) (by omega) (by rw [hidx]; exact hf')
      have hne : x.2.toNat ≠ k := fun e => by rw [e] at hd2; rw [hd2.2] at hkk; cases hkk
      rw [getD_setB, if_neg (by omega)]
      refine ha k ?_
      rw [hst, if_neg (by omega), if_pos (by omega), getD_setB, if_neg (by omega)]
      exact hkk
    | true =>
      have hidx := idx_keep hx hk
      have hq := comp_get hx hk
      have hql := (List.getElem?_eq_some_iff.1 hq).1
      obtain ⟨f', rfl⟩ : ∃ g, f' = g + 1 := ⟨f' - 1, by omega⟩
      rw [runS, hq]
      simp only
      rw [adj_op]
      by_cases h6 : x.1 ≤ 6
      · rw [if_pos h6, if_pos h6, adj_lo (by omega), ← hidx]
        rw [if_pos h6] at hst
        have hop := o3 (by omega)
        have hb1 : b.getD x.2.toNat false = c.getD x.2.toNat false := ha _ (by rw [hst, getD_setB, if_pos (by omega)])
        rw [← hb1]
        refine ih f' (i + 1) _ b c _ _ (r2 (by omega)) (by omega) hb hc (fun k hkk => ha k ?_) (by omega) (by omega)
        rw [hst, getD_setB]
        split
        · rfl
        · exact hkk
      · rw [if_neg h6, if_neg h6]
        by_cases h10 : x.1 ≤ 10
        · rw [if_pos h10, if_pos h10, adj_lo h10, ← hidx]
          have hop := o3 h10
          refine ih f' (i + 1) _ _ _ _ _ (r2 (by omega)) (by omega) (by simpa using hb) (by simpa using hc) (fun k hkk => ?_) (by omega) (by omega)
          rw [getD_setB, getD_setB, hb, hc]
          by_cases h8 : x.1 ≤ 8
          · rw [if_neg h6, if_pos h8] at hst
            split
            · have : x.1 = 7 ∨ x.1 = 8 := by omega
              rcases this with e | e <;> rw [e] <;> rfl
            · rename_i hne
              refine ha k ?_
              rw [hst, getD_setB, if_neg (by rw [hn1]; exact hne)]
              exact hkk
          · rw [if_neg h6, if_neg h8, if_pos h10] at hst
            rw [← hst] at hkk
            have hbk := ha k hkk
            split
            · rename_i he
              rw [he.1, hbk]
            · exact hbk
        · rw [if_neg h10, if_neg h10]
          have hj := o4 (by omega)
          have hn2 := NS_len hok l.length x.2.toNat (by omega)
          rw [if_neg h6, if_neg (by omega), if_neg h10] at hst
          rw [adj_hi (by omega), Int.toNat_natCast]
          have hm := idx_mono w l (i := i + 1) (j := x.2.toNat) (by omega)
          by_cases h11 : x.1 = 11
          · rw [if_pos h11] at hst
            have hjs : jumpS x.1 acc = true := by rw [h11]; rfl
            rw [if_pos hjs, if_pos hjs]
            exact ih f' x.2.toNat acc b c _ _ (r1 (by omega)) (by omega) hb hc (by rw [← hst]; exact ha) (by omega) (by omega)
          · rw [if_neg h11] at hst
            rw [hst] at ha
            cases hjs : jumpS x.1 acc with
            | true =>
              rw [if_pos rfl, if_pos rfl]
              exact ih f' x.2.toNat acc b c _ _ (r1 (by omega)) (by omega) hb hc (agr_or2 (by omega) ha) (by omega) (by omega)
            | false =>
              rw [if_neg (by simp), if_neg (by simp), ← hidx]
              exact ih f' (i + 1) acc b c _ _ (r2 h11) (by omega) hb hc (agr_or1 (by omega) ha) (by omega) (by omega)
theorem comp_run {w : Nat} {l : List Ins} (hok : okL w l) (b : List Bool) (hb : b.length = w) : (runS (compS w l) (compS w l).length 0 false b []).2 = (runS l l.length 0 false b []).2 :=
  (sim hok l.length (compS w l).length 0 false b b [] [] (RS_zero l) (by omega) hb hb (fun _ _ => rfl) (by omega) (by omega)).symm
theorem comp_reach {w : Nat} {l : List Ins} (hok : okL w l) (j : Nat) (h : RS l j = true) : RS (compS w l) (idxS w l j) = true := by
  have hq := comp_ok hok
  refine (RS_ind (fun j => RS l j = true ∧ RS (compS w l) (idxS w l j) = true) ⟨RS_zero l, RS_zero _⟩ (fun k x hx hQ => ?_) j h).2
  obtain ⟨hr, hQ⟩ := hQ
  obtain ⟨o1, o2, o3, o4⟩ := hok.2 k x hx
  obtain ⟨r1, r2⟩ := RS_step (fwd_of hok) hx (fun h => (o4 h).2) hr
  cases hk : keepS w l k x with
  | false =>
    have hd : DS w l k x = true := by unfold keepS at hk; rw [hr] at hk; simpa using hk
    have hd2 : x.1 = 7 ∨ x.1 = 8 := by
      unfold DS at hd
      split at hd
      · assumption
      · cases hd
    refine ⟨fun h => by omega, fun h => ⟨r2 h, ?_⟩⟩
    rw [idx_drop hx hk]; exact hQ
  | true =>
    have hg := comp_get hx hk
    obtain ⟨_, _, _, p4⟩ := hq.2 _ _ hg
    obtain ⟨s1, s2⟩ := RS_step (fwd_of hq) hg (fun h => (p4 h).2) hQ
    rw [adj_op] at s1 s2
    refine ⟨fun h => ⟨r1 h, ?_⟩, fun h => ⟨r2 h, ?_⟩⟩
    · have := s1 h
      rwa [adj_hi h, Int.toNat_natCast] at this
    · rw [idx_keep hx hk]; exact s2 h
theorem comp_all {w : Nat} {l : List Ins} (hok : okL w l) {k : Nat} (h : k < (compS w l).length) : RS (compS w l) k = true := by
  obtain ⟨y, hy⟩ := get_lt h
  obtain ⟨i, x, hx, hk, rfl, _⟩ := comp_inv hy
  exact comp_reach hok i (keep_of hk).1
/-! ### steps -/
theorem run_inc {w : Nat} {l : List Ins} (hok : okL w l) : ∀ (f i : Nat) (acc : Bool) (b : List Bool) (st : List Int), ∃ t, (runS l f i acc b st).1 = st ++ t ∧ (∀ y, y ∈ t → (i : Int) ≤ y) ∧ t.Pairwise (· < ·)
  | 0, i, acc, b, st => ⟨[], by simp [runS], by simp, List.Pairwise.nil⟩
  | f + 1, i, acc, b, st => by
    rw [runS]
    cases hx : l[i]? with
    | none => exact ⟨[], by simp, by simp, List.Pairwise.nil⟩
    | some x =>
      simp only
      obtain ⟨_, _, _, o4⟩ := hok.2 i x hx
      have key : ∀ (j : Nat) acc b, i < j → ∃ t, (runS l f j acc b (st ++ [(i : Int)])).1 = st ++ t ∧ (∀ y, y ∈ t → (i : Int) ≤ y) ∧ t.Pairwise (· < ·) := fun j acc b hij => by
        obtain ⟨t, h1, h2, h3⟩ := run_inc hok f j acc b (st ++ [(i : Int)])
        refine ⟨(i : Int) :: t, by rw [h1, List.append_assoc]; rfl, fun y hy => ?_, List.pairwise_cons.2 ⟨fun y hy => by have := h2 y hy; omega, h3⟩⟩
        rcases List.mem_cons.1 hy with rfl | hy
        · exact Int.le_refl _
        · have := h2 y hy; omega
      split
      · exact key _ _ _ (by omega)
      · split
        · exact key _ _ _ (by omega)
        · refine key _ _ _ ?_
          have := o4 (by omega)
          split <;> omega
theorem run_keep {w : Nat} {l : List Ins} (hok : okL w l) (k : Nat) (hk : ∀ (i : Nat) x, l[i]? = some x → RS l i = true → 7 ≤ x.1 → x.1 ≤ 10 → x.2.toNat ≠ k) : ∀ (f i : Nat) (acc : Bool) (b : List Bool) (st : List Int), RS l i = true → (runS l f i acc b st).2.getD k false = b.getD k false
  | 0, _, _, _, _, _ => rfl
  | f + 1, i, acc, b, st, hr => by
    rw [runS]
    cases hx : l[i]? with
    | none => rfl
    | some x =>
      simp only
      obtain ⟨o1, o2, o3, o4⟩ := hok.2 i x hx
      obtain ⟨r1, r2⟩ := RS_step (fwd_of hok) hx (fun h => (o4 h).2) hr
      split
      · exact run_keep hok k hk f _ _ _ _ (r2 (by omega))
      · split
        · rw [run_keep hok k hk f _ _ _ _ (r2 (by omega)), getD_setB, if_neg (fun h => hk i x hx hr (by omega) (by omega) h.1)]
        · split
          · exact run_keep hok k hk f _ _ _ _ (r1 (by omega))
          · rename_i hj
            refine run_keep hok k hk f _ _ _ _ (r2 fun e => hj ?_)
            rw [e]; rfl
/-! ### sorted lists without repeats -/
theorem inc_ext : ∀ {a b : List Int}, a.Pairwise (· < ·) → b.Pairwise (· < ·) → (∀ x, x ∈ a ↔ x ∈ b) → a = b
  | [], [], _, _, _ => rfl
  | [], y :: b, _, _, h => by have := (h y).2 (by simp); simp at this
  | x :: a, [], _, _, h => by have := (h x).1 (by simp); simp at this
  | x :: a, y :: b, ha, hb, h => by
    obtain ⟨a1, a2⟩ := List.pairwise_cons.1 ha
    obtain ⟨b1, b2⟩ := List.pairwise_cons.1 hb
    have hxy : x = y := by
      rcases List.mem_cons.1 ((h x).1 (by simp)) with e | e
      · exact e
      · rcases List.mem_cons.1 ((h y).2 (by simp)) with e2 | e2
        · exact e2.symm
        · have := b1 x e; have := a1 y e2; omega
    subst hxy
    rw [inc_ext a2 b2 fun z => ?_]
    constructor
    · intro hz
      rcases List.mem_cons.1 ((h z).1 (List.mem_cons_of_mem _ hz)) with e | e
      · have := a1 z hz; omega
      · exact e
    · intro hz
      rcases List.mem_cons.1 ((h z).2 (List.mem_cons_of_mem _ hz)) with e | e
      · have := b1 z hz; omega
      · exact e
end Go.Proofs.YtiejgieiokmmfaaDoor

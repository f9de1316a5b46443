/-
  Determinants of at most five rows, each expanded along its last row; what fraction-free elimination keeps; the combination that it finds is 0 on every row.
-/
namespace Go.Proofs.YtkkgfoknknehfaaDoor
set_option linter.unusedVariables false
set_option linter.unusedSimpArgs false
set_option linter.unnecessarySimpa false
set_option linter.unusedSectionVars false
set_option maxRecDepth 1000000
set_option maxHeartbeats 4000000
abbrev Rw := Nat → Int
/-- A determinant, expanded along its last row; rows and columns are listed from the last one on. -/
def dt : List Rw → List Nat → Int
  | [], _ => 1
  | _ :: _, [] => 1
  | r :: rs, c :: cs => r c * dt rs cs - ((List.range cs.length).map fun i => r (cs.getD i 0) * dt rs (cs.set i c)).sum
theorem dt0 (cs : List Nat) : dt [] cs = 1 := rfl
theorem dt1 (r : Rw) (a : Nat) : dt [r] [a] = r a := by simp [dt]
theorem dt2 (r s : Rw) (a b : Nat) : dt [s, r] [b, a] = s b * r a - s a * r b := by simp [dt]
theorem dt3 (r s t : Rw) (a b c : Nat) : dt [t, s, r] [c, b, a] = t c * dt [s, r] [b, a] - t b * dt [s, r] [c, a] - t a * dt [s, r] [b, c] := by
  rw [dt, show (List.range [b, a].length) = [0, 1] from rfl]; simp; grind
theorem dt4 (r s t u : Rw) (a b c d : Nat) : dt [u, t, s, r] [d, c, b, a] = u d * dt [t, s, r] [c, b, a] - u c * dt [t, s, r] [d, b, a] - u b * dt [t, s, r] [c, d, a] - u a * dt [t, s, r] [c, b, d] := by
  rw [dt, show (List.range [c, b, a].length) = [0, 1, 2] from rfl]; simp; grind
theorem dt5 (r s t u v : Rw) (a b c d e : Nat) : dt [v, u, t, s, r] [e, d, c, b, a] = v e * dt [u, t, s, r] [d, c, b, a] - v d * dt [u, t, s, r] [e, c, b, a] - v c * dt [u, t, s, r] [d, e, b, a] - v b * dt [u, t, s, r] [d, c, e, a] - v a * dt [u, t, s, r] [d, c, b, e] := by
  rw [dt, show (List.range [d, c, b, a].length) = [0, 1, 2, 3] from rfl]; simp; grind
/-- A row of a pivot, one step on. -/
theorem dt_p {rs : List Rw} {cs : List Nat} (h : rs.length = cs.length) (h3 : rs.length ≤ 3) (q : Rw) (k c : Nat) {i : Nat} (hi : i < cs.length) :
    dt (q :: rs) (k :: cs) * dt rs (cs.set i c) - dt rs (cs.set i k) * dt (q :: rs) (c :: cs) = dt rs cs * dt (q :: rs) (k :: cs.set i c) := by
  match rs, cs, i, h, hi with
  | [r], [a], 0, _, _ => simp only [List.set, dt2, dt1]; grind
  | [s, r], [b, a], 0, _, _ => simp only [List.set, dt3, dt2, dt1]; grind
  | [s, r], [b, a], 1, _, _ => simp only [List.set, dt3, dt2, dt1]; grind
  | [t, s, r], [d, b, a], 0, _, _ => simp only [List.set, dt4, dt3, dt2, dt1]; grind
  | [t, s, r], [d, b, a], 1, _, _ => simp only [List.set, dt4, dt3, dt2, dt1]; grind
  | [t, s, r], [d, b, a], 2, _, _ => simp only [List.set, dt4, dt3, dt2, dt1]; grind
  | [], [], _, _, hi => simp at hi
  | _ :: _ :: _ :: _ :: _, _, _, _, _ => simp at h3
  | [_, _, _], [_, _, _], _ + 3, _, hi => simp at hi; omega
  | [_, _], [_, _], _ + 2, _, hi => simp at hi; omega
  | [_], [_], _ + 1, _, hi => simp at hi
/-- Another row, one step on. -/
theorem dt_n {rs : List Rw} {cs : List Nat} (h : rs.length = cs.length) (h3 : rs.length ≤ 3) (q j : Rw) (k c : Nat) :
    dt (q :: rs) (k :: cs) * dt (j :: rs) (c :: cs) - dt (j :: rs) (k :: cs) * dt (q :: rs) (c :: cs) = dt rs cs * dt (j :: q :: rs) (c :: k :: cs) := by
  match rs, cs, h with
  | [], [], _ => simp only [dt2, dt1, dt0]; grind
  | [r], [a], _ => simp only [dt3, dt2, dt1]; grind
  | [s, r], [b, a], _ => simp only [dt4, dt3, dt2, dt1]; grind
  | [t, s, r], [d, b, a], _ =>
    have e1 := dt_p (rs := [t, s, r]) (cs := [d, b, a]) rfl (by simp) q k c (i := 0) (by simp)
    have e2 := dt_p (rs := [t, s, r]) (cs := [d, b, a]) rfl (by simp) q k c (i := 1) (by simp)
    have e3 := dt_p (rs := [t, s, r]) (cs := [d, b, a]) rfl (by simp) q k c (i := 2) (by simp)
    simp only [List.set] at e1 e2 e3
    rw [dt5, dt4 r s t j a b d c, dt4 r s t j a b d k]
    generalize dt [q, t, s, r] [k, d, b, a] = A at *
    generalize dt [q, t, s, r] [c, d, b, a] = B at *
    generalize dt [t, s, r] [d, b, a] = C at *
    grind
  | _ :: _ :: _ :: _ :: _, _, _ => simp at h3
/-- A row that occurs twice. -/
theorem dt_z {rs : List Rw} {cs : List Nat} (h : rs.length = cs.length) (h4 : rs.length ≤ 4) {r : Rw} (hr : r ∈ rs) (c : Nat) : dt (r :: rs) (c :: cs) = 0 := by
  match rs, cs, h with
  | [], _, _ => cases hr
  | [x], [a], _ => simp at hr; subst hr; simp only [dt2]; grind
  | [y, x], [b, a], _ => simp at hr; rcases hr with rfl | rfl <;> simp only [dt3, dt2] <;> grind
  | [z, y, x], [d, b, a], _ => simp at hr; rcases hr with rfl | rfl | rfl <;> simp only [dt4, dt3, dt2] <;> grind
  | [w, z, y, x], [e, d, b, a], _ => simp at hr; rcases hr with rfl | rfl | rfl | rfl <;> simp only [dt5, dt4, dt3, dt2] <;> grind
  | _ :: _ :: _ :: _ :: _ :: _, _, _ => simp at h4
/-- How great it is, with entries of at most 2. -/
def dB : Nat → Int
  | 0 => 1
  | n + 1 => 2 * (n + 1) * dB n
theorem dB_pos : ∀ n, 0 < dB n
  | 0 => by decide
  | n + 1 => by have := dB_pos n; rw [dB]; exact Int.mul_pos (by omega) this
theorem dt_b : ∀ {rs : List Rw} {cs : List Nat}, rs.length = cs.length → (∀ r, r ∈ rs → ∀ c, -2 ≤ r c ∧ r c ≤ 2) → -dB rs.length ≤ dt rs cs ∧ dt rs cs ≤ dB rs.length
  | [], cs, _, _ => by simp [dt0, dB]
  | r :: rs, [], h, _ => by simp at h
  | r :: rs, c :: cs, h, hb => by
    have hl : rs.length = cs.length := by simpa using h
    have hb' := fun r' hr' => hb r' (List.mem_cons_of_mem _ hr')
    have hm : ∀ {a b B : Int}, -2 ≤ a → a ≤ 2 → -B ≤ b → b ≤ B → -(2 * B) ≤ a * b ∧ a * b ≤ 2 * B := fun {a b B} h1 h2 h3 h4 => by
      have : a = -2 ∨ a = -1 ∨ a = 0 ∨ a = 1 ∨ a = 2 := by omega
      rcases this with rfl | rfl | rfl | rfl | rfl <;> omega
    have key : ∀ L : List Nat, -(2 * dB rs.length * L.length) ≤ (L.map fun i => r (cs.getD i 0) * dt rs (cs.set i c)).sum ∧ (L.map fun i => r (cs.getD i 0) * dt rs (cs.set i c)).sum ≤ 2 * dB rs.length * L.length := by
      intro L
      induction L with
      | nil => simp
      | cons i L ih =>
        obtain ⟨h1, h2⟩ := hb r (by simp) (cs.getD i 0)
        obtain ⟨h3, h4⟩ := dt_b (rs := rs) (cs := cs.set i c) (by rw [List.length_set]; exact hl) hb'
        obtain ⟨h5, h6⟩ := hm h1 h2 h3 h4
        simp only [List.map_cons, List.sum_cons, List.length_cons]
        have e : 2 * dB rs.length * ((L.length + 1 : Nat) : Int) = 2 * dB rs.length * (L.length : Int) + 2 * dB rs.length := by
          rw [Int.natCast_add, Int.mul_add]; simp
        omega
    have k1 := key (List.range cs.length)
    obtain ⟨h1, h2⟩ := hb r (by simp) c
    obtain ⟨h3, h4⟩ := dt_b (rs := rs) (cs := cs) hl hb'
    obtain ⟨h5, h6⟩ := hm h1 h2 h3 h4
    rw [dt, List.length_cons, dB]
    rw [List.length_range, ← hl] at k1
    have e : 2 * ((rs.length : Int) + 1) * dB rs.length = 2 * dB rs.length * (rs.length : Int) + 2 * dB rs.length := by
      rw [Int.mul_add, Int.add_mul, Int.mul_right_comm]; omega
    rw [← hl] at *
    rw [e]
    omega
theorem psum {a b : List Int} (h : a.Perm b) : a.sum = b.sum := by
  induction h with
  | nil => rfl
  | cons x _ ih => simp only [List.sum_cons, ih]
  | swap x y l => simp only [List.sum_cons]; omega
  | trans _ _ i1 i2 => rw [i1, i2]
/-- What the elimination keeps: K columns of which k are done, the rows as they stand (A), the last pivot, the column that is free, the pivots' columns (the last one first), the rows at the start in their present order. -/
structure EI (K : Nat) (src : List Rw) (k : Nat) (A : Nat → Nat → Int) (last : Int) (fr : Option Nat) (cs : List Nat) (O : List Rw) : Prop where
  mem : ∀ r, r ∈ src → r ∈ O
  sub : ∀ r, r ∈ O → r ∈ src
  len : O.length = src.length
  pl : cs.length ≤ O.length
  nd : (fr.toList ++ cs).Nodup
  cols : ∀ c, c ∈ fr.toList ++ cs ↔ c < k
  la : last = dt (O.take cs.length).reverse cs
  nz : last ≠ 0
  lo : ∀ j, j < cs.length → ∀ c, c < K → A j c = dt (O.take cs.length).reverse (cs.set (cs.length - 1 - j) c)
  hi : ∀ j, cs.length ≤ j → ∀ r, O[j]? = some r → ∀ c, c < K → A j c = dt (r :: (O.take cs.length).reverse) (c :: cs)
  z : ∀ f, fr = some f → ∀ j, cs.length ≤ j → j < O.length → A j f = 0
theorem EI.start {K : Nat} {src : List Rw} {A : Nat → Nat → Int} (h : ∀ j r, src[j]? = some r → ∀ c, c < K → A j c = r c) : EI K src 0 A 1 none [] src :=
  ⟨fun r hr => hr, fun r hr => hr, rfl, Nat.zero_le _, by simp, by simp, rfl, by decide, fun j hj => by simp at hj, fun j _ r hr c hc => by rw [h j r hr c hc]; exact (dt1 r c).symm, fun f hf => by cases hf⟩
theorem EI.cnt {K : Nat} {src : List Rw} {k : Nat} {A : Nat → Nat → Int} {last : Int} {fr : Option Nat} {cs : List Nat} {O : List Rw} (h : EI K src k A last fr cs O) : (fr.toList ++ cs).Perm (List.range k) := by
  rw [List.perm_ext_iff_of_nodup h.nd List.nodup_range]
  intro c
  rw [h.cols, List.mem_range]
section
variable {K : Nat} {src : List Rw} {k : Nat} {A : Nat → Nat → Int} {last : Int} {cs : List Nat} {O : List Rw}
theorem EI.free (h : EI K src k A last none cs O) (hz : ∀ j, cs.length ≤ j → j < O.length → A j k = 0) : EI K src (k + 1) A last (some k) cs O :=
  { h with
    nd := by
      have := h.nd
      have hc := h.cols k
      simp at this hc ⊢
      exact ⟨hc, this⟩
    cols := fun c => by
      have := h.cols c
      simp at this ⊢
      rw [this]; omega
    z := fun f hf => by injection hf with hf; subst hf; exact hz }
theorem EI.pivot {fr : Option Nat} (h : EI K src k A last fr cs O) (hk : k < K) (h3 : cs.length ≤ 3) {i : Nat} (hi : cs.length ≤ i) (hn : i < O.length) (hp : A i k ≠ 0) {A1 A' : Nat → Nat → Int}
    (h1 : ∀ j, A1 j = A (if j = cs.length then i else if j = i then cs.length else j))
    (h2 : ∀ j, j < O.length → ∀ c, c < K → A' j c = if j = cs.length then A1 j c else (A1 cs.length k * A1 j c - A1 j k * A1 cs.length c).tdiv last) :
    ∃ O', EI K src (k + 1) A' (A1 cs.length k) fr (k :: cs) O' := by
  obtain ⟨q, hq⟩ : ∃ q, O[i]? = some q := ⟨_, List.getElem?_eq_getElem hn⟩
  obtain ⟨o, ho⟩ : ∃ o, O[cs.length]? = some o := ⟨_, List.getElem?_eq_getElem (by omega)⟩
  have hfr : ∀ c, c ∈ fr.toList ++ cs → c < k := fun c hc => (h.cols c).1 hc
  let O' := (O.set i o).set cs.length q
  have hget : ∀ j, O'[j]? = O[if j = cs.length then i else if j = i then cs.length else j]? := fun j => by
    show ((O.set i o).set cs.length q)[j]? = _
    by_cases e1 : j = cs.length
    · subst e1
      rw [if_pos rfl, List.getElem?_set_self (by rw [List.length_set]; omega), hq]
    · rw [if_neg e1, List.getElem?_set_ne (fun e => e1 e.symm)]
      by_cases e2 : j = i
      · subst e2
        rw [if_pos rfl, List.getElem?_set_self hn, ho]
      · rw [if_neg e2, List.getElem?_set_ne (fun e => e2 e.symm)]
  have hl : O'.length = O.length := by show ((O.set i o).set cs.length q).length = _; simp
  have ht : O'.take cs.length = O.take cs.length := by
    show ((O.set i o).set cs.length q).take cs.length = _
    rw [List.take_set_of_le (Nat.le_refl _), List.take_set_of_le hi]
  have ht1 : O'.take (cs.length + 1) = O.take cs.length ++ [q] := by
    have : O'[cs.length]? = some q := by rw [hget, if_pos rfl, hq]
    rw [List.take_add_one, ht, this]; rfl
  have hrs : (O'.take (k :: cs).length).reverse = q :: (O.take cs.length).reverse := by
    rw [List.length_cons, ht1]; simp
  have hlen : (O.take cs.length).reverse.length = cs.length := by rw [List.length_reverse, List.length_take]; have := h.pl; omega
  have hA1p : ∀ c, c < K → A1 cs.length c = dt (q :: (O.take cs.length).reverse) (c :: cs) := fun c hc => by
    rw [h1, if_pos rfl, h.hi i hi q hq c hc]
  refine ⟨O', ⟨fun r hr => ?_, fun r hr => ?_, hl.trans h.len, by rw [hl, List.length_cons]; omega, ?_, fun c => ?_, ?_, ?_, fun j hj c hc => ?_, fun j hj r hr c hc => ?_, fun f hf j hj hjn => ?_⟩⟩
  · obtain ⟨m, hm⟩ := List.mem_iff_getElem?.1 (h.mem r hr)
    refine List.mem_iff_getElem?.2 ⟨if m = cs.length then i else if m = i then cs.length else m, ?_⟩
    rw [hget]
    by_cases e1 : m = cs.length
    · subst e1
      rw [if_pos rfl]
      by_cases e2 : i = cs.length
      · rw [if_pos e2, e2, hm]
      · rw [if_neg e2, if_pos rfl, hm]
    · rw [if_neg e1]
      by_cases e2 : m = i
      · subst e2
        rw [if_pos rfl, if_pos rfl, hm]
      · rw [if_neg e2, if_neg e1, if_neg e2, hm]
  · rcases List.mem_or_eq_of_mem_set hr with h5 | h5
    · rcases List.mem_or_eq_of_mem_set h5 with h6 | h6
      · exact h.sub r h6
      · exact h.sub r (h6 ▸ List.mem_of_getElem? ho)
    · exact h.sub r (h5 ▸ List.mem_of_getElem? hq)
  · have := h.nd
    have hkn := fun c hc => Nat.ne_of_lt (hfr c hc)
    rw [List.nodup_append] at this ⊢
    refine ⟨this.1, List.nodup_cons.2 ⟨fun hm => hkn k (List.mem_append_right _ hm) rfl, this.2.1⟩, fun a ha b hb => ?_⟩
    rcases List.mem_cons.1 hb with rfl | hb
    · exact hkn a (List.mem_append_left _ ha)
    · exact this.2.2 a ha b hb
  · have := h.cols c
    simp only [List.mem_append, List.mem_cons] at this ⊢
    by_cases e : c = k
    · subst e; simp
    · constructor
      · rintro (hm | hm | hm)
        · have := this.1 (.inl hm); omega
        · exact absurd hm e
        · have := this.1 (.inr hm); omega
      · intro hm
        rcases this.2 (by omega) with h5 | h5
        · exact .inl h5
        · exact .inr (.inr h5)
  · rw [hrs, hA1p k hk]
  · rw [h1, if_pos rfl]; exact hp
  · rw [hrs]
    rw [List.length_cons] at hj
    rw [h2 j (by omega) c hc]
    by_cases e : j = cs.length
    · rw [if_pos e, e, hA1p c hc]
      simp
    · rw [if_neg e, hA1p c hc, hA1p k hk, show A1 j = A j by rw [h1, if_neg e, if_neg (by omega)], h.lo j (by omega) c hc, h.lo j (by omega) k hk,
        dt_p (by rw [hlen]) (by rw [hlen]; exact h3) q k c (by omega), h.la, Int.mul_tdiv_cancel_left _ (by rw [← h.la]; exact h.nz)]
      rw [List.length_cons, show cs.length + 1 - 1 - j = (cs.length - 1 - j) + 1 by omega, List.set_cons_succ]
  · rw [hrs]
    rw [List.length_cons] at hj
    have hjl : j < O.length := by rw [← hl]; exact (List.getElem?_eq_some_iff.1 hr).1
    rw [hget, if_neg (by omega)] at hr
    have hA1j : ∀ c, c < K → A1 j c = dt (r :: (O.take cs.length).reverse) (c :: cs) := fun c hc => by
      rw [h1, if_neg (by omega), h.hi _ (by split <;> omega) r hr c hc]
    rw [h2 j hjl c hc, if_neg (by omega), hA1p c hc, hA1p k hk, hA1j c hc, hA1j k hk, dt_n (by rw [hlen]) (by rw [hlen]; exact h3) q r k c, h.la, Int.mul_tdiv_cancel_left _ (by rw [← h.la]; exact h.nz)]
  · rw [List.length_cons] at hj
    have hfk : f < K := by have := hfr f (by rw [hf]; simp); omega
    have z1 : ∀ m, cs.length ≤ m → m < O.length → A m f = 0 := h.z f hf
    rw [h2 j (by rw [← hl]; exact hjn) f hfk, if_neg (by omega), h1 j, h1 cs.length, if_pos rfl, if_neg (by omega), z1 i hi hn, z1 _ (by split <;> omega) (by rw [hl] at hjn; split <;> omega)]
    simp
/-- How great the entries are. -/
theorem EI.bd {fr : Option Nat} (h : EI K src k A last fr cs O) (hb : ∀ r, r ∈ src → ∀ c, -2 ≤ r c ∧ r c ≤ 2) (h4 : cs.length ≤ 4) : (-384 ≤ last ∧ last ≤ 384) ∧ ∀ j, j < O.length → ∀ c, c < K → -3840 ≤ A j c ∧ A j c ≤ 3840 := by
  have hlen : (O.take cs.length).reverse.length = cs.length := by rw [List.length_reverse, List.length_take]; have := h.pl; omega
  have hO : ∀ r, r ∈ (O.take cs.length).reverse → ∀ c, -2 ≤ r c ∧ r c ≤ 2 := fun r hr => hb r (h.sub r (List.mem_of_mem_take (List.mem_reverse.1 hr)))
  have hm : ∀ n, n ≤ 4 → dB n ≤ 384 ∧ dB (n + 1) ≤ 3840 := fun n hn => by
    have : n = 0 ∨ n = 1 ∨ n = 2 ∨ n = 3 ∨ n = 4 := by omega
    rcases this with rfl | rfl | rfl | rfl | rfl <;> decide
  have h5 := hm _ h4
  refine ⟨?_, fun j hj c hc => ?_⟩
  · have := dt_b hlen hO
    rw [hlen] at this
    rw [h.la]; omega
  · by_cases e : j < cs.length
    · have := dt_b (cs := cs.set (cs.length - 1 - j) c) (by rw [List.length_set]; exact hlen) hO
      rw [hlen] at this
      rw [h.lo j e c hc]; omega
    · have hr := List.getElem?_eq_getElem hj
      have := dt_b (rs := O[j] :: (O.take cs.length).reverse) (cs := c :: cs) (by simp [hlen]) (fun r hr => by
        rcases List.mem_cons.1 hr with rfl | hr
        · exact hb _ (h.sub _ (List.getElem_mem hj))
        · exact hO r hr)
      rw [List.length_cons, hlen] at this
      rw [h.hi j (by omega) _ hr c hc]; omega
theorem EI.lens {fr : Option Nat} (h : EI K src k A last fr cs O) : fr.toList.length + cs.length = k := by
  have := h.cnt.length_eq
  rw [List.length_append, List.length_range] at this; exact this
/-- The combination that is read off at the end is 0 on every row. -/
theorem EI.sol {f : Nat} (h : EI K src K A last (some f) cs O) (h4 : cs.length ≤ 4) {x : Nat → Int} (xf : x f = last) (xc : ∀ i, i < cs.length → ∀ c, cs[i]? = some c → x c = -A (cs.length - 1 - i) f) {r : Rw} (hr : r ∈ src) :
    ((List.range K).map fun c => x c * r c).sum = 0 := by
  have hlen : (O.take cs.length).reverse.length = cs.length := by rw [List.length_reverse, List.length_take]; have := h.pl; omega
  have hfK : f < K := (h.cols f).1 (by simp)
  have hd : dt (r :: (O.take cs.length).reverse) (f :: cs) = 0 := by
    obtain ⟨m, hm⟩ := List.mem_iff_getElem?.1 (h.mem r hr)
    by_cases e : m < cs.length
    · refine dt_z hlen (by rw [hlen]; exact h4) ?_ f
      rw [List.mem_reverse]
      exact List.mem_iff_getElem?.2 ⟨m, by rw [List.getElem?_take, if_pos e, hm]⟩
    · rw [← h.hi m (by omega) r hm f hfK]
      exact h.z f rfl m (by omega) (List.getElem?_eq_some_iff.1 hm).1
  have hp := h.cnt
  have hs : ((List.range K).map fun c => x c * r c).sum = (([f] ++ cs).map fun c => x c * r c).sum := by
    exact (psum (hp.map _)).symm
  rw [hs, List.map_append, List.sum_append_int]
  have hsum : (cs.map fun c => x c * r c).sum = -((List.range cs.length).map fun i => r (cs.getD i 0) * dt (O.take cs.length).reverse (cs.set i f)).sum := by
    have e1 : cs.map (fun c => x c * r c) = (List.range cs.length).map fun i => x (cs.getD i 0) * r (cs.getD i 0) := by
      apply List.ext_getElem (by simp)
      intro i h1 h2
      simp at h1 ⊢
      rw [List.getElem?_eq_getElem h1]; simp
    rw [e1]
    have e2 : ∀ L : List Nat, (∀ i, i ∈ L → i < cs.length) → (L.map fun i => x (cs.getD i 0) * r (cs.getD i 0)).sum = -(L.map fun i => r (cs.getD i 0) * dt (O.take cs.length).reverse (cs.set i f)).sum := by
      intro L hL
      induction L with
      | nil => simp
      | cons i L ih =>
        have hi := hL i (by simp)
        have hx := xc i hi (cs.getD i 0) (by simp [List.getElem?_eq_getElem hi])
        have hlo := h.lo (cs.length - 1 - i) (by omega) f hfK
        rw [show cs.length - 1 - (cs.length - 1 - i) = i by omega] at hlo
        simp only [List.map_cons, List.sum_cons]
        rw [ih fun j hj => hL j (List.mem_cons_of_mem _ hj), hx, hlo, Int.neg_add, Int.neg_mul, Int.mul_comm]
    exact e2 _ fun i hi => List.mem_range.1 hi
  rw [hsum]
  simp only [List.map_cons, List.map_nil, List.sum_cons, List.sum_nil]
  rw [dt, ← h.la] at hd
  rw [xf, Int.mul_comm last]
  omega
end
end Go.Proofs.YtkkgfoknknehfaaDoor

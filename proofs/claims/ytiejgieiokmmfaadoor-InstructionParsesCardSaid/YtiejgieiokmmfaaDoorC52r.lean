/-
  Contracts: the model's parse; the law Parses.
-/
import Derived.Test.YtiejgieiokmmfaaDoorC52q
namespace Go.Proofs.YtiejgieiokmmfaaDoor
set_option linter.unusedVariables false
set_option linter.unusedSimpArgs false
set_option linter.unnecessarySimpa false
set_option linter.unusedSectionVars false
open Go.RowKit
def objM (p : Prg) : Objs := [some [.int .i64 p.ni, .int .i64 p.no, .int .i64 p.nm, .sl true 1 (bitL p.start), .sl true 2 (insL p.list)]]
/-! ### the line of the memory -/
theorem l57 (p : Prg) (w a : List UInt8) (ha : a.length ≤ 1000000) : ∀ (m k : Nat) (s : List Bool), k + m = a.length → s.length ≤ 10000000 + k →
    ∃ s', g57_L14 (strsL [w, a]) p.ni p.no p.nm (bitL s) (insL p.list) (k : Int) = some (.bool ((a.drop k).all d01), objM { p with start := s' }) ∧ ((a.drop k).all d01 = true → s' = s ++ (a.drop k).map (· == 49)) := by
  have i1 : ∀ (K : PV → R), lgetX (strsL [w, a]) 1 K = K (.str (bs a)) := fun K => strsL_get (k := 1) rfl
  intro m
  induction m with
  | zero =>
    intro k s h hs
    rw [g57_L14_eq, i1, vS_mk, bs_size, decF (by omega), bsel_false, List.drop_of_length_le (by omega)]
    exact ⟨s, rfl, fun _ => by simp⟩
  | succ m ih =>
    intro k s h hs
    obtain ⟨x, hx⟩ := get_lt (show k < a.length by omega)
    rw [g57_L14_eq, i1, vS_mk, bs_size, decT (by omega), bsel_true, i1, vS_mk, bs_get hx, drop_get hx, List.all_cons]
    by_cases hd : d01 x = true
    · have hx48 : x = 48 ∨ x = 49 := by simpa [d01] using hd
      rw [hd, Bool.true_and]
      have next : ∃ s', g57_J18 (strsL [w, a]) p.ni p.no p.nm (bitL s) (insL p.list) (k : Int) = some (.bool ((a.drop (k + 1)).all d01), objM { p with start := s' }) ∧ ((a.drop (k + 1)).all d01 = true → s' = s ++ (x :: a.drop (k + 1)).map (· == 49)) := by
        rw [g57_J18_eq, i1, vS_mk, bs_get hx, chk_of (by simp [LIM]; omega), bitL_snoc, wrs (by omega)]
        obtain ⟨s', g1, g2⟩ := ih (k + 1) (s ++ [((x.toNat : Int) == 49)]) (by omega) (by simp; omega)
        refine ⟨s', g1, fun h => ?_⟩
        rw [g2 h]
        have : (((x.toNat : Nat) : Int) == 49) = (x == 49) := by rcases hx48 with rfl | rfl <;> rfl
        rw [this]; simp
      rcases hx48 with rfl | rfl
      · rw [show ((((48 : UInt8).toNat : Nat) : Int) != 48) = false from rfl, bsel_false]; exact next
      · rw [show ((((49 : UInt8).toNat : Nat) : Int) != 48) = true from rfl, bsel_true, i1, vS_mk, bs_get hx, show ((((49 : UInt8).toNat : Nat) : Int) != 49) = false from rfl, bsel_false]; exact next
    · have hd' : d01 x = false := by simpa using hd
      have this : x ≠ 48 ∧ x ≠ 49 := by simpa [d01] using hd'
      have ne : ∀ d : UInt8, x ≠ d → ((x.toNat : Nat) : Int) ≠ (d.toNat : Int) := fun d h e => h (UInt8.toNat_inj.1 (by omega))
      have q1 : ((x.toNat : Nat) : Int) ≠ 48 := ne 48 this.1
      have q2 : ((x.toNat : Nat) : Int) ≠ 49 := ne 49 this.2
      rw [neT q1, bsel_true, i1, vS_mk, bs_get hx, neT q2, bsel_true, hd', Bool.false_and]
      exact ⟨s, rfl, fun h => by cases h⟩
/-! ### the line of an instruction -/
def nmT : List (List UInt8) := [[], [76, 68], [76, 68, 78], [65, 78, 68], [65, 78, 68, 78], [79, 82], [79, 82, 78], [83, 84], [83, 84, 78], [83], [82], [74, 77, 80], [74, 77, 80, 67], [74, 77, 80, 67, 78]]
theorem c74 : SS.CC 74 [] [] = Ret (.sl false 1 (strsL nmT)) := g74_eq
theorem nm_step (p : Prg) (a b t : List UInt8) {k : Nat} (ht : nmT[k]? = some t) (acc : Int) : g57_L24 (strsL [a, b]) p.ni p.no p.nm (bitL p.start) (insL p.list) (k : Int) acc = g57_L24 (strsL [a, b]) p.ni p.no p.nm (bitL p.start) (insL p.list) ((k + 1 : Nat) : Int) (if a = t then (k : Int) else acc) := by
  have i0 : ∀ (K : PV → R), lgetX (strsL [a, b]) 0 K = K (.str (bs a)) := fun K => strsL_get (k := 0) rfl
  have hk : k < nmT.length := (List.getElem?_eq_some_iff.1 ht).1
  have hk14 : k < 14 := hk
  rw [g57_L24_eq, clX_of c74, vL_mk, strsL_len, decT (by omega), bsel_true, clX_of c74, vL_mk, strsL_get ht, vS_mk, i0, vS_mk, bs_tl, bs_tl, wrs (by omega)]
  by_cases h : a = t
  · rw [beqT h.symm, bsel_true, if_pos h]
  · rw [beqF (fun e => h e.symm), bsel_false, if_neg h]
theorem nm_all (p : Prg) (a b : List UInt8) : g57_L24 (strsL [a, b]) p.ni p.no p.nm (bitL p.start) (insL p.list) 1 0 = g57_L24 (strsL [a, b]) p.ni p.no p.nm (bitL p.start) (insL p.list) 14 ((opOf a : Nat) : Int) := by
  have s := fun (k : Nat) (t : List UInt8) (ht : nmT[k]? = some t) acc => nm_step p a b t ht acc
  rw [show (1 : Int) = ((1 : Nat) : Int) from rfl, s 1 _ rfl, s 2 _ rfl, s 3 _ rfl, s 4 _ rfl, s 5 _ rfl, s 6 _ rfl, s 7 _ rfl, s 8 _ rfl, s 9 _ rfl, s 10 _ rfl, s 11 _ rfl, s 12 _ rfl, s 13 _ rfl]
  congr 1
  unfold opOf
  by_cases h : a = [76, 68]
  · subst h; rfl
  simp only [if_neg h]; clear h
  by_cases h : a = [76, 68, 78]
  · subst h; rfl
  simp only [if_neg h]; clear h
  by_cases h : a = [65, 78, 68]
  · subst h; rfl
  simp only [if_neg h]; clear h
  by_cases h : a = [65, 78, 68, 78]
  · subst h; rfl
  simp only [if_neg h]; clear h
  by_cases h : a = [79, 82]
  · subst h; rfl
  simp only [if_neg h]; clear h
  by_cases h : a = [79, 82, 78]
  · subst h; rfl
  simp only [if_neg h]; clear h
  by_cases h : a = [83, 84]
  · subst h; rfl
  simp only [if_neg h]; clear h
  by_cases h : a = [83, 84, 78]
  · subst h; rfl
  simp only [if_neg h]; clear h
  by_cases h : a = [83]
  · subst h; rfl
  simp only [if_neg h]; clear h
  by_cases h : a = [82]
  · subst h; rfl
  simp only [if_neg h]; clear h
  by_cases h : a = [74, 77, 80]
  · subst h; rfl
  simp only [if_neg h]; clear h
  by_cases h : a = [74, 77, 80, 67]
  · subst h; rfl
  simp only [if_neg h]; clear h
  by_cases h : a = [74, 77, 80, 67, 78]
  · subst h; rfl
  simp only [if_neg h]
  rfl
theorem j47 (p : Prg) (k v : Int) (b : Bool) (hl : p.list.length ≤ 1000000) : g57_J47 b p.ni p.no p.nm (bitL p.start) (insL p.list) k v = some (.bool b, objM { p with list := p.list ++ [(k, v)] }) := by
  rw [g57_J47_eq, chk_of (by simp [LIM]; omega), insL_snoc p.list (k, v)]; rfl
/-- The line of an instruction in the model: p is the model's program. -/
theorem j20 (p : Prg) (i0' : 0 ≤ p.ni) (i1' : p.ni < 1000000) (o0 : 0 ≤ p.no) (o1 : p.no < 1000000) (m0 : 0 ≤ p.nm) (m1 : p.nm < 1000000) (ws : List (List UInt8)) (hw : ∀ w, w ∈ ws → w.length ≤ 1000000) (hl : p.list.length ≤ 1000000) :
    ∃ q, g57_J20 (strsL ws) p.ni p.no p.nm (bitL p.start) (insL p.list) = some (.bool (instrR p ws).isSome, objM q) ∧ ∀ x b, instrR p ws = some (x, b) → q = { p with list := p.list ++ [if b = true then (x.1, p.ni + p.no + p.nm) else x] } := by
  rw [g57_J20_eq, strsL_len]
  have no : ∀ {r : R} {y : Option (Ins × Bool)}, y = none → r = some (.bool false, objM p) → ∃ q, r = some (.bool y.isSome, objM q) ∧ ∀ x b, y = some (x, b) → q = { p with list := p.list ++ [if b = true then (x.1, p.ni + p.no + p.nm) else x] } := fun h h' => ⟨p, by rw [h, h']; rfl, fun x b e => by rw [h] at e; cases e⟩
  by_cases hl2 : ws.length = 2
  rotate_left
  · rw [neT (by omega), bsel_true]
    refine no ?_ rfl
    unfold instrR; split
    · exact absurd rfl hl2
    · rfl
  obtain ⟨a, b, rfl⟩ := len2 hl2
  have i1 : ∀ (K : PV → R), lgetX (strsL [a, b]) 1 K = K (.str (bs b)) := fun K => strsL_get (k := 1) rfl
  have hb := hw b (by simp)
  have h13 := opOf_le a
  rw [neF (by simp), bsel_false, i1, vS_mk, bs_tl, nil_tl]
  cases b with
  | nil =>
    rw [beqT rfl, bsel_true]
    refine no ?_ rfl
    rw [instrR]
    split
    · rfl
    · unfold instrB numJ; split <;> rfl
  | cons c l =>
    have hlen : l.length ≤ 1000000 := by simp at hb; omega
    rw [beqF (by simp), bsel_false, nm_all, g57_L24_eq, clX_of c74, vL_mk, strsL_len, show decide ((14 : Int) < ((nmT.length : Nat) : Int)) = false from rfl, bsel_false]
    by_cases h0 : opOf a = 0
    · rw [eqT (by omega), bsel_true]
      exact no (by rw [instrR, if_pos h0]) rfl
    have ir : instrR p [a, c :: l] = instrB p (opOf a) (c :: l) := by rw [instrR, if_neg h0]
    rw [eqF (by omega), bsel_false, clX_of (c23 _), vB_mk, ir]
    unfold instrB
    by_cases h11 : 11 ≤ opOf a
    · rw [decT (by omega), decT (by omega), Bool.and_self, bsel_true, i1, vS_mk, num_w' hb, chk_of (by simp [LIM]; omega), if_pos h11]
      unfold numJ
      refine ⟨{ p with list := p.list ++ [((opOf a : Int), (((numS (c :: l)).getD 0 : Nat) : Int))] }, ?_, fun x b h => ?_⟩
      · rw [insL_snoc p.list ((opOf a : Int), (((numS (c :: l)).getD 0 : Nat) : Int))]
        cases numS (c :: l) <;> rfl
      · obtain ⟨n, hn, e⟩ := Option.map_eq_some_iff.1 h
        injection e with e1 e2; subst e1; subst e2
        rw [hn]; rfl
    · have hex : (bs (c :: l)).extract (1 : Int).toNat (bs (c :: l)).size = bs l := by
        rw [bs_size, bs_extract, List.take_of_length_le (by simp)]; rfl
      rw [decF (by omega), Bool.false_and, bsel_false, i1, vS_mk, chk_of (by simp; omega), hex, num_w' hlen, i1, vS_mk, show (0 : Int) = ((0 : Nat) : Int) from rfl, bs_get (x := c) rfl, if_neg h11]
      have fin : ∀ fc : Int × Int, -100000000 < fc.1 ∧ fc.1 < 100000000 → ∃ q, g57_J44 ((((numS l).getD 0 : Nat)) : Int) (numS l).isSome fc.2 p.no p.nm (bitL p.start) (insL p.list) ((opOf a : Nat) : Int) p.ni fc.1 = some (.bool (numK (opOf a) fc l).isSome, objM q) ∧
          ∀ x b, numK (opOf a) fc l = some (x, b) → q = { p with list := p.list ++ [if b = true then (x.1, p.ni + p.no + p.nm) else x] } := fun fc h => by
        have hi : (numK (opOf a) fc l).isSome = (numS l).isSome := by unfold numK; cases numS l <;> rfl
        have hn' : (numS l).getD 0 < 1000000 := by
          cases hn : numS l with
          | none => decide
          | some n => exact numS_lt hn
        rw [g57_J44_eq, hi]
        by_cases hc : fc.2 ≤ (((numS l).getD 0 : Nat) : Int)
        · rw [decT hc, bsel_true, j47 p _ _ _ hl, wr0 (k := p.ni + p.no) (by omega) (by omega), wr0 (by omega) (by omega)]
          refine ⟨_, rfl, fun x b h => ?_⟩
          unfold numK at h
          obtain ⟨n, hn, e⟩ := Option.map_eq_some_iff.1 h
          injection e with e1 e2; subst e1; subst e2
          rw [hn, Option.getD_some] at hc
          rw [if_pos (decT hc)]
        · rw [decF hc, bsel_false, j47 p _ _ _ hl, wr0 (by omega) (by omega)]
          refine ⟨_, rfl, fun x b h => ?_⟩
          unfold numK at h
          obtain ⟨n, hn, e⟩ := Option.map_eq_some_iff.1 h
          injection e with e1 e2; subst e1; subst e2
          rw [hn, Option.getD_some] at hc
          rw [hn, if_neg (by rw [decF hc]; decide)]
          rfl
      have ne : ∀ d : UInt8, c ≠ d → ((c.toNat : Nat) : Int) ≠ (d.toNat : Int) := fun d h e => h (UInt8.toNat_inj.1 (by omega))
      by_cases k1 : c = 73
      · subst k1
        rw [show ((((73 : UInt8).toNat : Nat) : Int) == 73) = true from rfl, bsel_true]
        exact fin (0, p.ni) ⟨by simp, by simp⟩
      have q1 : ((c.toNat : Nat) : Int) ≠ 73 := ne 73 k1
      rw [eqF q1, bsel_false]
      by_cases k2 : c = 81
      · subst k2
        rw [show ((((81 : UInt8).toNat : Nat) : Int) == 81) = true from rfl, bsel_true]
        exact fin (p.ni, p.no) ⟨by simp only; omega, by simp only; omega⟩
      have q2 : ((c.toNat : Nat) : Int) ≠ 81 := ne 81 k2
      rw [eqF q2, bsel_false]
      by_cases k3 : c = 77
      · subst k3
        rw [show ((((77 : UInt8).toNat : Nat) : Int) == 77) = true from rfl, bsel_true, wr0 (k := p.ni + p.no) (by omega) (by omega)]
        exact fin (p.ni + p.no, p.nm) ⟨by simp only; omega, by simp only; omega⟩
      have q3 : ((c.toNat : Nat) : Int) ≠ 77 := ne 77 k3
      have hk : kindR p c = none := by unfold kindR; rw [if_neg k1, if_neg k2, if_neg k3]
      rw [eqF q3, bsel_false]
      simp only [hk]
      exact no rfl rfl
theorem instrR_mdl (p : Prg) (f : List Int) (ws : List (List UInt8)) : instrR (mdl p f) ws = instrR p ws := rfl
/-- A line in the model. -/
theorem c57 (line : Nat) (h1 : 1 ≤ line) (p : Prg) (f : List Int) (hp : okP p f) (ws : List (List UInt8)) (hw : ∀ w, w ∈ ws → w.length ≤ 1000000) (hl : p.list.length ≤ 1000000) (hs : line ≤ 2 → p.start = []) (hn : line = 1 → p.list = []) :
    ∃ q', SS.CC 57 [.ptr 0 0, .int .i64 (line : Int), .sl false 1 (strsL ws)] (objM (mdl p f)) = some (.bool (stepR line p ws).isSome, objM q') ∧ ∀ q b, stepR line p ws = some (q, b) → q' = mdl q (farF b f p.list.length) := by
  have e1 : (mdl p f).ni = p.ni := rfl
  have e2 : (mdl p f).no = p.no := rfl
  have e3 : (mdl p f).nm = p.nm := rfl
  have e4 : (mdl p f).start = p.start := rfl
  have hll : (mdl p f).list.length = p.list.length := mdlL_len _ _ _ _
  have ins : ¬ line = 1 → ¬ (line = 2 ∧ 0 < p.nm) → ∃ q', g57_J20 (strsL ws) (mdl p f).ni (mdl p f).no (mdl p f).nm (bitL (mdl p f).start) (insL (mdl p f).list) = some (.bool (stepR line p ws).isSome, objM q') ∧ ∀ q b, stepR line p ws = some (q, b) → q' = mdl q (farF b f p.list.length) := fun n1 n2 => by
    have hst : stepR line p ws = (instrR p ws).map fun x => ({ p with list := p.list ++ [x.1] }, x.2) := by unfold stepR; rw [if_neg n1, if_neg n2]
    obtain ⟨q, g1, g2⟩ := j20 (mdl p f) hp.i0 hp.i1 hp.o0 hp.o1 hp.m0 hp.m1 ws hw (by omega)
    rw [instrR_mdl] at g1 g2
    refine ⟨q, by rw [g1, hst, Option.isSome_map], fun q1 b h => ?_⟩
    rw [hst] at h
    obtain ⟨⟨x, b'⟩, hx, e⟩ := Option.map_eq_some_iff.1 h
    obtain ⟨e5, e6⟩ := Prod.mk.inj e
    subst e5; simp only at e6; subst e6
    rw [g2 x b' hx]
    exact (mdl_step hp x b').symm
  unfold objM
  rw [g57_eq, strsL_len]
  by_cases n1 : line = 1
  · subst n1
    have hst : stepR 1 p ws = (headR ws).map fun x => ({ p with ni := x.1, no := x.2.1, nm := x.2.2 }, false) := by unfold stepR; rw [if_pos rfl]
    have hno : ∀ {r : R}, headR ws = none → r = some (.bool false, objM (mdl p f)) → ∃ q', r = some (.bool (stepR 1 p ws).isSome, objM q') ∧ ∀ q b, stepR 1 p ws = some (q, b) → q' = mdl q (farF b f p.list.length) := fun h h' => ⟨mdl p f, by rw [h', hst, h]; rfl, fun q b e => by rw [hst, h] at e; cases e⟩
    rw [eqT (a := ((1 : Nat) : Int)) (b := 1) rfl, bsel_true]
    by_cases h4 : ws.length = 4
    rotate_left
    · rw [neT (by omega), bsel_true]
      refine hno ?_ rfl
      unfold headR; split
      · exact absurd rfl h4
      · rfl
    obtain ⟨w, a, b, c, rfl⟩ := len4 h4
    have i0 : ∀ (K : PV → R), lgetX (strsL [w, a, b, c]) 0 K = K (.str (bs w)) := fun K => strsL_get (k := 0) rfl
    have i1 : ∀ (K : PV → R), lgetX (strsL [w, a, b, c]) 1 K = K (.str (bs a)) := fun K => strsL_get (k := 1) rfl
    have i2 : ∀ (K : PV → R), lgetX (strsL [w, a, b, c]) 2 K = K (.str (bs b)) := fun K => strsL_get (k := 2) rfl
    have i3 : ∀ (K : PV → R), lgetX (strsL [w, a, b, c]) 3 K = K (.str (bs c)) := fun K => strsL_get (k := 3) rfl
    rw [neF (by simp), bsel_false, i0, vS_mk, bs_tl, prog_tl]
    by_cases hpr : w = progB
    rotate_left
    · rw [beqF hpr, Bool.not_false, bsel_true]
      exact hno (by rw [headR, if_neg hpr]) rfl
    have hh : headR [w, a, b, c] = (match numS a, numS b, numS c with | some x, some y, some z => some (x, y, z) | _, _, _ => none) := by rw [headR, if_pos hpr]; rfl
    rw [beqT hpr, Bool.not_true, bsel_false, i1, vS_mk, num_w' (hw a (by simp)), i2, vS_mk, num_w' (hw b (by simp)), i3, vS_mk, num_w' (hw c (by simp)), hst, hh]
    have hm : ∀ x y z : Nat, objM { mdl p f with ni := x, no := y, nm := z } = objM (mdl { p with ni := x, no := y, nm := z } f) := fun x y z => by
      unfold mdl; simp only [hn rfl]; rfl
    cases numS a with
    | none => exact ⟨_, (rfl : _ = some (_, objM { mdl p f with ni := ((none.getD 0 : Nat) : Int), no := (((numS b).getD 0 : Nat) : Int), nm := (((numS c).getD 0 : Nat) : Int) })), fun q b e => by cases e⟩
    | some x =>
      cases numS b with
      | none => exact ⟨_, (rfl : _ = some (_, objM { mdl p f with ni := (x : Int), no := ((none.getD 0 : Nat) : Int), nm := (((numS c).getD 0 : Nat) : Int) })), fun q b e => by cases e⟩
      | some y =>
        cases numS c with
        | none => exact ⟨_, (rfl : _ = some (_, objM { mdl p f with ni := (x : Int), no := (y : Int), nm := ((none.getD 0 : Nat) : Int) })), fun q b e => by cases e⟩
        | some z =>
          refine ⟨mdl { p with ni := x, no := y, nm := z } f, ?_, fun q b e => ?_⟩
          · show some (PV.bool true, objM { mdl p f with ni := (x : Int), no := (y : Int), nm := (z : Int) }) = _
            rw [hm x y z]; rfl
          · injection e with e; injection e with e5 e6; subst e5; subst e6; rfl
  rw [eqF (by omega), bsel_false]
  by_cases n2 : line = 2
  rotate_left
  · rw [eqF (by omega), bsel_false]
    exact ins n1 (fun e => n2 e.1)
  subst n2
  rw [eqT (a := ((2 : Nat) : Int)) (b := 2) rfl, bsel_true]
  by_cases hm : 0 < p.nm
  rotate_left
  · rw [e3, decF hm, bsel_false]
    exact ins n1 (fun e => hm e.2)
  rw [e3, decT hm, bsel_true]
  have hst : stepR 2 p ws = (startR ws).map fun s => ({ p with start := p.start ++ s }, false) := by unfold stepR; rw [if_neg (by omega), if_pos ⟨rfl, hm⟩]
  have hno : ∀ {r : R}, startR ws = none → r = some (.bool false, objM (mdl p f)) → ∃ q', r = some (.bool (stepR 2 p ws).isSome, objM q') ∧ ∀ q b, stepR 2 p ws = some (q, b) → q' = mdl q (farF b f p.list.length) := fun h h' => ⟨mdl p f, by rw [h', hst, h]; rfl, fun q b e => by rw [hst, h] at e; cases e⟩
  by_cases h2 : ws.length = 2
  rotate_left
  · rw [neT (by omega), bsel_true]
    refine hno ?_ rfl
    unfold startR; split
    · exact absurd rfl h2
    · rfl
  obtain ⟨w, a, rfl⟩ := len2 h2
  have i0 : ∀ (K : PV → R), lgetX (strsL [w, a]) 0 K = K (.str (bs w)) := fun K => strsL_get (k := 0) rfl
  have i1 : ∀ (K : PV → R), lgetX (strsL [w, a]) 1 K = K (.str (bs a)) := fun K => strsL_get (k := 1) rfl
  rw [neF (by simp), bsel_false, i0, vS_mk, bs_tl, start_tl]
  by_cases hpr : w = startB
  rotate_left
  · rw [beqF hpr, Bool.not_false, bsel_true]
    exact hno (by rw [startR, if_neg hpr]) rfl
  rw [beqT hpr, Bool.not_true, bsel_false, i1, vS_mk, bs_size]
  by_cases ha : a = []
  · rw [eqT (by simp [ha]), bsel_true]
    exact hno (by rw [startR, if_pos hpr, if_pos ha]) rfl
  rw [eqF (fun e => ha (List.eq_nil_of_length_eq_zero (by omega))), bsel_false]
  have hh : startR [w, a] = if a.all d01 = true then some (a.map (· == 49)) else none := by rw [startR, if_pos hpr, if_neg ha]
  obtain ⟨s', g1, g2⟩ := l57 (mdl p f) w a (hw a (by simp)) a.length 0 p.start (by omega) (by rw [hs (by omega)]; simp)
  rw [List.drop_zero] at g1 g2
  refine ⟨{ mdl p f with start := s' }, g1.trans ?_, fun q b e => ?_⟩
  · rw [hst, hh]; cases a.all d01 <;> rfl
  · rw [hst, hh] at e
    split at e
    · rename_i hd
      injection e with e; injection e with e5 e6; subst e5; subst e6
      rw [g2 hd]; rfl
    · cases e
/-! ### the whole text -/
def endOf : List UInt8 → Nat
  | [] => 0
  | x :: l => if x = 10 then 0 else endOf l + 1
theorem endOf_le : ∀ (l : List UInt8), endOf l ≤ l.length
  | [] => Nat.le_refl _
  | x :: l => by
    have := endOf_le l
    rw [endOf]; split
    · exact Nat.zero_le _
    · simp; omega
theorem endOf_at : ∀ {l : List UInt8}, endOf l < l.length → splitC 10 l = l.take (endOf l) :: splitC 10 (l.drop (endOf l + 1))
  | [], h => by simp at h
  | x :: l, h => by
    by_cases hx : x = 10
    · subst hx; rw [splitC, if_pos rfl, endOf, if_pos rfl]; rfl
    · rw [endOf, if_neg hx] at h ⊢
      have ih := endOf_at (l := l) (by simp at h; omega)
      rw [splitC, if_neg hx, ih]; rfl
theorem endOf_no : ∀ {l : List UInt8}, endOf l = l.length → splitC 10 l = [l]
  | [], h => rfl
  | x :: l, h => by
    by_cases hx : x = 10
    · subst hx; simp [endOf] at h
    · rw [endOf, if_neg hx] at h
      have ih := endOf_no (l := l) (by simp at h; omega)
      rw [splitC, if_neg hx, ih]; rfl
theorem tw_get : ∀ {l : List UInt8} {k : Nat}, k ≤ endOf l → (k < endOf l → ∃ x, l[k]? = some x ∧ x ≠ 10) ∧ (k = endOf l → k < l.length → l[k]? = some 10)
  | [], k, h => ⟨fun h => by simp [endOf] at h, fun _ h => by simp at h⟩
  | x :: l, k, h => by
    by_cases hx : x = 10
    · subst hx
      rw [endOf, if_pos rfl] at h ⊢
      have : k = 0 := by omega
      subst this
      exact ⟨fun h => by omega, fun _ _ => rfl⟩
    · rw [endOf, if_neg hx] at h ⊢
      cases k with
      | zero => exact ⟨fun _ => ⟨x, rfl, hx⟩, fun h => by omega⟩
      | succ k =>
        have ih := tw_get (l := l) (k := k) (by omega)
        exact ⟨fun h => by simpa using ih.1 (by omega), fun h h2 => by simpa using ih.2 (by omega) (by simp at h2; omega)⟩
theorem l11 (l : List UInt8) (hl : l.length ≤ 1000000) (x6 : Int) (p : Prg) : ∀ (m k : Nat), k + m = endOf l → g27_L11 (bs l) (k : Int) x6 p.ni p.no p.nm (bitL p.start) (insL p.list) = g27_J13 (bs l) x6 ((endOf l : Nat) : Int) p.ni p.no p.nm (bitL p.start) (insL p.list) := by
  have hle := endOf_le l
  intro m
  induction m with
  | zero =>
    intro k h
    have hk : k = endOf l := by omega
    rw [g27_L11_eq, bs_size]
    by_cases h1 : k < l.length
    · rw [decT (by omega), bsel_true, bs_get ((tw_get (l := l) (k := k) (by omega)).2 hk h1), show ((((10 : UInt8).toNat : Nat) : Int) != 10) = false from rfl, bsel_false, hk]
    · rw [decF (by omega), bsel_false, hk]
  | succ m ih =>
    intro k h
    obtain ⟨x, hx, h10⟩ := (tw_get (l := l) (k := k) (by omega)).1 (by omega)
    have : ((x.toNat : Nat) : Int) ≠ 10 := fun e => h10 (UInt8.toNat_inj.1 (by show x.toNat = 10; omega))
    rw [g27_L11_eq, bs_size, decT (by omega), bsel_true, bs_get hx, neT this, bsel_true, wrs (by omega)]
    exact ih (k + 1) (by omega)
theorem l8 : ∀ (n : Nat) (l : List UInt8) (line : Nat) (p : Prg) (f : List Int), l.length ≤ n → n ≤ 60000 → 1 ≤ line → line + l.length ≤ 70000 → okP p f → p.list.length + 1 ≤ line → (line ≤ 2 → p.start = []) → (l = [] → ¬ (line = 2 ∧ 0 < p.nm)) →
    g27_L8 (bs l) (line : Int) (mdl p f).ni (mdl p f).no (mdl p f).nm (bitL (mdl p f).start) (insL (mdl p f).list) = Ret (parP (resG (goL line p f (splitC 10 l)))) := by
  intro n
  induction n with
  | zero =>
    intro l line p f h hn hl hll hp hpl hs h2
    have h0 : l = [] := List.eq_nil_of_length_eq_zero (by omega)
    subst h0
    have c := c34 (mdl p f)
    unfold prgP at c
    rw [g27_L8_eq, bs_tl, beqT rfl, Bool.not_true, bsel_false, clX_of c, vI_mk, checkF_mdl hp]
    rw [show splitC 10 [] = [[]] from rfl, goL, if_neg (fun e => e.elim (fun e => e rfl) (h2 rfl)), resG]
    by_cases hc : checkF p f = 0
    · rw [neF hc, bsel_false, if_neg (by simpa using hc), mdl_ok hc]; rfl
    · rw [neT hc, bsel_true, if_pos hc]; rfl
  | succ n ih =>
    intro l line p f h hn hl hll hp hpl hs h2
    by_cases h0 : l.length ≤ n
    · exact ih l line p f h0 (by omega) hl hll hp hpl hs h2
    have hne : l ≠ [] := fun e => by subst e; simp at h0
    have hle := endOf_le l
    have hw := l11 l (by omega) (line : Int) (mdl p f) (endOf l) 0 (by omega)
    rw [g27_L8_eq, bs_tl, nil_tl, beqF hne, Bool.not_false, bsel_true, show (0 : Int) = ((0 : Nat) : Int) from rfl, hw, g27_J13_eq, bs_size]
    by_cases he : endOf l = l.length
    · rw [eqT (by omega), bsel_true, endOf_no he, goL, if_pos (.inl hne)]; rfl
    have he : endOf l < l.length := by omega
    have ht : (bs l).extract 0 ((endOf l : Nat) : Int).toNat = bs (l.take (endOf l)) := by rw [Int.toNat_natCast, bs_extract]; rfl
    have hd : (bs l).extract ((endOf l + 1 : Nat) : Int).toNat l.length = bs (l.drop (endOf l + 1)) := by rw [Int.toNat_natCast, bs_extract, List.take_of_length_le (Nat.le_refl _)]
    have hws : ∀ w, w ∈ splitC 32 (l.take (endOf l)) → w.length ≤ 1000000 := fun w h => by have := splitC_le 32 _ w h; simp at this; omega
    have hrl : (l.drop (endOf l + 1)).length = l.length - (endOf l + 1) := List.length_drop
    obtain ⟨q', c, hq⟩ := c57 line hl p f hp (splitC 32 (l.take (endOf l))) hws (by omega) hs (fun e => List.eq_nil_of_length_eq_zero (by omega))
    rw [eqF (by omega), bsel_false, chk_of (by simp; omega), ht, clX_of (c58 _ (by simp; omega)), vL_mk, endOf_at he, goL_cons (splitC_ne 10 _)]
    simp only [objM] at c
    rw [clH_of c, h57_0_mk]
    cases hst : stepR line p (splitC 32 (l.take (endOf l))) with
    | none => rfl
    | some y =>
      obtain ⟨q, b⟩ := y
      have hq := hq q b hst
      subst hq
      have hok := okP_step hp hst
      have hlist : q.list.length ≤ line := by
        unfold stepR at hst
        split at hst
        · obtain ⟨x, _, e⟩ := Option.map_eq_some_iff.1 hst
          injection e with e1 e2; subst e1; simp only; omega
        split at hst
        · obtain ⟨x, _, e⟩ := Option.map_eq_some_iff.1 hst
          injection e with e1 e2; subst e1; simp only; omega
        · obtain ⟨x, _, e⟩ := Option.map_eq_some_iff.1 hst
          injection e with e1 e2; subst e1; simp; omega
      have hstart : line + 1 ≤ 2 → q.start = [] := fun h => by
        unfold stepR at hst
        rw [if_pos (by omega)] at hst
        obtain ⟨x, _, e⟩ := Option.map_eq_some_iff.1 hst
        injection e with e1 e2; subst e1; exact hs (by omega)
      simp only [Option.isSome_some, Bool.not_true, bsel_false]
      rw [wrs (by omega), chk_of (by simp; omega), hd, bs_tl, nil_tl]
      have next : (l.drop (endOf l + 1) = [] → ¬ (line + 1 = 2 ∧ 0 < q.nm)) → g27_L8 (bs (l.drop (endOf l + 1))) (IntKind.i64.wrap ((line : Int) + 1)) (mdl q (farF b f p.list.length)).ni (mdl q (farF b f p.list.length)).no (mdl q (farF b f p.list.length)).nm (bitL (mdl q (farF b f p.list.length)).start) (insL (mdl q (farF b f p.list.length)).list) = Ret (parP (resG (goL (line + 1) q (farF b f p.list.length) (splitC 10 (l.drop (endOf l + 1)))))) := fun hc => by
        rw [wrs (by omega)]
        exact ih _ (line + 1) q _ (by omega) (by omega) (by omega) (by omega) hok (by omega) hstart hc
      by_cases hr : l.drop (endOf l + 1) = []
      · rw [beqT hr, bsel_true]
        by_cases h1 : line = 1
        · rw [eqT (by omega), bsel_true]
          by_cases hm : 0 < q.nm
          · rw [show (mdl q (farF b f p.list.length)).nm = q.nm from rfl, decT hm, bsel_true, hr, show splitC 10 [] = [[]] from rfl, goL, if_pos (.inr ⟨by omega, hm⟩), h1]; rfl
          · rw [show (mdl q (farF b f p.list.length)).nm = q.nm from rfl, decF hm, bsel_false]
            exact next fun _ e => hm e.2
        · rw [eqF (by omega), bsel_false]
          exact next fun _ e => h1 (by omega)
      · rw [beqF hr, bsel_false]
        exact next fun e => absurd e hr
theorem c27 (l : List UInt8) (hl : l.length ≤ 60000) : SS.CC 27 [.str (bs l)] [] = Ret (parP (parS l)) := by
  rw [g27_eq, bs_size, decF (by omega), bsel_false, bs_tl, nil_tl]
  by_cases h0 : l = []
  · rw [beqT h0, bsel_true]; unfold parS; rw [if_pos h0]; rfl
  rw [beqF h0, bsel_false, parS_ne h0]
  exact l8 l.length l 1 noP [] (Nat.le_refl _) hl (Nat.le_refl _) (by omega) noP_ok (by decide) (fun _ => rfl) (fun e => absurd e h0)
/-- Lengths of what was read. -/
theorem goL_len : ∀ (ws : List (List UInt8)) (line : Nat) (p q : Prg) (f g : List Int), goL line p f ws = .inr (q, g) → q.list.length ≤ p.list.length + ws.length
  | [], line, p, q, f, g, h => by cases h
  | [w], line, p, q, f, g, h => by
    rw [goL] at h
    split at h
    · cases h
    · injection h with h; injection h with h1 h2; subst h1; omega
  | w :: v :: ws, line, p, q, f, g, h => by
    rw [goL] at h
    cases hst : stepR line p (splitC 32 w) with
    | none => rw [hst] at h; cases h
    | some y =>
      obtain ⟨y, b⟩ := y
      rw [hst] at h
      have ih := goL_len (v :: ws) (line + 1) y q _ g h
      have : y.list.length ≤ p.list.length + 1 := by
        unfold stepR at hst
        split at hst
        · obtain ⟨x, _, e⟩ := Option.map_eq_some_iff.1 hst
          injection e with e1 e2; subst e1; simp only; omega
        split at hst
        · obtain ⟨x, _, e⟩ := Option.map_eq_some_iff.1 hst
          injection e with e1 e2; subst e1; simp only; omega
        · obtain ⟨x, _, e⟩ := Option.map_eq_some_iff.1 hst
          injection e with e1 e2; subst e1; simp
      simp only [List.length_cons] at ih ⊢
      omega
theorem parS_len (l : List UInt8) (hl : l.length ≤ 60000) : (parS l).1.start.length ≤ 1000000 ∧ (parS l).1.list.length ≤ 1000000 := by
  by_cases h0 : l = []
  · unfold parS; rw [if_pos h0]; exact ⟨by simp [noP], by simp [noP]⟩
  rw [parS_ne h0]
  have hk := splitC_len 10 l
  cases hg : goL 1 noP [] (splitC 10 l) with
  | inl k => exact ⟨by simp [resG, noP], by simp [resG, noP]⟩
  | inr y =>
    obtain ⟨p, f⟩ := y
    have := goL_len _ _ _ _ _ _ hg
    unfold resG
    split
    · rename_i e; cases e
    · rename_i p' f' e
      cases e
      split
      · exact ⟨by simp [noP], by simp [noP]⟩
      rename_i hc
      refine ⟨?_, by simp [noP] at this; simp only; omega⟩
      have hh : headS p = 0 := by
        unfold checkF at hc
        by_cases hh : headS p = 0
        · exact hh
        · rw [if_pos hh] at hc; exact absurd hh hc
      have := head0 hh
      simp only; omega
theorem law6 (l : List UInt8) : SS.CC 6 [.str (bs l)] [] = Ret (.bool true) := by
  rw [g6_eq, c10k, vB_mk, Bool.not_true, bsel_false, bs_size]
  by_cases h : 300 < l.length
  · rw [decT (by omega), bsel_true, c10k, vB_mk]
  · have hp := parS_len l (by omega)
    have e := c24 (parS l).1 (parS l).1 hp.1 hp.2
    unfold prgP at e
    rw [decF (by omega), bsel_false, clX_of (c26 l (by omega))]
    unfold parP prgP
    rw [w_29_3_3_mk, clX_of (c27 l (by omega))]
    unfold parP prgP
    rw [w_29_3_3_mk, clX_of e, vB_mk, eqPB_refl, bsel_true, eqT rfl, bsel_true, eqT rfl]
theorem law6s (s : ByteArray) : SS.CC 6 [.str s] [] = Ret (.bool true) := by
  have := law6 s.data.toList
  rwa [show bs s.data.toList = s by simp [bs]] at this
end Go.Proofs.YtiejgieiokmmfaaDoor

/-
  Contracts: the line of an instruction, the check of what was read, Parse.
-/
import Derived.Test.YtiejgieiokmmfaaGreatDoorZC52n
namespace Go.Proofs.YtiejgieiokmmfaaGreatDoor
set_option linter.unusedVariables false
set_option linter.unusedSimpArgs false
set_option linter.unnecessarySimpa false
set_option linter.unusedSectionVars false
open Go.RowKit
/-- The texts of the operations. -/
def opTx : List (List UInt8) := [[76, 68], [76, 68, 78], [65, 78, 68], [65, 78, 68, 78], [79, 82], [79, 82, 78], [83, 84], [83, 84, 78], [83], [82], [74, 77, 80], [74, 77, 80, 67], [74, 77, 80, 67, 78]]
theorem ix_step (a : List UInt8) (r : List (List UInt8)) {k : Nat} {t : List UInt8} (ht : opTx[k]? = some t) : g63_L3 opsP (strsL (a :: r)) (k : Int) = if a = t then Ret (.int .i64 (k : Int)) else g63_L3 opsP (strsL (a :: r)) ((k + 1 : Nat) : Int) := by
  have i0 : ∀ (K : PV → R), lgetX (strsL (a :: r)) 0 K = K (.str (bs a)) := fun K => strsL_get (k := 0) rfl
  have hk : k < 13 := (List.getElem?_eq_some_iff.1 ht).1
  have key : ∀ (n : Int) (p q z : PV), (∀ K : PV → R, lgetX opsP (k : Int) K = K (.agg [.int .i64 n, .str (bs t), p, q, z])) → PV.flats [.agg [.int .i64 n, .str (bs t), p, q, z], .cst (.sl false 1 (strsL (a :: r)))] = true → (([.int .i64 n, .str (bs t), p, q, z] : List PV).all PV.one && PV.flats [.int .i64 n, .str (bs t), p, q, z]) = true → g63_L3 opsP (strsL (a :: r)) (k : Int) = if a = t then Ret (.int .i64 (k : Int)) else g63_L3 opsP (strsL (a :: r)) ((k + 1 : Nat) : Int) := by
    intro n p q z h1 h2 h3
    rw [g63_L3_eq, decT (show (k : Int) < ((opsP.length : Nat) : Int) by show (k : Int) < 13; omega), bsel_true, h1, v66_mk, chk_of h2, clX_of (r := .bool (t == a)) (by rw [g64_eq, chk_of h3, i0, vS_mk, bs_tl, bs_tl]), vB_mk, wrs (by omega)]
    by_cases h : a = t
    · rw [beqT h.symm, bsel_true, if_pos h]
    · rw [beqF (fun e => h e.symm), bsel_false, if_neg h]
  have : k = 0 ∨ k = 1 ∨ k = 2 ∨ k = 3 ∨ k = 4 ∨ k = 5 ∨ k = 6 ∨ k = 7 ∨ k = 8 ∨ k = 9 ∨ k = 10 ∨ k = 11 ∨ k = 12 := by omega
  rcases this with rfl | rfl | rfl | rfl | rfl | rfl | rfl | rfl | rfl | rfl | rfl | rfl | rfl <;>
    (simp only [opTx, List.getElem?_cons_zero, List.getElem?_cons_succ, Option.some.injEq] at ht; subst ht; exact key _ _ _ _ (fun K => rfl) rfl rfl)
theorem ix_end (W : List PV) : g63_L3 opsP W 13 = Ret (.int .i64 (-1)) := by
  rw [g63_L3_eq, decF (show ¬ (13 : Int) < ((opsP.length : Nat) : Int) from by decide), bsel_false]
theorem c70 (a : List UInt8) (r : List (List UInt8)) : SS.CC 63 [.sl false 5 opsP, .func (.func 64) [] [.cst (.sl false 1 (strsL (a :: r)))]] [] = Ret (.int .i64 ((opOf a : Int) - 1)) := by
  rw [g63_eq]
  have s := fun (k : Nat) (t : List UInt8) (ht : opTx[k]? = some t) => ix_step a r ht
  unfold opOf
  rw [show (0 : Int) = ((0 : Nat) : Int) from rfl, s 0 _ rfl]
  by_cases h : a = [76, 68]
  · rw [if_pos h, if_pos h]; rfl
  rw [if_neg h, if_neg h, s 1 _ rfl]; clear h
  by_cases h : a = [76, 68, 78]
  · rw [if_pos h, if_pos h]; rfl
  rw [if_neg h, if_neg h, s 2 _ rfl]; clear h
  by_cases h : a = [65, 78, 68]
  · rw [if_pos h, if_pos h]; rfl
  rw [if_neg h, if_neg h, s 3 _ rfl]; clear h
  by_cases h : a = [65, 78, 68, 78]
  · rw [if_pos h, if_pos h]; rfl
  rw [if_neg h, if_neg h, s 4 _ rfl]; clear h
  by_cases h : a = [79, 82]
  · rw [if_pos h, if_pos h]; rfl
  rw [if_neg h, if_neg h, s 5 _ rfl]; clear h
  by_cases h : a = [79, 82, 78]
  · rw [if_pos h, if_pos h]; rfl
  rw [if_neg h, if_neg h, s 6 _ rfl]; clear h
  by_cases h : a = [83, 84]
  · rw [if_pos h, if_pos h]; rfl
  rw [if_neg h, if_neg h, s 7 _ rfl]; clear h
  by_cases h : a = [83, 84, 78]
  · rw [if_pos h, if_pos h]; rfl
  rw [if_neg h, if_neg h, s 8 _ rfl]; clear h
  by_cases h : a = [83]
  · rw [if_pos h, if_pos h]; rfl
  rw [if_neg h, if_neg h, s 9 _ rfl]; clear h
  by_cases h : a = [82]
  · rw [if_pos h, if_pos h]; rfl
  rw [if_neg h, if_neg h, s 10 _ rfl]; clear h
  by_cases h : a = [74, 77, 80]
  · rw [if_pos h, if_pos h]; rfl
  rw [if_neg h, if_neg h, s 11 _ rfl]; clear h
  by_cases h : a = [74, 77, 80, 67]
  · rw [if_pos h, if_pos h]; rfl
  rw [if_neg h, if_neg h, s 12 _ rfl]; clear h
  by_cases h : a = [74, 77, 80, 67, 78]
  · rw [if_pos h, if_pos h]; rfl
  rw [if_neg h, if_neg h]
  exact ix_end _
/-- The operation at its place. -/
theorem op_at {k : Int} (h1 : 1 ≤ k) (h2 : k ≤ 13) : ∃ (s : ByteArray) (p q z : PV), (∀ K : PV → R, lgetX opsP (k - 1) K = K (.agg [.int .i64 k, .str s, p, q, z])) ∧ PV.one z = true ∧ (decide ((PV.un z).isAgg = false) && decide ((PV.un z).size = 1)) = true ∧
    ∀ K : Bool → R, fnX (PV.un (PV.un (PV.un z))) K = K (decide (k ≤ 10)) := by
  have hw : IntKind.i64.wrap (k - 1) = k - 1 := wr0 (by omega) (by omega)
  by_cases h6 : k ≤ 6
  · obtain ⟨s, g, e1, _⟩ := op_load h1 h6
    rw [hw] at e1
    exact ⟨s, _, _, _, e1, rfl, rfl, fun K => by rw [decT (by omega)]; rfl⟩
  by_cases h10 : k ≤ 10
  · obtain ⟨s, g, e1, _⟩ := op_store (show 7 ≤ k by omega) h10
    rw [hw] at e1
    exact ⟨s, _, _, _, e1, rfl, rfl, fun K => by rw [decT (by omega)]; rfl⟩
  · obtain ⟨s, g, e1, _⟩ := op_jump (show 11 ≤ k by omega) h2
    rw [hw] at e1
    exact ⟨s, _, _, _, e1, rfl, rfl, fun K => by rw [decF (by omega)]; rfl⟩
theorem j27 (p : Prg) (f : List Int) {k : Int} (h1 : 1 ≤ k) (h2 : k ≤ 13) (x8 x10 : Int) (hx : -1000000000 < x8 + x10 ∧ x8 + x10 < 1000000000) (hl : p.list.length ≤ 1000000) :
    g30_J27 opsP (k - 1) x8 x10 p.ni p.no p.nm (bitL p.start) (insL p.list) (farL f) = some (.bool true, objP { p with list := p.list ++ [(k, x8 + x10)] } f) := by
  obtain ⟨s, a, b, z, e1, e2, e3, e4⟩ := op_at h1 h2
  rw [g30_J27_eq, e1, v66_mk, chk_of (by simp [LIM]; omega), wr0 (k := x8 + x10) (by omega) (by omega)]
  rw [insL_snoc p.list (k, x8 + x10)]
  rfl
theorem j22 (p : Prg) (f : List Int) {k : Int} (h1 : 1 ≤ k) (h2 : k ≤ 13) (x8 x9 : Int) (l : List UInt8) (hll : l.length ≤ 1000000) (hx : -100000000 < x8 ∧ x8 < 100000000) (hl : p.list.length ≤ 1000000) :
    g30_J22 opsP (k - 1) x9 p.no p.nm (bitL p.start) (insL p.list) (farL f) (bs l) p.ni x8 = (match numS l with
      | none => some (.bool false, objP p f)
      | some n => some (.bool true, objP { p with list := p.list ++ [(k, x8 + n)] } (farF (decide (k ≤ 10) && decide (x9 ≤ (n : Int))) f p.list.length))) := by
  obtain ⟨s, a, b, z, e1, e2, e3, e4⟩ := op_at h1 h2
  rw [g30_J22_eq, num_w hll]
  cases hn : numS l with
  | none => rfl
  | some n =>
    have hn' := numS_lt hn
    simp only [Option.isSome_some, Option.getD_some, Bool.not_true, bsel_false]
    rw [e1, v66_mk, chk_of e2, chk_of e3, e4]
    have j := fun f => j27 p f h1 h2 x8 (n : Int) ⟨by omega, by omega⟩ hl
    by_cases h10 : k ≤ 10
    · rw [decT h10, show ((true : Bool) == true) = true from rfl, bsel_true]
      by_cases hc : x9 ≤ (n : Int)
      · rw [decT hc, bsel_true, chk_of (by rw [mapOK_far]; rfl), mapPut_far, insL_len, j]; rfl
      · rw [decF hc, bsel_false, j]; rfl
    · rw [decF h10, show ((false : Bool) == true) = false from rfl, bsel_false, j]; rfl
theorem c53 (p : Prg) (f : List Int) (hp : okP p f) (ws : List (List UInt8)) (hw : ∀ w, w ∈ ws → w.length ≤ 1000000) (hl : p.list.length ≤ 1000000) :
    SS.CC 30 [.ptr 0 0, .sl false 1 (strsL ws)] (objP p f) = (match instrR p ws with
      | none => some (.bool false, objP p f)
      | some (x, b) => some (.bool true, objP { p with list := p.list ++ [x] } (farF b f p.list.length))) := by
  have hi := hp.i0; have hi1 := hp.i1; have ho := hp.o0; have ho1 := hp.o1; have hm := hp.m0; have hm1 := hp.m1
  have no : ∀ {r : R} {y : Option (Ins × Bool)}, y = none → r = some (.bool false, objP p f) → r = (match y with
      | none => some (.bool false, objP p f)
      | some (x, b) => some (.bool true, objP { p with list := p.list ++ [x] } (farF b f p.list.length))) := fun h h' => by rw [h, h']
  rw [objP, g30_eq, strsL_len]
  by_cases hl2 : ws.length = 2
  rotate_left
  · rw [neT (by omega), bsel_true]
    refine no ?_ rfl
    unfold instrR; split
    · exact absurd rfl hl2
    · rfl
  obtain ⟨a, b, rfl⟩ := len2 hl2
  have i1 : ∀ (K : PV → R), lgetX (strsL [a, b]) 1 K = K (.str (bs b)) := fun K => strsL_get (k := 1) rfl
  have hb := hw b (by simp)
  rw [neF (by simp), bsel_false, clX_of c63, vL_mk, clX_of (c70 a [b]), vI_mk]
  have h13 := opOf_le a
  by_cases h0 : opOf a = 0
  · rw [decT (by omega), bsel_true]
    exact no (by rw [instrR, if_pos h0]) rfl
  obtain ⟨s, p1, p2, z, e1, e2, e3, e4⟩ := op_at (k := (opOf a : Int)) (by omega) (by omega)
  rw [decF (by omega), bsel_false, i1, vS_mk, e1, v66_mk, chk_of e2, chk_of e3, e4]
  have ir : instrR p [a, b] = instrB p (opOf a) b := by rw [instrR, if_neg h0]
  rw [ir]
  unfold instrB
  by_cases h11 : 11 ≤ opOf a
  · rw [decF (by omega), show ((false : Bool) == true) = false from rfl, bsel_false, if_pos h11, j22 p f (by omega) (by omega) 0 0 b hb ⟨by omega, by omega⟩ hl]
    unfold numJ
    cases numS b with
    | none => rfl
    | some n =>
      rw [decF (show ¬ (opOf a : Int) ≤ 10 by omega)]
      simp only [Int.zero_add]
      rfl
  rw [decT (by omega), show ((true : Bool) == true) = true from rfl, bsel_true, if_neg h11, bs_tl, nil_tl]
  cases b with
  | nil => rw [beqT rfl, bsel_true]
  | cons c l =>
    rw [beqF (by simp), bsel_false, show (0 : Int) = ((0 : Nat) : Int) from rfl, bs_get (x := c) rfl]
    have hex : (bs (c :: l)).extract (1 : Int).toNat (bs (c :: l)).size = bs l := by
      rw [bs_size, bs_extract, List.take_of_length_le (by simp)]; rfl
    have hlen : l.length ≤ 1000000 := by simp at hb; omega
    rw [hex]
    have fin : ∀ fc : Int × Int, -100000000 < fc.1 ∧ fc.1 < 100000000 → g30_J22 opsP ((opOf a : Int) - 1) fc.2 p.no p.nm (bitL p.start) (insL p.list) (farL f) (bs l) p.ni fc.1 =
        (match numK (opOf a) fc l with
      | none => some (.bool false, objP p f)
      | some (x, b) => some (.bool true, objP { p with list := p.list ++ [x] } (farF b f p.list.length))) := fun fc h => by
      rw [j22 p f (by omega) (by omega) fc.1 fc.2 l hlen h hl]
      unfold numK
      cases numS l with
      | none => rfl
      | some n =>
        rw [decT (show (opOf a : Int) ≤ 10 by omega)]
        simp only [Bool.true_and]
        rfl
    have ne : ∀ d : UInt8, c ≠ d → ((c.toNat : Nat) : Int) ≠ (d.toNat : Int) := fun d h e => h (UInt8.toNat_inj.1 (by omega))
    by_cases k1 : c = 73
    · subst k1
      rw [show ((((73 : UInt8).toNat : Nat) : Int) == 73) = true from rfl, bsel_true, chk_of (by simp; omega)]
      exact fin (0, p.ni) ⟨by simp, by simp⟩
    have q1 : ((c.toNat : Nat) : Int) ≠ 73 := ne 73 k1
    rw [eqF q1, bsel_false]
    by_cases k2 : c = 81
    · subst k2
      rw [show ((((81 : UInt8).toNat : Nat) : Int) == 81) = true from rfl, bsel_true, chk_of (by simp; omega)]
      exact fin (p.ni, p.no) ⟨by simp only; omega, by simp only; omega⟩
    have q2 : ((c.toNat : Nat) : Int) ≠ 81 := ne 81 k2
    rw [eqF q2, bsel_false]
    by_cases k3 : c = 77
    · subst k3
      rw [show ((((77 : UInt8).toNat : Nat) : Int) == 77) = true from rfl, bsel_true, chk_of (by simp; omega), wr0 (k := p.ni + p.no) (by omega) (by omega)]
      exact fin (p.ni + p.no, p.nm) ⟨by simp only; omega, by simp only; omega⟩
    have q3 : ((c.toNat : Nat) : Int) ≠ 77 := ne 77 k3
    have hk : kindR p c = none := by unfold kindR; rw [if_neg k1, if_neg k2, if_neg k3]
    rw [eqF q3, bsel_false]
    simp only [hk]
/-! ### check -/
theorem c56 (p : Prg) (f : List Int) (hl : p.list.length ≤ 1000000) : SS.CC 33 [.ptr 0 0] (objP p f) = some (.int .i64 (checkF p f), objP p f) := by
  have h50 := c50 p
  unfold prgP at h50
  rw [objP, g33_eq, clX_of h50, vI_mk]
  unfold checkF
  by_cases hh : headS p = 0
  · rw [neF hh, bsel_false, if_neg (by simpa using hh)]
    have key : ∀ m k : Nat, k + m = p.list.length → g33_L6 p.ni p.no p.nm (bitL p.start) (insL p.list) (farL f) (k : Int) = some (.int .i64 (firstF p f k (p.list.drop k)), objP p f) := by
      intro m
      induction m with
      | zero =>
        intro k h
        rw [g33_L6_eq, insL_len, decF (by omega), bsel_false, List.drop_of_length_le (by omega)]; rfl
      | succ m ih =>
        intro k h
        obtain ⟨x, hx⟩ := get_lt (show k < p.list.length by omega)
        have h51 := c51 p hh hx
        unfold prgP at h51
        rw [g33_L6_eq, insL_len, decT (by omega), bsel_true, drop_get hx, firstF]
        unfold mapX
        rw [mapGet_far]
        have next : g33_J10 p.ni p.no p.nm (bitL p.start) (insL p.list) (farL f) (k : Int) (k : Int) = some (.int .i64 (if insE p k x ≠ 0 then insE p k x else firstF p f (k + 1) (p.list.drop (k + 1))), objP p f) := by
          rw [g33_J10_eq, clX_of h51, vI_mk, wrs (by omega)]
          by_cases he : insE p k x = 0
          · rw [neF he, bsel_false, if_neg (by simpa using he)]; exact ih (k + 1) (by omega)
          · rw [neT he, bsel_true, if_pos he]; rfl
        by_cases hf : (k : Int) ∈ f
        · rw [if_pos hf, if_pos hf]; rfl
        · rw [if_neg hf, if_neg hf]; exact next
    exact key p.list.length 0 (by omega)
  · rw [neT hh, bsel_true, if_pos hh]
end Go.Proofs.YtiejgieiokmmfaaGreatDoor

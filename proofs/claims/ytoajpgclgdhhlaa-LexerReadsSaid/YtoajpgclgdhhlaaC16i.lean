/-
  The iterator tokens$1, walked: a token.
-/
import Derived.Test.YtoajpgclgdhhlaaC16h
namespace Go.Proofs.Ytoajpgclgdhhlaa
set_option linter.unusedVariables false
set_option linter.unusedSimpArgs false
set_option linter.unnecessarySimpa false
set_option linter.unusedSectionVars false
open Go.RowKit
set_option maxRecDepth 1000000
abbrev h6 (t : Tok) : List PV := [.int .i64 t.kind, .str (bs t.text), .int .i64 t.value, .int .i64 t.line, .int .i64 t.col]
theorem readL (l : Nat) (K : AX → ASt → R) (full : List UInt8) (L : List PV) (c1 c2 c3 line start : Int) (i : Nat) (h : i < full.length) (hf : full.length ≤ 1000000) :
    exK p58a_X k01100011111110 K ⟨sl5 l (bs full) [(8, c8P), (9, .func (.func (ruleF full[i])) [] [])], H58 L c1 c2 c3 line start (i : Int)⟩ =
      K .normal ⟨sl5 l (bs full) [(8, c8P), (9, .func (.func (ruleF full[i])) [] []), (12, .ptr 7 0), (13, .int .i64 (readS (full.drop i)).2), (62, rd (readS (full.drop i))), (63, .func (.func (ruleF full[i])) [] []), (64, .str (bs full)), (65, .int .i64 (i : Int)), (66, .str (bs (full.drop i))), (67, rd (readS (full.drop i))), (68, tokP (readS (full.drop i)).1), (69, .int .i64 (readS (full.drop i)).2)],
        H58 L c1 c2 c3 line start (i : Int) ++ [some (h6 (readS (full.drop i)).1)]⟩ := by
  have e : full.drop i = full[i] :: full.drop (i + 1) := List.drop_eq_getElem_cons h
  have hc : (decide (0 ≤ (i : Int)) && decide ((i : Int) ≤ ((bs full).size : Int))) = true := by rw [bs_size]; simp; omega
  have hl : (full.drop i).length ≤ 1000000 := by simp; omega
  unfold ruleF
  cases hd : isDig full[i].toNat with
  | true =>
    have hr : readS (full.drop i) = numberS (full.drop i) := by rw [e]; simp [readS, hd]
    refine (p58i3_eq l K (bs full) L c1 c2 c3 line start i).trans ?_
    rw [chk_of hc, Int.toNat_natCast, bs_from, clX_of (c81 _ hl), hr]
    rfl
  | false =>
    cases hw : isLet full[i].toNat with
    | true =>
      have hr : readS (full.drop i) = wordS (full.drop i) := by rw [e]; simp [readS, hd, hw]
      refine (p58i2_eq l K (bs full) L c1 c2 c3 line start i).trans ?_
      rw [chk_of hc, Int.toNat_natCast, bs_from, clX_of (c79 _ hl), hr]
      rfl
    | false =>
      have hr : readS (full.drop i) = symbolS (full.drop i) := by rw [e]; simp [readS, hd, hw]
      refine (p58i1_eq l K (bs full) L c1 c2 c3 line start i).trans ?_
      rw [chk_of hc, Int.toNat_natCast, bs_from, clX_of (c61 _), hr]
      rfl
theorem postT (l : Nat) (K : ASt → R) (s : ByteArray) (tk tk2 : PV) (h : Objs) : exOps p58a_X false (opsOf k0110001111111100) (((opsOf k0110001111111100).toList.drop 6).take 5) K ⟨sl5 l s [(8, c8P), (12, .ptr 7 0), (13, .int .i64 0), (70, .func (.yield l) [] []), (71, c8P), (72, tk), (73, tk2), (74, .int .i64 0), (75, .bool true)], h⟩ =
    K ⟨sl5 l s [(8, c8P), (12, .ptr 7 0), (13, .int .i64 0), (70, .func (.yield l) [] []), (71, c8P), (72, tk), (73, tk2), (74, .int .i64 0), (75, .bool true), (76, .bool false), (77, .bool false), (78, .int .i64 0), (79, .bool false), (80, .bool false)], h⟩ := by kernel_rfl
theorem postF (l : Nat) (K : ASt → R) (s : ByteArray) (e : Int) (tk tk2 : PV) (h : Objs) : exOps p58a_X false (opsOf k0110001111111100) (((opsOf k0110001111111100).toList.drop 6).take 5) K ⟨sl5 l s [(8, c8P), (12, .ptr 7 0), (13, .int .i64 e), (70, .func (.yield l) [] []), (71, c8P), (72, tk), (73, tk2), (74, .int .i64 e), (75, .bool false)], h⟩ =
    K ⟨sl5 l s [(8, c8P), (12, .ptr 7 0), (13, .int .i64 e), (70, .func (.yield l) [] []), (71, c8P), (72, tk), (73, tk2), (74, .int .i64 e), (75, .bool false), (76, .bool true), (77, .bool true), (78, .tuple []), (79, .tuple []), (80, .bool true)], h⟩ := by kernel_rfl
section
variable {l : Nat} {rc : Loop} {out : Nat → Nat}
theorem tok_walk (ho : 1 ≤ out l) (hrc : RcOK rc) {full : List UInt8} {L : List PV} {c1 c2 c3 : Int} {i line start : Nat} {Q : AX → ASt → AX → Prop} (hf : full.length ≤ 1000000) (hi : i < full.length) (hs : start ≤ i) (hL : L.length + 1 ≤ LIM)
    (h0 : (readS (full.drop i)).2 = 0 → ∀ σ, gcOK [0, 1, 3, 4, 5] 7 σ = true → σ.gc [0, 1, 3, 4, 5] 7 = ⟨sl5 l (bs full) [], H58 (L ++ [tokP ((readS (full.drop i)).1.at (line : Int) ((i - start + 1 : Nat) : Int))]) c1 c2 c3 line start (IntKind.i64.wrap ((i : Int) + ((readS (full.drop i)).1.text.length : Int)))⟩ → Q (.exit 1) σ .normal)
    (h1 : (readS (full.drop i)).2 ≠ 0 → ∀ σ, σ.h.take 4 = [some [.sl true 0 []], some [.int .i64 (line : Int)], some [.int .i64 ((i - start + 1 : Nat) : Int)], some [.int .i64 (readS (full.drop i)).2]] → Q .ret σ .ret) :
    Tr (Y16 l rc out) k0110001111 Q .normal ⟨sl5 l (bs full) [(8, c8P)], H58 L c1 c2 c3 (line : Int) (start : Int) (i : Int)⟩ := by
  rw [k0110001111_eq]
  refine Tr.seq ?_
  rw [k01100011110_eq]
  refine Tr.seq (pc (ax := .normal) ho (fun K => p58e_eq l K (bs full) L c1 c2 c3 line start i) ?_)
  show Tr (Y16 l rc out) k011000111101 _ .normal _
  rw [show ((i : Int) == ((bs full).size : Int)) = false by rw [bs_size, beq_eq_false_iff_ne]; omega, k011000111101_eq]
  refine Tr.cond (b := false) rfl (fun h => by cases h) (fun _ => ?_)
  rw [k0110001111011_eq]
  refine Tr.skip ?_
  show Tr (Y16 l rc out) k01100011111 Q .normal _
  refine Tr.gc (l := [0, 1, 3, 4, 5, 8]) (m := 7) (Nat.le_refl _) rfl ?_
  show Tr (Y16 l rc out) k01100011111 Q .normal ⟨sl5 l (bs full) [(8, c8P)], H58 L c1 c2 c3 (line : Int) (start : Int) (i : Int)⟩
  rw [k01100011111_eq]
  refine Tr.seq (pc (ax := .normal) ho (fun K => p58g_eq l K (bs full) L c1 c2 c3 line start i) ?_)
  show Tr (Y16 l rc out) k011000111111 Q .normal _
  rw [k011000111111_eq]
  refine Tr.seq (pc (ax := .normal) ho (fun K => ruleL l K full L c1 c2 c3 line start i hi) ?_)
  show Tr (Y16 l rc out) k0110001111111 Q .normal _
  refine Tr.gc (l := [0, 1, 3, 4, 5, 8, 9]) (m := 7) (Nat.le_refl _) rfl ?_
  rw [k0110001111111_eq]
  refine Tr.seq (pc (ax := .normal) ho (fun K => readL l K full L c1 c2 c3 line start i hi hf) ?_)
  generalize readS (full.drop i) = te at *
  obtain ⟨⟨tk, tt, tv, tl, tc⟩, e⟩ := te
  show Tr (Y16 l rc out) k01100011111111 Q .normal _
  refine Tr.gc (l := [0, 1, 3, 4, 5, 8, 12, 13]) (m := 8) (show 7 ≤ 8 by decide) rfl ?_
  rw [k01100011111111_eq]
  refine Tr.seq ?_
  rw [k011000111111110_eq]
  refine Tr.seq ?_
  rw [k0110001111111100_eq]
  refine Tr.yield (Y16_ok ho) k0110001111111100_6 k0110001111111100_1 k0110001111111100_2 k0110001111111100_3 k0110001111111100_4 hrc.par (by decide) (show 14 < 27 by decide) ?_ ?_ hrc.tm (by show noDfC rc.assign = true; rw [hrc.asg]; exact sc_noA) (by show noDfC rc.body = true; rw [hrc.bod]; exact sc_noB) ?_
  · intro kp hk
    simp only [Y16, List.mem_cons, List.not_mem_nil, or_false] at hk
    rcases hk with rfl | rfl | rfl | rfl <;> decide
  · simp [Srt, Y16]
  · refine awpOps_mono (fun σ1 hσ => ?_) _ (ops_awp (σt := ⟨sl5 l (bs full) [(8, c8P), (12, .ptr 7 0), (13, .int .i64 e), (70, .func (.yield l) [] []), (71, c8P), (72, tokP ⟨tk, tt, tv, tl, tc⟩), (73, tokP ⟨tk, tt, tv, (line : Int), ((i - start + 1 : Nat) : Int)⟩), (74, .int .i64 e)], H58 L c1 c2 c3 line start i ++ [some (h6 ⟨tk, tt, tv, tl, tc⟩)]⟩) fun K => ?_)
    · subst hσ
      have hr := sc_round8 L c1 c2 c3 line start i tk (bs tt) tv tl tc tk (bs tt) tv line ((i - start + 1 : Nat) : Int) e hL
      refine ⟨tokP ⟨tk, tt, tv, (line : Int), ((i - start + 1 : Nat) : Int)⟩, .int .i64 e, fun ax σ' => if e = 0 then ax = .normal ∧ σ' = sc_n8 L c1 c2 c3 line start i tk (bs tt) tv tl tc tk (bs tt) tv line ((i - start + 1 : Nat) : Int) e else ax = .ret ∧ σ' = sc_e8 L c1 c2 c3 line start i tk (bs tt) tv tl tc tk (bs tt) tv line ((i - start + 1 : Nat) : Int) e, rfl, rfl, rfl, show 7 ≤ 8 by decide, ?_, ?_⟩
      · show awp p12a_E 8 rc.assign (contA (awp p12a_E 8 rc.body _) fun _ _ => False) _
        rw [hrc.asg, hrc.bod]
        exact hr
      · intro ax σ' hq
        by_cases he : e = 0
        · rw [if_pos he] at hq
          obtain ⟨rfl, rfl⟩ := hq
          subst he
          refine ⟨rfl, ?_⟩
          show awpOps p58a_E (opsOf k0110001111111100) (((opsOf k0110001111111100).toList.drop 6).take 5) _ _
          refine awpOps_mono (fun σ3 hσ3 => ?_) _ (ops_awp fun K => postT l K (bs full) _ _ _)
          subst hσ3
          show Tr (Y16 l rc out) k0110001111111101 _ .normal _
          rw [k0110001111111101_eq]
          refine Tr.cond (b := false) rfl (fun h => by cases h) (fun _ => ?_)
          rw [k01100011111111011_eq]
          refine Tr.skip ?_
          show Tr (Y16 l rc out) k011000111111111 Q .normal _
          refine Tr.gc (l := [0, 1, 3, 4, 5, 12]) (m := 8) (show 7 ≤ 8 by decide) rfl ?_
          rw [k011000111111111_eq]
          refine Tr.seq (pc (ax := .normal) ho (fun K => p58m_eq l K (bs full) (L ++ [tokP ⟨tk, tt, tv, (line : Int), ((i - start + 1 : Nat) : Int)⟩]) c1 c2 c3 line start i tk (bs tt) tv tl tc) ?_)
          show Tr (Y16 l rc out) k0110001111111111 Q .normal _
          rw [k0110001111111111_eq]
          refine Tr.exit (h0 rfl _ rfl ?_)
          rw [bs_size]
          rfl
        · rw [if_neg he] at hq
          obtain ⟨rfl, rfl⟩ := hq
          refine ⟨rfl, ?_⟩
          show awpOps p58a_E (opsOf k0110001111111100) (((opsOf k0110001111111100).toList.drop 6).take 5) _ _
          refine awpOps_mono (fun σ3 hσ3 => ?_) _ (ops_awp fun K => postF l K (bs full) e _ _ _)
          subst hσ3
          show Tr (Y16 l rc out) k0110001111111101 _ .ret _
          rw [k0110001111111101_eq]
          refine Tr.cond (b := true) rfl (fun _ => ?_) (fun h => by cases h)
          rw [k01100011111111010_eq]
          exact Tr.ret (h1 he _ rfl)
    · refine Eq.trans (b := exOps p58j_X false (opsOf p58j_c1) (((opsOf p58j_c1).toList.drop 0).take 5) K ⟨sl5 l (bs full) [(8, c8P), (12, .ptr 7 0), (13, .int .i64 e)], H58 L c1 c2 c3 line start i ++ [some (h6 ⟨tk, tt, tv, tl, tc⟩)]⟩) rfl ?_
      refine (p58j_eq l (fun _ => K) (bs full) e L c1 c2 c3 line start i tk (bs tt) tv tl tc).trans ?_
      unfold clH
      rw [g60_eq, colW hs (by omega)]
      rfl
end
end Go.Proofs.Ytoajpgclgdhhlaa

/-
  The iterator tokens$1, walked: a round.
-/
import Derived.Test.YtoajpgclgdhhlaaC16g
namespace Go.Proofs.Ytoajpgclgdhhlaa
set_option linter.unusedVariables false
set_option linter.unusedSimpArgs false
set_option linter.unnecessarySimpa false
set_option linter.unusedSectionVars false
open Go.RowKit
set_option maxRecDepth 1000000
theorem bs_from (full : List UInt8) (i : Nat) : (bs full).extract i (bs full).size = bs (full.drop i) := by
  rw [bs_size, bs_extract, List.take_of_length_le (by simp)]
section
variable {l : Nat} {rc : Loop} {out : Nat → Nat}
theorem pre_walk (ho : 1 ≤ out l) {full : List UInt8} {L : List PV} {c1 c2 c3 : Int} {i g line start : Nat} {Q : AX → ASt → AX → Prop} (hf : full.length ≤ 1000000) (hi : i ≤ full.length) (hl : line ≤ i + 1) (hg : skipS false (full.drop i) = g)
    (h : Tr (Y16 l rc out) k0110001111 Q .normal ⟨sl5 l (bs full) [(8, c8P)], H58 L c1 c2 c3 ((nlS ((full.drop i).take g) i (line, start)).1 : Nat) ((nlS ((full.drop i).take g) i (line, start)).2 : Nat) ((i + g : Nat) : Int)⟩) :
    Tr (Y16 l rc out) k011000 Q .normal ⟨sl5 l (bs full) [], H58 L c1 c2 c3 (line : Int) (start : Int) (i : Int)⟩ := by
  have hgl := skip_le false (full.drop i)
  rw [hg, List.length_drop] at hgl
  generalize hp : nlS ((full.drop i).take g) i (line, start) = p at h
  rw [k011000_eq]
  refine Tr.seq (pc (σt := ⟨sl5 l (bs full) [(6, .int .i64 (g : Int)), (14, .str (bs full)), (15, .int .i64 (i : Int)), (16, .str (bs (full.drop i))), (17, .int .i64 (g : Int))], H58 L c1 c2 c3 line start i⟩) (ax := .normal) ho (fun K => ?_) ?_)
  · refine (p58a_eq l K (bs full) L c1 c2 c3 line start i).trans ?_
    rw [chk_of (by rw [bs_size]; simp; omega), Int.toNat_natCast, bs_from, clX_of (c59 (full.drop i) (by simp; omega)), vI_mk, hg]
  show Tr (Y16 l rc out) k0110001 Q .normal _
  refine Tr.gc (l := [0, 1, 3, 4, 5, 6]) (m := 7) (Nat.le_refl _) rfl ?_
  show Tr (Y16 l rc out) k0110001 Q .normal ⟨sl5 l (bs full) [(6, .int .i64 (g : Int))], H58 L c1 c2 c3 line start i⟩
  rw [k0110001_eq]
  refine Tr.seq (pc (σt := ⟨sl5 l (bs full) [(6, .int .i64 (g : Int)), (7, .int .i64 ((i + g : Nat) : Int)), (19, .int .i64 ((i + g : Nat) : Int)), (20, .int .i64 (i : Int)), (21, .int .i64 (g : Int)), (22, .int .i64 ((i + g : Nat) : Int)), (23, .bool false)], H58 L c1 c2 c3 (p.1 : Nat) (p.2 : Nat) i⟩) (ax := .normal) ho (fun K => ?_) ?_)
  · refine (p58b_eq l K (bs full) g L c1 c2 c3 line start i).trans ?_
    rw [lineL l K full L c1 c2 c3 i g (by omega) hf g i line start rfl hl, hp]
  show Tr (Y16 l rc out) k01100011 Q .normal _
  refine Tr.gc (l := [0, 1, 3, 4, 5, 6]) (m := 7) (Nat.le_refl _) rfl ?_
  show Tr (Y16 l rc out) k01100011 Q .normal ⟨sl5 l (bs full) [(6, .int .i64 (g : Int))], H58 L c1 c2 c3 (p.1 : Nat) (p.2 : Nat) i⟩
  rw [k01100011_eq]
  refine Tr.seq (pc (ax := .normal) ho (fun K => p58c_eq l K (bs full) g L c1 c2 c3 (p.1 : Nat) (p.2 : Nat) i) ?_)
  show Tr (Y16 l rc out) k011000111 Q .normal _
  refine Tr.gc (l := [0, 1, 3, 4, 5]) (m := 7) (Nat.le_refl _) rfl ?_
  rw [show IntKind.i64.wrap ((i : Int) + (g : Int)) = ((i + g : Nat) : Int) by rw [wrap64 (by omega) (by omega)]; omega]
  show Tr (Y16 l rc out) k011000111 Q .normal ⟨sl5 l (bs full) [], H58 L c1 c2 c3 (p.1 : Nat) (p.2 : Nat) ((i + g : Nat) : Int)⟩
  rw [k011000111_eq]
  refine Tr.seq (pc (ax := .normal) ho (fun K => p58d_eq l K (bs full) L c1 c2 c3 (p.1 : Nat) (p.2 : Nat) ((i + g : Nat) : Int)) ?_)
  show Tr (Y16 l rc out) k0110001111 Q .normal _
  exact Tr.gc (l := [0, 1, 3, 4, 5, 8]) (m := 7) (Nat.le_refl _) rfl h
theorem colW {i start : Nat} (h1 : start ≤ i) (h2 : i ≤ 1000000) : IntKind.i64.wrap (IntKind.i64.wrap ((i : Int) - (start : Int)) + 1) = ((i - start + 1 : Nat) : Int) := by
  rw [wrap64 (n := (i : Int) - start) (by omega) (by omega), wrap64 (by omega) (by omega)]; omega
/-- At the end of the text: the last token is yielded. -/
theorem end_walk (ho : 1 ≤ out l) (hrc : RcOK rc) {full : List UInt8} {L : List PV} {c1 c2 c3 : Int} {i line start : Nat} {Q : AX → ASt → AX → Prop} (hf : full.length ≤ 1000000) (hi : i = full.length) (hs : start ≤ i) (hL : L.length + 1 ≤ LIM)
    (h : ∀ σ, σ.h.take 4 = [some [.sl true 5 (L ++ [tokP ⟨4, [], 0, (line : Int), ((i - start + 1 : Nat) : Int)⟩])], some [.int .i64 c1], some [.int .i64 c2], some [.int .i64 c3]] → Q .ret σ .normal) :
    Tr (Y16 l rc out) k0110001111 Q .normal ⟨sl5 l (bs full) [(8, c8P)], H58 L c1 c2 c3 (line : Int) (start : Int) (i : Int)⟩ := by
  rw [k0110001111_eq]
  refine Tr.seq ?_
  rw [k01100011110_eq]
  refine Tr.seq (pc (ax := .normal) ho (fun K => p58e_eq l K (bs full) L c1 c2 c3 line start i) ?_)
  show Tr (Y16 l rc out) k011000111101 _ .normal _
  rw [show ((i : Int) == ((bs full).size : Int)) = true by rw [bs_size, hi]; simp, k011000111101_eq]
  refine Tr.cond (b := true) rfl (fun _ => ?_) (fun h => by cases h)
  rw [k0110001111010_eq]
  refine Tr.seq ?_
  rw [k01100011110100_eq]
  refine Tr.gc (l := [0, 1, 3, 4, 5, 8]) (m := 7) (Nat.le_refl _) rfl ?_
  refine Tr.yield (Y16_ok ho) k01100011110100_6 k01100011110100_1 k01100011110100_2 k01100011110100_3 k01100011110100_4 hrc.par (by decide) (show 14 < 27 by decide) ?_ ?_ hrc.tm (by show noDfC rc.assign = true; rw [hrc.asg]; exact sc_noA) (by show noDfC rc.body = true; rw [hrc.bod]; exact sc_noB) ?_
  · intro kp hk
    simp only [Y16, List.mem_cons, List.not_mem_nil, or_false] at hk
    rcases hk with rfl | rfl | rfl | rfl <;> decide
  · simp [Srt, Y16]
  · refine awpOps_mono (fun σ1 hσ => ?_) _ (ops_awp (σt := ⟨sl5 l (bs full) [(8, c8P), (42, .func (.yield l) [] []), (43, c8P), (44, .agg [.int .i64 4, .str ⟨#[]⟩, .int .i64 0, .int .i64 0, .int .i64 0]), (45, .agg [.int .i64 4, .str ⟨#[]⟩, .int .i64 0, .int .i64 (line : Int), .int .i64 ((i - start + 1 : Nat) : Int)])], H58 L c1 c2 c3 line start i⟩) fun K => ?_)
    · subst hσ
      have hr := sc_round7 L c1 c2 c3 line start i 4 ⟨#[]⟩ 0 line ((i - start + 1 : Nat) : Int) 0 hL
      refine ⟨.agg [.int .i64 4, .str ⟨#[]⟩, .int .i64 0, .int .i64 (line : Int), .int .i64 ((i - start + 1 : Nat) : Int)], .int .i64 0, fun ax σ' => if (0 : Int) = 0 then ax = .normal ∧ σ' = sc_n7 L c1 c2 c3 line start i 4 ⟨#[]⟩ 0 line ((i - start + 1 : Nat) : Int) 0 else ax = .ret ∧ σ' = sc_e7 L c1 c2 c3 line start i 4 ⟨#[]⟩ 0 line ((i - start + 1 : Nat) : Int) 0, rfl, rfl, rfl, Nat.le_refl _, ?_, ?_⟩
      · show awp p12a_E 7 rc.assign (contA (awp p12a_E 7 rc.body _) fun _ _ => False) _
        rw [hrc.asg, hrc.bod]
        exact hr
      · intro ax σ' hq
        rw [if_pos rfl] at hq
        obtain ⟨rfl, rfl⟩ := hq
        refine ⟨rfl, ?_⟩
        show Tr (Y16 l rc out) k01100011110101 _ .normal _
        rw [k01100011110101_eq]
        exact Tr.ret (h _ rfl)
    · refine Eq.trans (b := exOps p58f_X false (opsOf p58f_c1) (((opsOf p58f_c1).toList.drop 0).take 4) K ⟨sl5 l (bs full) [(8, c8P)], H58 L c1 c2 c3 line start i⟩) rfl ?_
      refine (p58f_eq l (fun _ => K) (bs full) L c1 c2 c3 line start i).trans ?_
      unfold clH
      rw [g60_eq, colW hs (by omega)]
      rfl
end
end Go.Proofs.Ytoajpgclgdhhlaa

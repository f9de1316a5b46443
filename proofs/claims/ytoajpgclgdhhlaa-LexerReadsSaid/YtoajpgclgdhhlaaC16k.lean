/-
  Scan returns the tokens of a text, or the first error and its place.
-/
import Derived.Test.YtoajpgclgdhhlaaC16j
namespace Go.Proofs.Ytoajpgclgdhhlaa
set_option linter.unusedVariables false
set_option linter.unusedSimpArgs false
set_option linter.unnecessarySimpa false
set_option linter.unusedSectionVars false
open Go.RowKit
set_option maxRecDepth 1000000
def PostS (c1 c2 c3 : Int) (r : ScanR) : AX → ASt → AX → Prop := fun ax σ j => ax = .ret ∧ match r with
  | .ok ts => j = .normal ∧ σ.h.take 4 = s_h true 5 (ts.map tokP) c1 c2 c3
  | .err a b e => j = .ret ∧ σ.h.take 4 = s_h true 0 [] a b e
section
variable {l : Nat} {rc : Loop} {out : Nat → Nat}
theorem walk (ho : 1 ≤ out l) (hrc : RcOK rc) (full : List UInt8) (c1 c2 c3 : Int) (hf : full.length ≤ 1000000) (r0 : ScanR) : ∀ (f i line start : Nat) (acc : List Tok), (full.drop i).length < f → i ≤ full.length → line ≤ i + 1 → start ≤ i → acc.length ≤ i → scanS f (full.drop i) i line start acc = r0 →
    ∃ k, TrR (Y16 l rc out) k01100 (PostS c1 c2 c3 r0) k .normal ⟨sl5 l (bs full) [], H58 (acc.map tokP) c1 c2 c3 line start i⟩ := by
  intro f
  induction f with
  | zero => intro i line start acc h; omega
  | succ f ih =>
    intro i line start acc hlen hi hl hs ha hr
    obtain ⟨g, hg⟩ : ∃ g, skipS false (full.drop i) = g := ⟨_, rfl⟩
    have hgl := skip_le false (full.drop i)
    rw [hg, List.length_drop] at hgl
    obtain ⟨p, hp⟩ : ∃ p, nlS ((full.drop i).take g) i (line, start) = p := ⟨_, rfl⟩
    have hnl := nl_ge ((full.drop i).take g) i (line, start) hs
    have htl : ((full.drop i).take g).length = g := by simp; omega
    rw [hp, htl] at hnl
    simp only at hnl
    rw [scanS] at hr
    simp only [hg, hp, List.drop_drop] at hr
    by_cases he : i + g = full.length
    · rw [List.drop_eq_nil_of_le (by omega)] at hr
      simp only at hr
      refine ⟨1, ?_⟩
      show Tr (Y16 l rc out) k01100 _ .normal _
      rw [k01100_eq]
      refine Tr.block (pre_walk ho hf hi hl hg ?_)
      rw [hp]
      refine end_walk ho hrc hf he (by omega) (by simp [LIM]; omega) fun σ hσ => ?_
      show PostS c1 c2 c3 r0 .ret σ .normal
      subst hr
      refine ⟨rfl, rfl, ?_⟩
      rw [hσ]; simp
    · have hlt : i + g < full.length := by omega
      have hd : full.drop (i + g) = full[i + g] :: full.drop (i + g + 1) := List.drop_eq_getElem_cons hlt
      rw [hd] at hr
      simp only at hr
      rw [← hd] at hr
      by_cases h0 : (readS (full.drop (i + g))).2 = 0
      · rw [if_pos h0, List.drop_drop] at hr
        have hrl := read_len (b := full[i + g]) (r := full.drop (i + g + 1)) (by rw [← hd]; exact h0)
        rw [← hd, List.length_drop] at hrl
        simp only [List.length_drop] at hlen
        obtain ⟨k, hk⟩ := ih (i + g + (readS (full.drop (i + g))).1.text.length) p.1 p.2 _ (by simp; omega) (by omega) (by omega) (by omega) (by simp; omega) hr
        refine ⟨k + 1, ?_⟩
        show Tr (Y16 l rc out) k01100 _ .normal _
        rw [k01100_eq]
        refine Tr.block (pre_walk ho hf hi hl hg ?_)
        rw [hp]
        refine tok_walk ho hrc hf hlt (by omega) (by simp [LIM]; omega) (fun _ σ hgc hσ => ?_) (fun h => absurd h0 h)
        show TrR (Y16 l rc out) k01100 (PostS c1 c2 c3 r0) k .normal σ
        have hσ' : σ.gc [0, 1, 3, 4, 5] 7 = ⟨sl5 l (bs full) [], H58 ((acc ++ [(readS (full.drop (i + g))).1.at (p.1 : Nat) ((i + g - p.2 + 1 : Nat) : Int)]).map tokP) c1 c2 c3 (p.1 : Nat) (p.2 : Nat) ((i + g + (readS (full.drop (i + g))).1.text.length : Nat) : Int)⟩ := by
          rw [hσ, show IntKind.i64.wrap (((i + g : Nat) : Int) + ((readS (full.drop (i + g))).1.text.length : Int)) = ((i + g + (readS (full.drop (i + g))).1.text.length : Nat) : Int) by rw [wrap64 (by omega) (by omega)]; omega]
          simp
        cases k with
        | zero => exact hk.elim
        | succ k =>
          exact Tr.gc (l := [0, 1, 3, 4, 5]) (m := 7) (Nat.le_refl _) hgc (by rw [hσ']; exact hk)
      · rw [if_neg h0] at hr
        refine ⟨1, ?_⟩
        show Tr (Y16 l rc out) k01100 _ .normal _
        rw [k01100_eq]
        refine Tr.block (pre_walk ho hf hi hl hg ?_)
        rw [hp]
        refine tok_walk ho hrc hf hlt (by omega) (by simp [LIM]; omega) (fun h => absurd h h0) (fun _ σ hσ => ?_)
        show PostS c1 c2 c3 r0 .ret σ .ret
        subst hr
        exact ⟨rfl, rfl, hσ⟩
theorem iter (ho : 1 ≤ out l) (hrc : RcOK rc) (full : List UInt8) (hf : full.length ≤ 1000000) :
    Tr (Y16 l rc out) p58a_c (PostS 0 0 0 (scanS (full.length + 1) full 0 1 0 [])) .normal ⟨[(0, .func (.yield l) [] []), (1, .cst (.str (bs full)))], s_h true 5 [] 0 0 0⟩ := by
  have e : p58a_c = k := by kernel_rfl
  rw [e, k_eq]
  refine Tr.scope ?_
  rw [k0_eq]
  refine Tr.seq (pc (ax := .normal) (σt := ⟨sl5 l (bs full) [], H58 [] 0 0 0 1 0 0⟩) ho (fun K => by kernel_rfl) ?_)
  show Tr (Y16 l rc out) k01 _ .normal _
  rw [k01_eq]
  refine Tr.seq ?_
  rw [k010_eq]
  refine Tr.label ?_
  show Tr (Y16 l rc out) k011 _ .normal _
  rw [k011_eq]
  refine Tr.block ?_
  rw [k0110_eq]
  obtain ⟨k, hk⟩ := walk ho hrc full 0 0 0 hf (scanS (full.length + 1) full 0 1 0 []) (full.length + 1) 0 1 0 [] (by simp) (by omega) (by omega) (by omega) (by simp) rfl
  refine Tr.mono (Tr.loop hk) fun ax σ j hq => ?_
  obtain ⟨rfl, hq⟩ := hq
  exact ⟨rfl, hq⟩
end
end Go.Proofs.Ytoajpgclgdhhlaa

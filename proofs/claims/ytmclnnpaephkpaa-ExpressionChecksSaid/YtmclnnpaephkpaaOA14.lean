/-
  Arguments of the statements of chapter 14: an expression that came in reads as a tree; a slice of numbers as a list.
-/
import Derived.Test.YtmclnnpaephkpaaBase14
import Derived.ProofKit
import Derived.SizedLaws
import Derived.Deep.Slices
import Derived.Deep.Fields
import Derived.ChangeArms
namespace Go.Proofs.Ytmclnnpaephkpaa
set_option linter.unusedVariables false
set_option linter.unusedSimpArgs false
set_option linter.unnecessarySimpa false
set_option linter.unusedSectionVars false
open Go.RowKit Go.ChangeShapes Go.WideShapes Go.ChangeAt

theorem cells24 : Try.prog.cellsOf 24 = 4 := by kernel_rfl
theorem cells3 : Try.prog.cellsOf 3 = 1 := by kernel_rfl
theorem cells22 : Try.prog.cellsOf 22 = 1 := by kernel_rfl
theorem bytes24 : Try.prog.bytesOf 24 = 48 := by kernel_rfl
theorem bytes3 : Try.prog.bytesOf 3 = 8 := by kernel_rfl
theorem own14 : ownKnob Try.prog.godebug = none := by kernel_rfl
theorem laidOut14 : laidOutB Try.prog = true := by kernel_rfl
theorem addr_add (b off n : Nat) : (⟨b, off, none⟩ : Addr).add n = ⟨b, off + n, none⟩ := by
  unfold Addr.add
  split
  · rename_i h; subst h; rfl
  · rfl
theorem addr_add2 (b off n m : Nat) : ((⟨b, off, none⟩ : Addr).add n).add m = ⟨b, off + n + m, none⟩ := by rw [addr_add, addr_add]
theorem weightsAll_mem {H : Type} {P : Program} {e : TypeId} : ∀ {ds : List (DataW H)} {d : DataW H} {n : Nat}, d ∈ ds → n ∈ d.weights P e → n ∈ DataW.weightsAll P e ds
  | d0 :: ds, d, n, hd, hn => by
    rw [DataW.weightsAll, List.mem_append]
    rcases List.mem_cons.1 hd with rfl | hd
    · exact .inl hn
    · exact .inr (weightsAll_mem hd hn)
theorem ers_of {W : World} {b : Nat} : ∀ (len off : Nat), (∀ i, i < len → ∃ e v0 v1 v2 v3, W.cell? ⟨b, off + i * 4, none⟩ = some v0 ∧ W.cell? ⟨b, off + i * 4 + 1, none⟩ = some v1 ∧ W.cell? ⟨b, off + i * 4 + 2, none⟩ = some v2 ∧ W.cell? ⟨b, off + i * 4 + 3, none⟩ = some v3 ∧ ER W e (.agg #[v0, v1, v2, v3])) → ∃ l : List EX, l.length = len ∧ ERs W b off l
  | 0, _, _ => ⟨[], rfl, trivial⟩
  | len + 1, off, h => by
    obtain ⟨e, v0, v1, v2, v3, h0, h1, h2, h3, he⟩ := h 0 (Nat.succ_pos _)
    obtain ⟨l, hl, hs⟩ := ers_of len (off + 4) fun i hi => by
      have := h (i + 1) (Nat.succ_lt_succ hi)
      rwa [show off + (i + 1) * 4 = off + 4 + i * 4 by omega] at this
    exact ⟨e :: l, by simp [hl], ⟨v0, v1, v2, v3, by simpa using h0, by simpa using h1, by simpa using h2, by simpa using h3, he⟩, hs⟩
section
variable {H : Type} {enc : TypeId × Value → H} {W : World}
set_option maxRecDepth 100000 in
/-- An expression that came in reads as a tree. -/
theorem open_expr : ∀ (fuel : Nat) (cs : List Value) (x : DataW H × List MemPlace), DataW.trod enc Try.prog W 0 (fun _ => true) true fuel 24 cs = some x → (∀ n, n ∈ x.1.weights Try.prog 24 → n ≤ reachBytes) →
    ∃ e v0 v1 v2 v3, cs = [v0, v1, v2, v3] ∧ ER W e (.agg #[v0, v1, v2, v3]) := by
  intro fuel
  induction fuel using Nat.strongRecOn with
  | _ fuel ih =>
    intro cs x h hw
    obtain ⟨xs, n, rfl, rfl, hlen, hxs, hg⟩ := DataW.trod_struct Try.underlying24 h
    rw [cells24] at hlen
    match cs, hlen with
    | [c0, c1, c2, c3], _ =>
      match xs, hxs with
      | [y0, y1, y2, y3], _ =>
        have g0 := hg 0 _ rfl
        have g1 := hg 1 _ rfl
        have g2 := hg 2 _ rfl
        have g3 := hg 3 _ rfl
        generalize hk0 : Try.prog.cellsOf _ = k0 at g0
        generalize hk1 : Try.prog.cellsOf _ = k1 at g1
        generalize hk2 : Try.prog.cellsOf _ = k2 at g2
        generalize hk3 : Try.prog.cellsOf _ = k3 at g3
        obtain rfl : k0 = 1 := hk0.symm.trans cells3
        obtain rfl : k1 = 1 := hk1.symm.trans cells3
        obtain rfl : k2 = 1 := hk2.symm.trans cells3
        obtain rfl : k3 = 1 := hk3.symm.trans cells22
        simp only [List.drop, List.take, List.getElem?_cons_zero, List.getElem?_cons_succ] at g0 g1 g2 g3
        obtain ⟨o, e0, _, _⟩ := DataW.trod_int Try.underlying3 g0
        obtain ⟨v, e1, _, _⟩ := DataW.trod_int Try.underlying3 g1
        obtain ⟨i, e2, _, _⟩ := DataW.trod_int Try.underlying3 g2
        obtain rfl : c0 = .int .i64 o := by simpa using e0
        obtain rfl : c1 = .int .i64 v := by simpa using e1
        obtain rfl : c2 = .int .i64 i := by simpa using e2
        rcases DataW.trod_slice Try.underlying22 g3 with ⟨e3, _⟩ | ⟨a, len, cap, elems, rest, n', rfl, e3, hy, _, hl, hm, hel, hall, hsp, _⟩
        · obtain rfl : c3 = .slice none 0 0 := by simpa using e3
          refine ⟨.node o v i [], _, _, _, _, rfl, ?_⟩
          unfold ER
          exact ⟨none, 0, rfl, by decide, by decide, fun h => absurd rfl h⟩
        · obtain rfl : c3 = .slice (some a) len cap := by simpa using e3
          subst hy
          have hwt : ∀ k, k ∈ (DataW.slice (elems.map (·.1)) (rest.map (·.1)) : DataW H).weights Try.prog 22 → k ≤ reachBytes := fun k hk => hw k (by
            simp only [DataW.weights, Try.underlying24, List.map]
            exact DataW.weights_mem_each (j := 3) (t := 22) rfl rfl k hk)
          have hw0 : (elems.length + rest.length) * 48 ≤ reachBytes := by
            have := hwt ((elems.length + rest.length) * Try.prog.bytesOf 24) (by simp [DataW.weights, Try.underlying22])
            rwa [bytes24] at this
          have hreach : len ≤ 35184372088831 := by unfold reachBytes at hw0; omega
          have hone : ∀ j, j < len → ∃ e v0 v1 v2 v3, W.cell? ((a.add (j * 4)).add 0) = some v0 ∧ W.cell? ((a.add (j * 4)).add 1) = some v1 ∧ W.cell? ((a.add (j * 4)).add 2) = some v2 ∧ W.cell? ((a.add (j * 4)).add 3) = some v3 ∧ ER W e (.agg #[v0, v1, v2, v3]) := by
            intro j hj
            have hjj := hall j hj
            rw [cells24, List.getElem?_eq_getElem (by omega)] at hjj
            obtain ⟨cs', hc', ht'⟩ := Option.bind_eq_some_iff.1 hjj
            obtain ⟨e, v0, v1, v2, v3, rfl, he⟩ := ih n' (by omega) cs' _ ht' (fun k hk => hwt k (by
              simp only [DataW.weights, Try.underlying22, List.mem_cons, List.mem_append]
              exact .inr (.inl (weightsAll_mem (List.mem_map.2 ⟨_, List.getElem_mem (by omega), rfl⟩) hk))))
            obtain ⟨_, _, hcell⟩ := World.cells?_some hc'
            exact ⟨e, v0, v1, v2, v3, by simpa using hcell 0 (by decide), by simpa using hcell 1 (by decide), by simpa using hcell 2 (by decide), by simpa using hcell 3 (by decide), he⟩
          by_cases h0 : len = 0
          · subst h0
            refine ⟨.node o v i [], _, _, _, _, rfl, ?_⟩
            unfold ER
            exact ⟨some a, cap, rfl, hl, by decide, fun h => absurd rfl h⟩
          · obtain ⟨b, off, spot⟩ := a
            obtain ⟨_, v0, _, _, _, hc0, _⟩ := hone 0 (by omega)
            have hspot : spot = none := by simpa [Addr.add] using World.cell?_spot hc0
            subst hspot
            obtain ⟨l, hll, hers⟩ := ers_of (W := W) (b := b) len off fun j hj => by
              obtain ⟨e, v0, v1, v2, v3, h0, h1, h2, h3, he⟩ := hone j hj
              rw [addr_add2] at h0 h1 h2 h3
              exact ⟨e, v0, v1, v2, v3, h0, h1, h2, h3, he⟩
            refine ⟨.node o v i l, _, _, _, _, rfl, ?_⟩
            unfold ER
            exact ⟨some ⟨b, off, none⟩, cap, by rw [hll], by omega, by omega, fun _ => ⟨b, off, rfl, hers⟩⟩
set_option maxRecDepth 100000 in
theorem open_expr_arg {r : Reach} {b0 : Nat} {v : Value} {d : DataW H} {ps : List MemPlace} (hv : Value.okWide Try.prog W r b0 24 v) (h : DataW.Trod enc Try.prog W 0 (fun _ => true) true 24 v d ps) (hw : ∀ n, n ∈ d.weights Try.prog 24 → n ≤ reachBytes) : ∃ e, ER W e v := by
  obtain ⟨cs, rfl, _⟩ := okWide_struct Try.underlying24 hv
  obtain ⟨fuel, hf⟩ := h
  obtain ⟨e, v0, v1, v2, v3, hcs, he⟩ := open_expr fuel _ _ hf hw
  have : cs = #[v0, v1, v2, v3] := by
    cases cs with
    | mk l => simp only [Value.cells] at hcs; rw [← hcs]
  exact ⟨e, by rw [this]; exact he⟩
end
end Go.Proofs.Ytmclnnpaephkpaa

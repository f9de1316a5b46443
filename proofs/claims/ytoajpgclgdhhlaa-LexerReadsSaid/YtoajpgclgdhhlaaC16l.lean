/-
  Scan returns the tokens of a text, or the first error and its place: the contract.
-/
import Derived.Test.YtoajpgclgdhhlaaC16k
namespace Go.Proofs.Ytoajpgclgdhhlaa
set_option linter.unusedVariables false
set_option linter.unusedSimpArgs false
set_option linter.unnecessarySimpa false
set_option linter.unusedSectionVars false
open Go.RowKit
set_option maxRecDepth 1000000
def scanP : ScanR → PV
  | .ok ts => .tuple [.sl false 5 (ts.map tokP), .int .i64 0, .int .i64 0, .int .i64 0]
  | .err a b e => .tuple [.sl false 5 [], .int .i64 a, .int .i64 b, .int .i64 e]
def scanT (l : List UInt8) : ScanR := if 65536 < l.length then .err 1 1 15 else scanS (l.length + 1) l 0 1 0 []
/-- A part of Scan, by its equation. -/
theorem aw {c : Code} {σ σt : ASt} {ax : AX} (h : ∀ K, exK s_X c K σ = K ax σt) {n : Nat} {out : Nat → Nat} {M : Mem} {B : Blk} {a : Act} {w : World} (hI : Inv 27 M B out σ a.tmps w) :
    c.wpIn Fence.wide n Try.prog (fun e a' w' => e = ax.toExit ∧ a'.defers = a.defers ∧ ∃ M' B', GoodC 27 out 0 M B σ a.tmps w M' B' σt a'.tmps w') a w := by
  have h1 := piece_awp (X := s_X) SS_ok.V SS_ok.W (CC_sound mixed16 SS_ok C16_ok) (LL_sound mixed16 SS_ok C16_ok rfl) h
  refine wpIn_wide.2 (wp_mono (awp_sound (E := s_E) (m0 := 0) (out := out) mixed16 c hI h1) fun e a' w' hl => ?_)
  obtain ⟨ax', σ', M', B', rfl, ⟨rfl, rfl⟩, hd, hG⟩ := hl
  exact ⟨rfl, hd, M', B', hG⟩
theorem ro12 : (SS.prm 12).ro = [([5], false), ([], true), ([], true), ([], true)] := rfl
/-- The end of Scan: what its cells hold. -/
theorem end12 {σ0 : ASt} {t0 : Array Value} {out : Nat → Nat} {M : Mem} {B : Blk} {w : World} (hheap : HeapOK M B w []) (hfp : ∀ b, fp B σ0 t0 w b = ownH w [] B b) {M' : Mem} {B' : Blk} {s : Slots} {h : Objs} {a' : Act} {w' : World} {o : Bool} {z : Nat} {L : List PV} {a b c : Int}
    (hG : GoodC 27 out 0 M B σ0 t0 w M' B' ⟨s, h⟩ a'.tmps w') (h2 : sget 2 s = some (.ptr 0 0)) (h3 : sget 3 s = some (.ptr 1 0)) (h4 : sget 4 s = some (.ptr 2 0)) (h5 : sget 5 s = some (.ptr 3 0)) (hh : h.take 4 = s_h o z L a b c) {r : PV} (hr : finR (SS.prm 12).ro (.tuple [.sl false z L, .int .i64 a, .int .i64 b, .int .i64 c]) = r) :
    ∃ v, (results Try.f12 a'.tmps).run Try.prog w' = .ok v w' ∧ ∃ M' B', Post [] B out M w r [] v M' B' w' := by
  have hh0 : h[0]? = some (some [.sl o z L]) := by have := congrArg (fun l => l[0]?) hh; simpa [List.getElem?_take] using this
  have hh1 : h[1]? = some (some [.int .i64 a]) := by have := congrArg (fun l => l[1]?) hh; simpa [List.getElem?_take] using this
  have hh2 : h[2]? = some (some [.int .i64 b]) := by have := congrArg (fun l => l[2]?) hh; simpa [List.getElem?_take] using this
  have hh3 : h[3]? = some (some [.int .i64 c]) := by have := congrArg (fun l => l[3]?) hh; simpa [List.getElem?_take] using this
  have hres : Try.f12.results.toList = [.cell 2 24, .cell 3 3, .cell 4 3, .cell 5 25] := by kernel_rfl
  have hret : retOK Try.prog Try.f12.results.toList ([] : Objs).length (.tuple [.sl false z L, .int .i64 a, .int .i64 b, .int .i64 c]) [] ⟨s, h⟩ := by
    refine ⟨Nat.le_refl _, rfl, rfl, rfl, ?_⟩
    rw [hres]
    have t24 : ti Try.prog 24 = some ⟨1, 24, false, [.sl true 0 []]⟩ := by kernel_rfl
    have t3 : ti Try.prog 3 = some ⟨1, 8, false, [.int .i64 0]⟩ := by kernel_rfl
    have t25 : ti Try.prog 25 = some ⟨1, 8, false, [.int .i64 0]⟩ := by kernel_rfl
    simp only [List.map_cons, List.map_nil, resV, t24, t3, t25, h2, h3, h4, h5, loadV, hh0, hh1, hh2, hh3, Bool.false_eq_true, if_false, List.getElem?_cons_zero, Option.map_some, allSome, PV.un]
  obtain ⟨v, h6, h7⟩ := post_of hheap hfp hG hret (SS.prm 12).ro
  rw [hr] at h7
  exact ⟨v, h6, _, _, h7⟩
end Go.Proofs.Ytoajpgclgdhhlaa

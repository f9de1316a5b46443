/-
  The contract of slices.Sort at []int over an object.
-/
import Derived.Test.YtmclnnpaephkpaaAbZ
import Derived.Shelf.Lay
import Derived.Shelf.Sort.Plain
import Derived.Shelf.Slices.In.SortNone
import Derived.Sort.OwnSortedInts
namespace Go.Proofs
open Go.Shelf
def Try.lays189_ren:Go.Shelf.Ren:=⟨fun|189=>63|125=>79|257=>78|128=>90|129=>91|294=>81|295=>82|296=>83|297=>84|298=>85|299=>86|216=>87|300=>88|301=>89|328=>92|329=>93|330=>94|331=>95|332=>96|215=>97|343=>98|n=>n,fun|28=>33|46=>92|51=>117|53=>119|183=>111|182=>110|131=>37|218=>120|222=>77|228=>125|229=>126|n=>n,id⟩
theorem Try.lays189 : Lays.n189 Try.prog Try.lays189_ren:=by constructor<;>first|kernel_rfl|(intro w;kernel_rfl)
end Go.Proofs
namespace Go.Proofs.Ytmclnnpaephkpaa
set_option linter.unusedVariables false
set_option linter.unusedSimpArgs false
set_option linter.unnecessarySimpa false
set_option linter.unusedSectionVars false
open Go.RowKit Go.Shelf Go.Sort
theorem sort_run (blk off cap : Nat) (zs : List Int) (w : World) (hH : Holds (Value.int .i64) w blk off zs.toArray) (hblk : blk < w.heap.size) (hsz : zs.length < 4611686018427387904) :
    Calls Try.prog 63 #[.slice (some ⟨blk, off, none⟩) zs.length cap] w fun e w' => e = .returned (.tuple #[]) ∧ ∃ n os, w' = grow (putRow (Value.int .i64) (Sort.ahead w n) blk off (zs.mergeSort fun x y => decide (x ≤ y)).toArray) os := Any.slices_Sort_int Try.lays189 blk off cap zs w hH hblk hsz
theorem sort_none (p : Option Addr) (cap : Nat) (w : World) : Calls Try.prog 63 #[.slice p 0 cap] w fun e w' => e = .returned (.tuple #[]) ∧ w' = w := Any.slices_Sort_int_none Try.lays189 p cap w
def intsL (l : List Int) : List PV := l.map (PV.int .i64)
def sortI (l : List Int) : List Int := l.mergeSort fun x y => decide (x ≤ y)
theorem ownC_ints (l : List Int) (vl : List Value) (b : Nat) : ownC (intsL l) vl b = 0 := by
  induction l generalizing vl with
  | nil => cases vl <;> rfl
  | cons x l ih =>
    cases vl with
    | nil => rfl
    | cons v vl =>
      show ownV (.int .i64 x) v b + ownC (intsL l) vl b = 0
      rw [ih, ownV_no rfl]
theorem ev_sort (zs : List Int) (hsz : zs.length < 4611686018427387904) : Ev Try.prog 63 [.slh 0 0 zs.length 1] [some (intsL zs)] (.tuple []) [some (intsL (sortI zs))] := by
  refine ⟨by kernel_rfl, fun out M B w vals hmem hheap hcnt hnew hv => ?_⟩
  have hBl := hheap.1
  obtain ⟨c, rfl⟩ : ∃ c, B = [c] := by
    match B, hBl with
    | [c], _ => exact ⟨c, rfl⟩
  obtain ⟨u1, us, e1, hu, hv⟩ := reps_cons.1 hv
  rw [reps_nil] at hv; subst hv
  have ev1 : vals = #[u1] := by rw [← Array.toList_inj]; exact e1
  subst ev1
  obtain ⟨c', cap, ⟨hc', hc0⟩, rfl, hn, hcap⟩ := rep_slh.1 hu
  simp at hc'; subst hc'
  obtain ⟨c', hc', vs, ty, o1, ⟨o2, o2'⟩, o3, o4, o5⟩ := hheap.2 0 _ rfl
  simp at hc'; subst hc'
  obtain ⟨ty', hty, hrow⟩ := rowAt_inv o1 (by rw [o2']; exact hc0)
  have hlt : c.1 < w.heap.size := (Array.getElem?_eq_some_iff.1 hrow).1
  have hget : ∀ (j : Nat) x, zs[j]? = some x → vs[j]? = some (.int .i64 x) := fun j x hj => by
    obtain ⟨v, h1, h2, _, _⟩ := o4 j (.int .i64 x) (by simp [intsL, hj])
    rw [rep_int.1 h2] at h1; exact h1
  have hl : zs.length ≤ vs.size := by simpa [intsL] using o3
  have htake : vs.toList.take zs.length = zs.map (Value.int .i64) := by
    apply List.ext_getElem?
    intro j
    by_cases hj : j < zs.length
    · rw [List.getElem?_take_of_lt hj, Array.getElem?_toList, hget j zs[j] (List.getElem?_eq_getElem hj)]
      simp [hj]
    · rw [List.getElem?_take_eq_none (by omega), List.getElem?_eq_none (by simp; omega)]
  refine (sort_run c.1 0 cap zs w (holds_of_blockI hrow htake) hlt hsz).mono ?_
  rintro e w' ⟨rfl, n, os, rfl⟩
  have hsl : (sortI zs).length = zs.length := by unfold sortI; exact List.length_mergeSort zs
  have hrow2 := heap_sortedI (n := n) (os := os) (sortI zs).toArray hrow
  obtain ⟨g1, g2, g3, g4, g5⟩ := grownBy_sortedI (w := w) (g := c.1) (n := n) (os := os) (sortI zs).toArray
  have hother : ∀ b, b < w.heap.size → b ≠ c.1 → (grow (putRow (Value.int .i64) (Sort.ahead w n) c.1 0 (sortI zs).toArray) os).heap[b]? = w.heap[b]? := fun b hb hne => g5 b hb (fun e => hne (Option.some.inj e))
  have hown : ∀ (w : World) l b, ownH w [some (intsL l)] [c] b = if c.1 = b then 1 else 0 := fun w l b => by simp [ownH, ownC_ints]
  refine ⟨.tuple #[], M, [c], rfl, fun b o u e => ?_, MLe.refl _ _, ⟨g1, g2, g3, g4, fun b hb h0 => ⟨hother b hb (fun e => by rw [hown, if_pos e.symm] at h0; exact absurd h0 (by decide)), fun _ => rfl⟩⟩, ⟨rfl, fun i cs hi => ?_⟩, rep_tuple.2 ⟨_, rfl, reps_nil.2 rfl⟩, tl_no rfl, fun b _ => ?_, fun b => ?_, fun b hb => ?_⟩
  · obtain ⟨h1, h2⟩ := hmem b o u e
    have hne : b ≠ c.1 := fun e2 => by subst e2; rw [o5] at e; cases e
    exact ⟨(World.cell?_of_block (hother b (World.block_lt_of_cell? _ _ h1) hne)).trans h1, h2⟩
  · match i, hi with
    | 0, hi =>
      simp at hi; subst hi
      refine ⟨c, rfl, _, ty' + 1, rowAt_of hrow2, ⟨by simp [putCells]; exact o2, by rw [← o2', hty]⟩, by simp [intsL, hsl, putCells]; exact hl, fun j p hj => ?_, o5⟩
      have hj1 : j < (sortI zs).length := by have := (List.getElem?_eq_some_iff.1 hj).1; simpa [intsL] using this
      have hjv : j < vs.size := by omega
      have hp : p = .int .i64 ((sortI zs)[j]) := by simp [intsL, hj1] at hj; exact hj.symm
      subst hp
      refine ⟨.int .i64 ((sortI zs)[j]), ?_, rep_int.2 rfl, tl_no rfl, rfl⟩
      simp [putCells, hj1, hjv]
    | i + 1, hi => simp at hi
  · rw [ownV_no rfl, hown, hown]; exact Nat.le_refl _
  · have := hcnt b; rw [hown] at this; rw [ownV_no rfl, hown]; exact this
  · have := hnew b (Nat.le_trans g4 hb); rw [hown] at this; rw [ownV_no rfl, hown]; exact this
theorem ev_still {P : Program} {g : FuncId} {args : List PV} {r : PV} {v : Value} (hc : callable P g = true) (hr : ∀ M B, Rep M B r v) (ho : r.own = false)
    (h : ∀ (M : Mem) (B : Blk) (w : World) (vals : Array Value), Reps M B args vals.toList → Calls P g vals w fun e w' => e = .returned v ∧ w' = w) (hh : Objs) : Ev P g args hh r hh := by
  refine ⟨hc, fun out M B w vals hmem hheap hcnt hnew hv => (h M B w vals hv).mono ?_⟩
  rintro e w' ⟨rfl, rfl⟩
  refine ⟨v, M, B, rfl, hmem, MLe.refl _ _, Fr.refl _ _ _, hheap, hr M B, tl_no ho, fun b _ => ?_, fun b => ?_, fun b hb => ?_⟩
  · rw [ownV_no ho]; exact Nat.le_refl _
  · rw [ownV_no ho]; exact hcnt b
  · rw [ownV_no ho]; exact hnew b hb
def intsOf : List PV → Option (List Int)
  | [] => some []
  | .int .i64 n :: l => (intsOf l).map (n :: ·)
  | _ => none
theorem intsOf_spec : ∀ {es : List PV} {xs : List Int}, intsOf es = some xs → es = intsL xs
  | [], xs, h => by simp [intsOf] at h; subst h; rfl
  | p :: es, xs, h => by
    unfold intsOf at h
    split at h
    · rename_i e; cases e
    · rename_i s l e
      injection e with e1 e2; subst e1; subst e2
      cases hl : intsOf es with
      | none => simp [hl] at h
      | some ys => simp [hl] at h; subst h; rw [intsOf_spec hl]; rfl
    · cases h
theorem intsOf_ints (l : List Int) : intsOf (intsL l) = some l := by
  induction l with
  | nil => rfl
  | cons x l ih => show (intsOf (intsL l)).map (x :: ·) = _; rw [ih]; rfl
def CS : Cal := fun g args h => match g, args, h with
  | 63, [.slh 0 0 n 1], [some cs] => (match intsOf cs with
    | some zs => (match Nat.beq zs.length n && Nat.ble n 1073741824 with | true => some (.tuple [], [some (intsL (sortI zs))]) | false => none)
    | none => none)
  | 63, [.sl _ _ []], h => some (.tuple [], h)
  | _, _, _ => none
theorem CS_ok : calOK Try.prog CS := by
  intro g args h r h' hv
  unfold CS at hv
  split at hv
  · rename_i n cs
    split at hv
    · rename_i zs hz
      split at hv
      · rename_i hc
        cases hv
        simp only [Bool.and_eq_true] at hc
        have h1 := Nat.eq_of_beq_eq_true hc.1
        have h2 := Nat.le_of_ble_eq_true hc.2
        subst h1
        rw [intsOf_spec hz]
        exact ev_sort zs (by omega)
      · cases hv
    · cases hv
  · rename_i h o z
    cases hv
    refine ev_still (v := .tuple #[]) (by kernel_rfl) (fun _ _ => rep_tuple.2 ⟨_, rfl, reps_nil.2 rfl⟩) rfl (fun M B w vals hv => ?_) _
    obtain ⟨u1, us, e1, r1, hv⟩ := reps_cons.1 hv
    rw [reps_nil] at hv; subst hv
    obtain ⟨A, cap, rfl, _⟩ := rep_sl.1 r1
    have : vals = #[.slice A 0 cap] := by rw [← Array.toList_inj]; exact e1
    rw [this]
    exact sort_none A cap w
  · cases hv
end Go.Proofs.Ytmclnnpaephkpaa

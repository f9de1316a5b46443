/-
  Contracts of the library's functions at this program.
-/
import Derived.Test.YtoajpgclgdhhlaaAbZ
import Derived.Shelf.Lay
import Derived.Shelf.Strings.Search1
import Derived.Shelf.Strings.Shaped
import Derived.Shelf.LaysM
namespace Go.Proofs
open Go.Shelf
def Try.lays217_ren:Go.Shelf.Ren:=⟨fun|217=>89|266=>93|n=>n,id,id⟩
theorem Try.lays217 : Lays.n217 Try.prog Try.lays217_ren:=by constructor<;>first|kernel_rfl|(intro w;kernel_rfl)
end Go.Proofs
namespace Go.Proofs.Ytoajpgclgdhhlaa
set_option linter.unusedVariables false
set_option linter.unusedSimpArgs false
set_option linter.unnecessarySimpa false
set_option linter.unusedSectionVars false
open Go.RowKit Go.Shelf
theorem idx89 (s : ByteArray) (c : Int) (w : World) : Calls Try.prog 89 #[.string s, .int .u8 c] w fun e w' => e = .returned (.int .i64 (Lib.indexByte s.data.toList c.toNat.toUInt8)) ∧ w' = w := Any.stringslite_IndexByte Try.lays217 s c w
def C16 : Cal := fun g args h => match g, args with
  | 89, [.str s, .int .u8 c] => some (.int .i64 (Lib.indexByte s.data.toList c.toNat.toUInt8), h)
  | _, _ => none
theorem ev_still {P : Program} {g : FuncId} {args : List PV} {r : PV} {v : Value} (hc : callable P g = true) (hr : ∀ M B, Rep M B r v) (ho : r.own = false)
    (h : ∀ (M : Mem) (B : Blk) (w : World) (vals : Array Value), Reps M B args vals.toList → Calls P g vals w fun e w' => e = .returned v ∧ w' = w) (hh : Objs) : Ev P g args hh r hh := by
  refine ⟨hc, fun out M B w vals hmem hheap hcnt hnew hv => (h M B w vals hv).mono ?_⟩
  rintro e w' ⟨rfl, rfl⟩
  refine ⟨v, M, B, rfl, hmem, MLe.refl _ _, Fr.refl _ _ _, hheap, hr M B, tl_no ho, fun b _ => ?_, fun b => ?_, fun b hb => ?_⟩
  · rw [ownV_no ho]; exact Nat.le_refl _
  · rw [ownV_no ho]; exact hcnt b
  · rw [ownV_no ho]; exact hnew b hb
theorem C16_ok : calOK Try.prog C16 := by
  intro g args h r h' hv
  unfold C16 at hv
  split at hv
  · rename_i s c
    injection hv with hv; injection hv with h1 h2; subst h1; subst h2
    refine ev_still (v := .int .i64 (Lib.indexByte s.data.toList c.toNat.toUInt8)) (by kernel_rfl) (fun _ _ => rep_int.2 rfl) rfl (fun M B w vals hv => ?_) h
    obtain ⟨u1, us, e1, r1, hv⟩ := reps_cons.1 hv
    obtain ⟨u2, us, rfl, r2, hv⟩ := reps_cons.1 hv
    rw [reps_nil] at hv
    subst hv
    rw [rep_str] at r1; rw [rep_int] at r2
    subst r1; subst r2
    have : vals = #[.string s, .int .u8 c] := by rw [← Array.toList_inj]; exact e1
    rw [this]
    exact idx89 s c w
  · cases hv
end Go.Proofs.Ytoajpgclgdhhlaa

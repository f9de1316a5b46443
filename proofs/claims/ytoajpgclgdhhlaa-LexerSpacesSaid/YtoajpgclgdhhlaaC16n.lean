/-
  Contracts of the library's functions and of Scan, for the functions above them.
-/
import Derived.Test.YtoajpgclgdhhlaaC16m
import Derived.Shelf.Strings.Builder1
import Derived.Shelf.Strings.OnBuilder
import Derived.Shelf.Strings.Repeat
namespace Go.Proofs
open Go.Shelf
def Try.lays156_ren:Go.Shelf.Ren:=⟨fun|156=>33|165=>66|166=>38|169=>40|240=>67|241=>83|276=>84|277=>92|n=>n,fun|31=>28|72=>68|76=>72|70=>66|37=>23|75=>70|127=>97|164=>102|80=>75|n=>n,id⟩
theorem Try.lays156 : Lays.n156 Try.prog Try.lays156_ren:=by constructor<;>first|kernel_rfl|(intro w;kernel_rfl)
def Try.lays105_ren:Go.Shelf.Ren:=⟨fun|105=>39|212=>68|99=>69|165=>66|166=>38|170=>70|169=>40|263=>85|264=>86|206=>87|240=>67|241=>83|276=>84|277=>92|n=>n,fun|46=>93|109=>94|72=>68|76=>72|51=>104|146=>105|53=>107|148=>108|70=>66|37=>23|75=>70|127=>97|164=>102|80=>75|n=>n,id⟩
theorem Try.lays105 : Lays.n105 Try.prog Try.lays105_ren:=by constructor<;>first|kernel_rfl|(intro w;kernel_rfl)
end Go.Proofs
namespace Go.Proofs.Ytoajpgclgdhhlaa
set_option linter.unusedVariables false
set_option linter.unusedSimpArgs false
set_option linter.unnecessarySimpa false
set_option linter.unusedSectionVars false
open Go.RowKit Go.Shelf
/-! ### pure functions that lay memory of their own -/
theorem ev_below {P : Program} {g : FuncId} {args : List PV} {r : PV} {v : Value} (hc : callable P g = true) (hr : ∀ M B, Rep M B r v) (ho : r.own = false)
    (h : ∀ (M : Mem) (w : World) (vals : Array Value), memOK M w → Reps M [] args vals.toList → Calls P g vals w fun e w' => e = .returned v ∧ Below w.heap.size w w') : Ev P g args [] r [] := by
  refine ⟨hc, fun out M B w vals hmem hheap hcnt hnew hv => ?_⟩
  have hB : B = [] := List.eq_nil_of_length_eq_zero (by have := hheap.1; simpa using this.symm)
  subst hB
  refine (h M w vals hmem hv).mono ?_
  rintro e w' ⟨rfl, hb⟩
  have hz : ∀ w b, ownH w [] [] b = 0 := fun w b => by simp [ownH]
  refine ⟨v, M, [], rfl, fun b o u e => ?_, MLe.refl _ _, ⟨hb.os, hb.tape, hb.output, hb.size, fun b hlt _ => ⟨hb.block b hlt, fun _ => rfl⟩⟩, ⟨rfl, fun i cs hi => by simp at hi⟩, hr M [], tl_no ho, fun b hb' => ?_, fun b => ?_, fun b hb' => ?_⟩
  · obtain ⟨h1, h2⟩ := hmem b o u e
    have := World.block_lt_of_cell? _ _ h1
    exact ⟨(World.cell?_of_block (hb.block b this)).trans h1, h2⟩
  · rw [hz, ownV_no ho]; omega
  · have := hcnt b; rw [hz] at this; rw [hz, ownV_no ho]; omega
  · have := hnew b (Nat.le_trans hb.size hb'); rw [hz] at this; rw [hz, ownV_no ho]; omega
theorem bx156 : Builder.Extra Try.prog Try.lays156_ren where
  sizeBuilder := by kernel_rfl
  liesBuilder := by kernel_rfl
  t5 := Try.underlying5
  a5 := Try.isAgg5
  z5 := Try.sizeOf5
  v5 := Try.zeroValue5
  infoByte := by kernel_rfl
  cellsByte := by kernel_rfl
  sizeByte := by kernel_rfl
  neB5 := by decide
theorem bx105 : Builder.Extra Try.prog Try.lays105_ren where
  sizeBuilder := by kernel_rfl
  liesBuilder := by kernel_rfl
  t5 := Try.underlying5
  a5 := Try.isAgg5
  z5 := Try.sizeOf5
  v5 := Try.zeroValue5
  infoByte := by kernel_rfl
  cellsByte := by kernel_rfl
  sizeByte := by kernel_rfl
  neB5 := by decide
theorem lays240 : Lays.n240 Try.prog Try.lays156_ren := { Try.lays156 with }
theorem cc_used (b : Nat) (w : World) (h0 : w.cell? ⟨b, 0, none⟩ = some (.pointer (some ⟨b, 0, none⟩))) : Calls Try.prog 67 #[.pointer (some ⟨b, 0, none⟩)] w fun e w' => e = .returned (.tuple #[]) ∧ w' = w :=
  Any.Builder_copyCheck_used lays240 bx156.toX72 b w h0
theorem cc_fresh (b : Nat) (w : World) (h0 : w.cell? ⟨b, 0, none⟩ = some (.pointer none)) (hsh : w.shape? b = some (68, 2)) (hfz : w.frozen? ⟨b, 0, none⟩ = false) :
    Calls Try.prog 67 #[.pointer (some ⟨b, 0, none⟩)] w fun e w' => e = .returned (.tuple #[]) ∧ w' = w.setCell ⟨b, 0, none⟩ (.pointer (some ⟨b, 0, none⟩)) :=
  Any.Builder_copyCheck_fresh lays240 bx156.toX72 b w h0 hsh hfz
theorem join_run (bk o c : Nat) (xs : List ByteArray) (sep : ByteArray) (w : World) (hcells : ∀ (j : Nat) x, xs[j]? = some x → w.cell? ⟨bk, o + j, none⟩ = some (.string x)) (hbk : bk < w.heap.size) (hN : xs.length ≤ 140737488355328) (hcap : xs.length ≤ c)
    (hlen : (Lib.join (xs.map (·.data.toList)) sep.data.toList).length ≤ 140737488355328) :
    Calls Try.prog 33 #[.slice (some ⟨bk, o, none⟩) xs.length c, .string sep] w fun e w' => e = .returned (.string ⟨(Lib.join (xs.map (·.data.toList)) sep.data.toList).toArray⟩) ∧ Below w.heap.size w w' :=
  Any.strings_Join Try.lays156 bx156 bk o c xs sep w hcells hbk hN hcap hlen
theorem join_none (a : Option Addr) (c : Nat) (sep : ByteArray) (w : World) : Calls Try.prog 33 #[.slice a 0 c, .string sep] w fun e w' => e = .returned (.string ⟨#[]⟩) ∧ w' = w :=
  Any.strings_Join_none Try.lays156 bx156 a c sep w
theorem repeat_run (s : ByteArray) (c : Nat) (w : World) (hc : c ≤ 9223372036854775807) (hlen : s.size * c ≤ 140737488355328) :
    Calls Try.prog 39 #[.string s, .int .i64 c] w fun e w' => e = .returned (.string ⟨(Lib.repeatL s.data.toList c).toArray⟩) ∧ Below w.heap.size w w' :=
  Any.strings_Repeat Try.lays105 bx105 s c w hc hlen
end Go.Proofs.Ytoajpgclgdhhlaa

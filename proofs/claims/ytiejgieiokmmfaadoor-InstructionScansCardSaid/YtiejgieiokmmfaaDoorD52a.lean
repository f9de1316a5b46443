/-
  Contracts of the library's functions at this program: Itoa below 100, Join, Builder, Grow at nil.
-/
import Derived.Test.YtiejgieiokmmfaaDoorAbZ
import Derived.Shelf.Lay
import Derived.Shelf.Strings.Builder1
import Derived.Shelf.Strings.OnBuilder
import Derived.Shelf.Strconv.Itoa3
namespace Go.Proofs
open Go.Shelf
def Tryd.lays171_ren:Go.Shelf.Ren:=⟨fun|171=>62|243=>80|246=>111|283=>126|284=>127|285=>128|286=>129|129=>108|317=>137|318=>138|319=>139|320=>140|337=>143|338=>144|n=>n,fun|171=>168|53=>150|37=>25|173=>170|212=>178|51=>148|213=>179|46=>47|232=>185|233=>186|n=>n,fun|17=>1|18=>4|19=>5|n=>n⟩
theorem Tryd.lays171 : Lays.n171 Tryd.prog Tryd.lays171_ren:=by constructor<;>first|kernel_rfl|(intro w;kernel_rfl)
def Tryd.lays156_ren:Go.Shelf.Ren:=⟨fun|156=>78|165=>110|166=>77|169=>65|240=>109|241=>125|276=>124|277=>136|n=>n,fun|31=>86|72=>101|76=>130|70=>99|37=>25|75=>129|127=>134|164=>166|80=>113|n=>n,id⟩
theorem Tryd.lays156 : Lays.n156 Tryd.prog Tryd.lays156_ren:=by constructor<;>first|kernel_rfl|(intro w;kernel_rfl)
def Tryd.lays169_ren:Go.Shelf.Ren:=⟨fun|169=>65|n=>n,fun|70=>99|72=>101|37=>25|127=>134|n=>n,id⟩
theorem Tryd.lays169 : Lays.n169 Tryd.prog Tryd.lays169_ren:=by constructor<;>first|kernel_rfl|(intro w;kernel_rfl)
end Go.Proofs
namespace Go.Proofs.YtiejgieiokmmfaaDoor
set_option linter.unusedVariables false
set_option linter.unusedSimpArgs false
set_option linter.unnecessarySimpa false
set_option linter.unusedSectionVars false
open Go.RowKit Go.Shelf
theorem bx156 : Builder.Extra Tryd.prog Tryd.lays156_ren where
  sizeBuilder := by kernel_rfl
  liesBuilder := by kernel_rfl
  t5 := Tryd.underlying5
  a5 := Tryd.isAgg5
  z5 := Tryd.sizeOf5
  v5 := Tryd.zeroValue5
  infoByte := by kernel_rfl
  cellsByte := by kernel_rfl
  sizeByte := by kernel_rfl
  neB5 := by decide
theorem bx169 : Builder.Extra Tryd.prog Tryd.lays169_ren where
  sizeBuilder := by kernel_rfl
  liesBuilder := by kernel_rfl
  t5 := Tryd.underlying5
  a5 := Tryd.isAgg5
  z5 := Tryd.sizeOf5
  v5 := Tryd.zeroValue5
  infoByte := by kernel_rfl
  cellsByte := by kernel_rfl
  sizeByte := by kernel_rfl
  neB5 := by decide
theorem lays240 : Lays.n240 Tryd.prog Tryd.lays156_ren := { Tryd.lays156 with }
theorem itoa_small (i : Nat) (hi : i < 100) (w : World) : Calls Tryd.prog 62 #[.int .i64 i] w fun e w' => e = .returned (.string ⟨(Lib.decDigits i).toArray⟩) ∧ w' = w := Any.strconv_Itoa_small Tryd.lays171 i hi w
theorem join_run (bk o c : Nat) (xs : List ByteArray) (sep : ByteArray) (w : World) (hcells : ∀ (j : Nat) x, xs[j]? = some x → w.cell? ⟨bk, o + j, none⟩ = some (.string x)) (hbk : bk < w.heap.size) (hN : xs.length ≤ 140737488355328) (hcap : xs.length ≤ c)
    (hlen : (Lib.join (xs.map (·.data.toList)) sep.data.toList).length ≤ 140737488355328) :
    Calls Tryd.prog 78 #[.slice (some ⟨bk, o, none⟩) xs.length c, .string sep] w fun e w' => e = .returned (.string ⟨(Lib.join (xs.map (·.data.toList)) sep.data.toList).toArray⟩) ∧ Below w.heap.size w w' :=
  Any.strings_Join Tryd.lays156 bx156 bk o c xs sep w hcells hbk hN hcap hlen
theorem join_none (a : Option Addr) (c : Nat) (sep : ByteArray) (w : World) : Calls Tryd.prog 78 #[.slice a 0 c, .string sep] w fun e w' => e = .returned (.string ⟨#[]⟩) ∧ w' = w :=
  Any.strings_Join_none Tryd.lays156 bx156 a c sep w
theorem cc_used (b : Nat) (w : World) (h0 : w.cell? ⟨b, 0, none⟩ = some (.pointer (some ⟨b, 0, none⟩))) : Calls Tryd.prog 109 #[.pointer (some ⟨b, 0, none⟩)] w fun e w' => e = .returned (.tuple #[]) ∧ w' = w :=
  Any.Builder_copyCheck_used lays240 bx156.toX72 b w h0
section
variable {P : Program} {ρ : Ren}
set_option maxHeartbeats 1000000 in
set_option maxRecDepth 100000 in
theorem cc_fresh_at (L : Lays.n240 P ρ) (X : Builder.X72 P ρ) (T : TypeId) (b : Nat) (w : World) (h0 : w.cell? ⟨b, 0, none⟩ = some (.pointer none)) (hsh : w.shape? b = some (T, 2)) (hfz : w.frozen? ⟨b, 0, none⟩ = false)
    (hlies : liesAt P P.depth T (2 / P.cellsOf T) 0 (ρ.t 72) 1 = true) :
    Calls P (ρ.f 240) #[.pointer (some ⟨b, 0, none⟩)] w fun e w' => e = .returned (.tuple #[]) ∧ w' = w.setCell ⟨b, 0, none⟩ (.pointer (some ⟨b, 0, none⟩)) := by
  obtain ⟨j, hj, hjs⟩ := Option.map_eq_some_iff.1 X.sizeBuilder
  have mixed := L.mixed
  have t72 := L.t72; have a72 := L.a72; have z72 := L.z72; have v72 := L.v72; have u72 := run_underlying L.t72
  have t70 := L.t70; have a70 := L.a70; have z70 := L.z70; have v70 := L.v70; have u70 := run_underlying L.t70
  have t9 := L.t9; have a9 := L.a9; have z9 := L.z9; have v9 := L.v9; have u9 := run_underlying L.t9
  have t4 := L.t4; have a4 := L.a4; have z4 := L.z4; have v4 := L.v4; have u4 := run_underlying L.t4
  have t164 := L.t164; have a164 := L.a164; have z164 := L.z164; have v164 := L.v164; have u164 := run_underlying L.t164
  go_enter L.f240, Body.n240_ntmps ρ
  go_wp2
  rw [Lib.run_to_unsafe w ⟨b, 0, none⟩ L.t70 L.t164 hj (by rw [hjs]; decide) hsh (Nat.zero_lt_succ 1)]
  simp only [Result.andThen]
  rw [Oper.upon_value]
  go_wp2
  rw [run_callFunc_extern L.f276 (by kernel_rfl) (by kernel_rfl) (by kernel_rfl) (e := Extern.AbiNoEscape.same) (by kernel_rfl)]
  rw [Lib.run_noEscape]
  simp only [Result.andThen]
  rw [Oper.upon_value]
  go_wp2
  rw [Lib.run_from_unsafe w ⟨b, 0, none⟩ L.t164 L.t70 hj hsh hlies]
  simp only [Result.andThen]
  rw [Oper.upon_value]
  go_wp2
  go_end0
  exact ⟨rfl, rfl⟩
end
theorem cc_fresh (b : Nat) (w : World) (h0 : w.cell? ⟨b, 0, none⟩ = some (.pointer none)) (hsh : w.shape? b = some (103, 2)) (hfz : w.frozen? ⟨b, 0, none⟩ = false) :
    Calls Tryd.prog 109 #[.pointer (some ⟨b, 0, none⟩)] w fun e w' => e = .returned (.tuple #[]) ∧ w' = w.setCell ⟨b, 0, none⟩ (.pointer (some ⟨b, 0, none⟩)) :=
  cc_fresh_at lays240 bx156.toX72 103 b w h0 hsh hfz (by kernel_rfl)
end Go.Proofs.YtiejgieiokmmfaaDoor

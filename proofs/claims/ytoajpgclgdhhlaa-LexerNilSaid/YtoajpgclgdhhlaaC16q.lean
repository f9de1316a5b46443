/-
  The methods of a nil reader: the contract of LexerNil.
-/
import Derived.Test.YtoajpgclgdhhlaaK16
import Derived.Test.YtoajpgclgdhhlaaW16n
namespace Go.Proofs.Ytoajpgclgdhhlaa.W
set_option linter.unusedVariables false
set_option linter.unusedSimpArgs false
set_option linter.unnecessarySimpa false
set_option linter.unusedSectionVars false
open Go.RowKit
set_option maxRecDepth 1000000
theorem clH_one {C : Cal} {g : FuncId} {args : List PV} {h : Objs} {K : PV → Objs → R} {r : PV} {h' : Objs} (e : C g args h = some (r, h')) : clH C g args h K = K r h' := by unfold clH; rw [e]
theorem bsel_both {b : Bool} {x y r : R} (h1 : x = r) (h2 : y = r) : bsel b x y = r := by cases b <;> assumption
def zTok : PV := .agg [.int .i64 0, .str ⟨#[]⟩, .int .i64 0, .int .i64 0, .int .i64 0]
def zOut : PV := .agg [.int .i64 0, .str ⟨#[]⟩, .int .i64 0, .int .i64 0, .int .i64 0, .bool false, .str ⟨#[]⟩, .int .i64 0]
theorem n29 : SS.CC 29 [.nilp] [] = Ret zTok := g29_eq
theorem n44 : SS.CC 44 [.nilp] [] = Ret zTok := by rw [g44_eq, clX_of n29, zTok, v29_mk]
theorem n45 (s : ByteArray) : SS.CC 45 [.nilp, .str s] [] = Ret (.bool false) := by rw [g45_eq, clX_of n29, zTok, v29_mk]; rfl
theorem n43 (s : ByteArray) : SS.CC 43 [.nilp, .str s] [] = Ret (.bool false) := by rw [g43_eq, clX_of (n45 s), vB_mk]; rfl
theorem n50 (a : Int) : SS.CC 50 [.nilp, .int .i64 a] [] = Ret (.tuple []) := g50_eq a
theorem n46 (s : ByteArray) : SS.CC 46 [.nilp, .str s] [] = Ret (.tuple []) := by rw [g46_eq, clX_of (n43 s), vB_mk, Bool.not_false, bsel_true, clX_of (n50 14), w0_mk]
theorem n47 : SS.CC 47 [.nilp] [] = Ret (.str ⟨#[]⟩) := by
  rw [g47_eq, clX_of n29, zTok, v29_mk, show ((0 : Int) != 1) = true from rfl, bsel_true, clX_of (n50 14), w0_mk]
theorem n48 (a b : Int) : SS.CC 48 [.nilp, .int .i64 a, .int .i64 b] [] = Ret (.int .i64 0) := by
  rw [g48_eq, clX_of n29, zTok, v29_mk, show ((0 : Int) == 3) = false from rfl, bsel_false, g48_J7_eq, clX_of n29, zTok, v29_mk, show ((0 : Int) != 2) = true from rfl, bsel_true, clX_of (n50 14), w0_mk]
theorem n49 : SS.CC 49 [.nilp] [] = Ret (.tuple []) := by
  rw [g49_eq, clX_of n29, zTok, v29_mk, show ((0 : Int) != 4) = true from rfl, bsel_true, clX_of (n50 14), w0_mk]
theorem n25 (k lo hi : Int) (s : ByteArray) : SS.CC 25 [.nilp, .agg [.int .u8 k, .str s, .int .i8 lo, .int .i8 hi]] [] = Ret zOut := by
  rw [g25_eq]
  refine bsel_both ?_ (bsel_both ?_ (bsel_both ?_ (bsel_both ?_ (bsel_both ?_ (bsel_both ?_ (bsel_both ?_ (bsel_both ?_ (bsel_both ?_ ?_))))))))
  · rw [clX_of n29, zTok, v29_mk]; rfl
  · rw [clX_of n44, zTok, v29_mk]; rfl
  · rw [clX_of (n45 s), vB_mk]; rfl
  · rw [clX_of (n43 s), vB_mk]; rfl
  · rw [clX_of (n46 s), w0_mk]; rfl
  · rw [clX_of n47, vS_mk]; rfl
  · rw [clX_of (n48 _ _), vI_mk]; rfl
  · rw [clX_of n49, w0_mk]; rfl
  · rw [clX_of (n50 _), w0_mk]; rfl
  · rw [clH_one (g22_1i_eq _ _), h22_1_mk]; rfl
/-- LexerNil says true. -/
theorem c9 (k lo hi : Int) (s : ByteArray) : SS.CC 9 [.agg [.int .u8 k, .str s, .int .i8 lo, .int .i8 hi]] [] = Ret (.bool true) := by
  have hk : ∀ {K : PV → R}, clX SS.CC 11 [] K = K (.bool true) := fun {K} => clX_of c11
  rw [g9_eq, hk, vB_mk, Bool.not_true, bsel_false]
  refine bsel_both ?_ (bsel_both ?_ ?_)
  · rw [hk, vB_mk]
  · rw [hk, vB_mk]
  · rw [clH_one (g22_eq 0), h22_0_mk, clX_of g24_eq, w_3_3_3_mk, clX_of (n25 k lo hi s), zOut, v46_mk]
    kernel_rfl
end Go.Proofs.Ytoajpgclgdhhlaa.W

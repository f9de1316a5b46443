/-
  DERIVED. GIVEN WITH THE SEED: THE CARDS: each row of YtkkgfoknknehfaaDoorRows.lean that lists a variable, with what it lists TIED to the program's text (the seventh form; the later family's looks); each row that meets fmt, with fmt's text TOLD by the authors' own Lean function (tested against real Go, not proved from fmt's source: count such statements apart). THE CARD IS WHAT COUNTS. Prove the row's statement (the work); the ties are given (YtkkgfoknknehfaaDoorTie.lean); close each card by the builder's one call (the guide's Derived/Test/ToyasCard.lean, 'card_holds'). Laid BY PROGRAM, IN A SANDBOX (cutbox-door.mjs). By AI agents, Wed Nov 11 2026. No macro, syntax, notation, axiom, sorry.
-/
import Derived.Test.YtkkgfoknknehfaaDoorRows
import GoSem.ClaimSeven
namespace Go.Proofs.YtkkgfoknknehfaaDoor
namespace Rows

/-- THE TIED CARD OF 'overseertop.TopSemiflowsAreInvariant'. -/
def topSemiflowsAreInvariantCard : Claim7 := { stood := { row := topSemiflowsAreInvariantRow, standIns := [], harness := (true, "96c45523b40af79e556d5dea5d351b67f14e91be34feee38fa6eea2cfd69b8de"), looks := false }, kinds := [], alts := [], laidByText := true, laidKinds := [.data, .data, .data], laidTests := true, laidLooks := .later }
def TopSemiflowsAreInvariantCardSaid : Prop := Claim7.holds Tryd.pinned (.plain (OpenSpec.ofChange topSemiflowsAreInvariantSpec)) topSemiflowsAreInvariantCard

/-- THE SECOND FORM's CARD OF 'overseertop.TopSemiflowsAreInvariant'. -/
def topSemiflowsAreInvariantUptoCard : Claim7 := { stood := { row := topSemiflowsAreInvariantUptoRow, standIns := [], harness := (true, "96c45523b40af79e556d5dea5d351b67f14e91be34feee38fa6eea2cfd69b8de"), looks := false }, kinds := [], alts := [], laidByText := true, laidKinds := [.data, .data, .data], laidTests := true, laidLooks := .later }
def TopSemiflowsAreInvariantUptoCardSaid : Prop := Claim7.holds Tryd.pinned (.plain (OpenSpec.upto topSemiflowsAreInvariantSpec)) topSemiflowsAreInvariantUptoCard
end Rows
end Go.Proofs.YtkkgfoknknehfaaDoor

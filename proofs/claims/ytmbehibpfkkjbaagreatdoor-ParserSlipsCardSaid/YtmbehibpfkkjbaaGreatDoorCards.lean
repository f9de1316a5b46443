/-
  DERIVED. GIVEN WITH THE SEED: THE CARDS: each row of YtmbehibpfkkjbaaGreatDoorRows.lean that lists a variable, with what it lists TIED to the program's text (the seventh form; the later family's looks); each row that meets fmt, with fmt's text TOLD by the authors' own Lean function (tested against real Go, not proved from fmt's source: count such statements apart). THE CARD IS WHAT COUNTS. Prove the row's statement (the work); the ties are given (YtmbehibpfkkjbaaGreatDoorTie.lean); close each card by the builder's one call (the guide's Derived/Test/ToyasCard.lean, 'card_holds'). Laid BY PROGRAM, IN A SANDBOX (cutbox-door.mjs). By AI agents, Wed Nov 11 2026. No macro, syntax, notation, axiom, sorry.
-/
import Derived.Test.YtmbehibpfkkjbaaGreatDoorRows
import GoSem.ClaimSeven
namespace Go.Proofs.YtmbehibpfkkjbaaGreatDoor
namespace Rows

/-- THE TIED CARD OF 'overseerlaw17.ParserSlips'. -/
def parserSlipsCard : Claim7 := { stood := { row := parserSlipsRow, standIns := [], harness := (true, "b192b5c1a7f5a35724bcfaa1a2a5c95f49a406f83563838c579fa5303a4067c3"), looks := false }, kinds := [], alts := [], laidByText := true, laidKinds := [.data, .data, .data], laidTests := true, laidLooks := .later }
def ParserSlipsCardSaid : Prop := Claim7.holds Tryz.pinned (.plain (OpenSpec.ofChange parserSlipsSpec)) parserSlipsCard

/-- THE SECOND FORM's CARD OF 'overseerlaw17.ParserSlips'. -/
def parserSlipsUptoCard : Claim7 := { stood := { row := parserSlipsUptoRow, standIns := [], harness := (true, "b192b5c1a7f5a35724bcfaa1a2a5c95f49a406f83563838c579fa5303a4067c3"), looks := false }, kinds := [], alts := [], laidByText := true, laidKinds := [.data, .data, .data], laidTests := true, laidLooks := .later }
def ParserSlipsUptoCardSaid : Prop := Claim7.holds Tryz.pinned (.plain (OpenSpec.upto parserSlipsSpec)) parserSlipsUptoCard
end Rows
end Go.Proofs.YtmbehibpfkkjbaaGreatDoor

/-
  DERIVED. GIVEN WITH THE SEED: THE CARDS: each row of YtagkcbgkhgccmaaGreatDoorRows.lean that lists a variable, with what it lists TIED to the program's text (the seventh form; the later family's looks); each row that meets fmt, with fmt's text TOLD by the authors' own Lean function (tested against real Go, not proved from fmt's source: count such statements apart). THE CARD IS WHAT COUNTS. Prove the row's statement (the work); the ties are given (YtagkcbgkhgccmaaGreatDoorTie.lean); close each card by the builder's one call (the guide's Derived/Test/ToyasCard.lean, 'card_holds'). Laid BY PROGRAM, IN A SANDBOX (cutbox-door.mjs). By AI agents, Wed Nov 11 2026. No macro, syntax, notation, axiom, sorry.
-/
import Derived.Test.YtagkcbgkhgccmaaGreatDoorRows
import GoSem.ClaimSeven
namespace Go.Proofs.YtagkcbgkhgccmaaGreatDoor
namespace Rows

/-- THE TIED CARD OF 'overseerlaw17.ParserParses'. -/
def parserParsesCard : Claim7 := { stood := { row := parserParsesRow, standIns := [], harness := (true, "06f98d9b6e3b6939dcfcd244282ecd7d7ebe908702c197a14f0e8a8ddf329973"), looks := false }, kinds := [], alts := [], laidByText := true, laidKinds := [.data, .data, .data], laidTests := true, laidLooks := .later }
def ParserParsesCardSaid : Prop := Claim7.holds Tryz.pinned (.plain (OpenSpec.ofChange parserParsesSpec)) parserParsesCard

/-- THE SECOND FORM's CARD OF 'overseerlaw17.ParserParses'. -/
def parserParsesUptoCard : Claim7 := { stood := { row := parserParsesUptoRow, standIns := [], harness := (true, "06f98d9b6e3b6939dcfcd244282ecd7d7ebe908702c197a14f0e8a8ddf329973"), looks := false }, kinds := [], alts := [], laidByText := true, laidKinds := [.data, .data, .data], laidTests := true, laidLooks := .later }
def ParserParsesUptoCardSaid : Prop := Claim7.holds Tryz.pinned (.plain (OpenSpec.upto parserParsesSpec)) parserParsesUptoCard
end Rows
end Go.Proofs.YtagkcbgkhgccmaaGreatDoor

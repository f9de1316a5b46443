/-
  DERIVED. GIVEN WITH THE SEED: THE CARDS: each row of YtilpiopkekkbiaaGreatDoorRows.lean that lists a variable, with what it lists TIED to the program's text (the seventh form; the later family's looks); each row that meets fmt, with fmt's text TOLD by the authors' own Lean function (tested against real Go, not proved from fmt's source: count such statements apart). THE CARD IS WHAT COUNTS. Prove the row's statement (the work); the ties are given (YtilpiopkekkbiaaGreatDoorTie.lean); close each card by the builder's one call (the guide's Derived/Test/ToyasCard.lean, 'card_holds'). Laid BY PROGRAM, IN A SANDBOX (cutbox-door.mjs). By AI agents, Wed Nov 11 2026. No macro, syntax, notation, axiom, sorry.
-/
import Derived.Test.YtilpiopkekkbiaaGreatDoorRows
import GoSem.ClaimSeven
namespace Go.Proofs.YtilpiopkekkbiaaGreatDoor
namespace Rows

/-- THE TIED CARD OF 'overseerlaw17.ParserParses'. -/
def parserParsesCard : Claim7 := { stood := { row := parserParsesRow, standIns := [], harness := (true, "5f345b1a4840b59ebbdeaff709b1365330a6772039856a3f6f50247cdce28765"), looks := false }, kinds := [], alts := [], laidByText := true, laidKinds := [.data, .data, .data], laidTests := true, laidLooks := .later }
def ParserParsesCardSaid : Prop := Claim7.holds Tryz.pinned (.plain (OpenSpec.ofChange parserParsesSpec)) parserParsesCard

/-- THE TIED CARD OF 'overseerlaw17.ParserSlips'. -/
def parserSlipsCard : Claim7 := { stood := { row := parserSlipsRow, standIns := [], harness := (true, "5f345b1a4840b59ebbdeaff709b1365330a6772039856a3f6f50247cdce28765"), looks := false }, kinds := [], alts := [], laidByText := true, laidKinds := [.data, .data, .data], laidTests := true, laidLooks := .later }
def ParserSlipsCardSaid : Prop := Claim7.holds Tryz.pinned (.plain (OpenSpec.ofChange parserSlipsSpec)) parserSlipsCard

/-- THE TIED CARD OF 'overseerlaw17.ParserPrints'. -/
def parserPrintsCard : Claim7 := { stood := { row := parserPrintsRow, standIns := [], harness := (true, "5f345b1a4840b59ebbdeaff709b1365330a6772039856a3f6f50247cdce28765"), looks := false }, kinds := [], alts := [], laidByText := true, laidKinds := [.data, .data, .data], laidTests := true, laidLooks := .later }
def ParserPrintsCardSaid : Prop := Claim7.holds Tryz.pinned (.plain (OpenSpec.ofChange parserPrintsSpec)) parserPrintsCard

/-- THE SECOND FORM's CARD OF 'overseerlaw17.ParserParses'. -/
def parserParsesUptoCard : Claim7 := { stood := { row := parserParsesUptoRow, standIns := [], harness := (true, "5f345b1a4840b59ebbdeaff709b1365330a6772039856a3f6f50247cdce28765"), looks := false }, kinds := [], alts := [], laidByText := true, laidKinds := [.data, .data, .data], laidTests := true, laidLooks := .later }
def ParserParsesUptoCardSaid : Prop := Claim7.holds Tryz.pinned (.plain (OpenSpec.upto parserParsesSpec)) parserParsesUptoCard

/-- THE SECOND FORM's CARD OF 'overseerlaw17.ParserSlips'. -/
def parserSlipsUptoCard : Claim7 := { stood := { row := parserSlipsUptoRow, standIns := [], harness := (true, "5f345b1a4840b59ebbdeaff709b1365330a6772039856a3f6f50247cdce28765"), looks := false }, kinds := [], alts := [], laidByText := true, laidKinds := [.data, .data, .data], laidTests := true, laidLooks := .later }
def ParserSlipsUptoCardSaid : Prop := Claim7.holds Tryz.pinned (.plain (OpenSpec.upto parserSlipsSpec)) parserSlipsUptoCard

/-- THE SECOND FORM's CARD OF 'overseerlaw17.ParserPrints'. -/
def parserPrintsUptoCard : Claim7 := { stood := { row := parserPrintsUptoRow, standIns := [], harness := (true, "5f345b1a4840b59ebbdeaff709b1365330a6772039856a3f6f50247cdce28765"), looks := false }, kinds := [], alts := [], laidByText := true, laidKinds := [.data, .data, .data], laidTests := true, laidLooks := .later }
def ParserPrintsUptoCardSaid : Prop := Claim7.holds Tryz.pinned (.plain (OpenSpec.upto parserPrintsSpec)) parserPrintsUptoCard
end Rows
end Go.Proofs.YtilpiopkekkbiaaGreatDoor

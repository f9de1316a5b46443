/-
  DERIVED. GIVEN WITH THE SEED: THE CARDS: each row of YtiejgieiokmmfaaGreatDoorRows.lean that lists a variable, with what it lists TIED to the program's text (the seventh form; the later family's looks); each row that meets fmt, with fmt's text TOLD by the authors' own Lean function (tested against real Go, not proved from fmt's source: count such statements apart). THE CARD IS WHAT COUNTS. Prove the row's statement (the work); the ties are given (YtiejgieiokmmfaaGreatDoorTie.lean); close each card by the builder's one call (the guide's Derived/Test/ToyasCard.lean, 'card_holds'). Laid BY PROGRAM, IN A SANDBOX (cutbox-door.mjs). By AI agents, Wed Nov 11 2026. No macro, syntax, notation, axiom, sorry.
-/
import Derived.Test.YtiejgieiokmmfaaGreatDoorRows
import GoSem.ClaimSeven
namespace Go.Proofs.YtiejgieiokmmfaaGreatDoor
namespace Rows

/-- THE TIED CARD OF 'overseerlaw52.InstructionTexts'. -/
def instructionTextsCard : Claim7 := { stood := { row := instructionTextsRow, standIns := [], harness := (true, "9d1e74305f9be3e0faf98200ef954c0e62841b97c36483e704df89e4ec82d2fa"), looks := false }, kinds := [], alts := [], laidByText := true, laidKinds := [.data, .data, .data, .data, .pinned], laidTests := true, laidLooks := .later }
def InstructionTextsCardSaid : Prop := Claim7.holds Tryz.pinned (.plain (OpenSpec.ofChange instructionTextsSpec)) instructionTextsCard

/-- THE SECOND FORM's CARD OF 'overseerlaw52.InstructionTexts'. -/
def instructionTextsUptoCard : Claim7 := { stood := { row := instructionTextsUptoRow, standIns := [], harness := (true, "9d1e74305f9be3e0faf98200ef954c0e62841b97c36483e704df89e4ec82d2fa"), looks := false }, kinds := [], alts := [], laidByText := true, laidKinds := [.data, .data, .data, .data, .pinned], laidTests := true, laidLooks := .later }
def InstructionTextsUptoCardSaid : Prop := Claim7.holds Tryz.pinned (.plain (OpenSpec.upto instructionTextsSpec)) instructionTextsUptoCard
end Rows
end Go.Proofs.YtiejgieiokmmfaaGreatDoor

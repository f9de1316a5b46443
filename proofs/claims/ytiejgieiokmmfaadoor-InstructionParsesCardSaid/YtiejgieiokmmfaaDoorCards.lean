/-
  DERIVED. GIVEN WITH THE SEED: THE CARDS: each row of YtiejgieiokmmfaaDoorRows.lean that lists a variable, with what it lists TIED to the program's text (the seventh form; the later family's looks); each row that meets fmt, with fmt's text TOLD by the authors' own Lean function (tested against real Go, not proved from fmt's source: count such statements apart). THE CARD IS WHAT COUNTS. Prove the row's statement (the work); the ties are given (YtiejgieiokmmfaaDoorTie.lean); close each card by the builder's one call (the guide's Derived/Test/ToyasCard.lean, 'card_holds'). Laid BY PROGRAM, IN A SANDBOX (cutbox-door.mjs). By AI agents, Wed Nov 11 2026. No macro, syntax, notation, axiom, sorry.
-/
import Derived.Test.YtiejgieiokmmfaaDoorRows
import GoSem.ClaimSeven
namespace Go.Proofs.YtiejgieiokmmfaaDoor
namespace Rows

/-- THE TIED CARD OF 'overseerlaw52.InstructionRuns'. -/
def instructionRunsCard : Claim7 := { stood := { row := instructionRunsRow, standIns := [], harness := (true, "f7922f431faf2ec6f19b83fe1828dc59d88180257b8a148358d69079e97c4249"), looks := false }, kinds := [], alts := [], laidByText := true, laidKinds := [.data, .data, .data], laidTests := true, laidLooks := .later }
def InstructionRunsCardSaid : Prop := Claim7.holds Tryd.pinned (.plain (OpenSpec.ofChange instructionRunsSpec)) instructionRunsCard

/-- THE TIED CARD OF 'overseerlaw52.InstructionScans'. -/
def instructionScansCard : Claim7 := { stood := { row := instructionScansRow, standIns := [], harness := (true, "f7922f431faf2ec6f19b83fe1828dc59d88180257b8a148358d69079e97c4249"), looks := false }, kinds := [], alts := [], laidByText := true, laidKinds := [.data, .data, .data], laidTests := true, laidLooks := .later }
def InstructionScansCardSaid : Prop := Claim7.holds Tryd.pinned (.plain (OpenSpec.ofChange instructionScansSpec)) instructionScansCard

/-- THE TIED CARD OF 'overseerlaw52.InstructionCompacts'. -/
def instructionCompactsCard : Claim7 := { stood := { row := instructionCompactsRow, standIns := [], harness := (true, "f7922f431faf2ec6f19b83fe1828dc59d88180257b8a148358d69079e97c4249"), looks := false }, kinds := [], alts := [], laidByText := true, laidKinds := [.data, .data, .data], laidTests := true, laidLooks := .later }
def InstructionCompactsCardSaid : Prop := Claim7.holds Tryd.pinned (.plain (OpenSpec.ofChange instructionCompactsSpec)) instructionCompactsCard

/-- THE TIED CARD OF 'overseerlaw52.InstructionParses'. -/
def instructionParsesCard : Claim7 := { stood := { row := instructionParsesRow, standIns := [], harness := (true, "f7922f431faf2ec6f19b83fe1828dc59d88180257b8a148358d69079e97c4249"), looks := false }, kinds := [], alts := [], laidByText := true, laidKinds := [.data, .data, .data, .data, .pinned], laidTests := true, laidLooks := .later }
def InstructionParsesCardSaid : Prop := Claim7.holds Tryd.pinned (.plain (OpenSpec.ofChange instructionParsesSpec)) instructionParsesCard

/-- THE TIED CARD OF 'overseerlaw52.InstructionReaches'. -/
def instructionReachesCard : Claim7 := { stood := { row := instructionReachesRow, standIns := [], harness := (true, "f7922f431faf2ec6f19b83fe1828dc59d88180257b8a148358d69079e97c4249"), looks := false }, kinds := [], alts := [], laidByText := true, laidKinds := [.data, .data, .data], laidTests := true, laidLooks := .later }
def InstructionReachesCardSaid : Prop := Claim7.holds Tryd.pinned (.plain (OpenSpec.ofChange instructionReachesSpec)) instructionReachesCard

/-- THE TIED CARD OF 'overseerlaw52.InstructionKeeps'. -/
def instructionKeepsCard : Claim7 := { stood := { row := instructionKeepsRow, standIns := [], harness := (true, "f7922f431faf2ec6f19b83fe1828dc59d88180257b8a148358d69079e97c4249"), looks := false }, kinds := [], alts := [], laidByText := true, laidKinds := [.data, .data, .data], laidTests := true, laidLooks := .later }
def InstructionKeepsCardSaid : Prop := Claim7.holds Tryd.pinned (.plain (OpenSpec.ofChange instructionKeepsSpec)) instructionKeepsCard

/-- THE TIED CARD OF 'overseerlaw52.InstructionChecks'. -/
def instructionChecksCard : Claim7 := { stood := { row := instructionChecksRow, standIns := [], harness := (true, "f7922f431faf2ec6f19b83fe1828dc59d88180257b8a148358d69079e97c4249"), looks := false }, kinds := [], alts := [], laidByText := true, laidKinds := [.data, .data, .data], laidTests := true, laidLooks := .later }
def InstructionChecksCardSaid : Prop := Claim7.holds Tryd.pinned (.plain (OpenSpec.ofChange instructionChecksSpec)) instructionChecksCard

/-- THE SECOND FORM's CARD OF 'overseerlaw52.InstructionRuns'. -/
def instructionRunsUptoCard : Claim7 := { stood := { row := instructionRunsUptoRow, standIns := [], harness := (true, "f7922f431faf2ec6f19b83fe1828dc59d88180257b8a148358d69079e97c4249"), looks := false }, kinds := [], alts := [], laidByText := true, laidKinds := [.data, .data, .data], laidTests := true, laidLooks := .later }
def InstructionRunsUptoCardSaid : Prop := Claim7.holds Tryd.pinned (.plain (OpenSpec.upto instructionRunsSpec)) instructionRunsUptoCard

/-- THE SECOND FORM's CARD OF 'overseerlaw52.InstructionScans'. -/
def instructionScansUptoCard : Claim7 := { stood := { row := instructionScansUptoRow, standIns := [], harness := (true, "f7922f431faf2ec6f19b83fe1828dc59d88180257b8a148358d69079e97c4249"), looks := false }, kinds := [], alts := [], laidByText := true, laidKinds := [.data, .data, .data], laidTests := true, laidLooks := .later }
def InstructionScansUptoCardSaid : Prop := Claim7.holds Tryd.pinned (.plain (OpenSpec.upto instructionScansSpec)) instructionScansUptoCard

/-- THE SECOND FORM's CARD OF 'overseerlaw52.InstructionCompacts'. -/
def instructionCompactsUptoCard : Claim7 := { stood := { row := instructionCompactsUptoRow, standIns := [], harness := (true, "f7922f431faf2ec6f19b83fe1828dc59d88180257b8a148358d69079e97c4249"), looks := false }, kinds := [], alts := [], laidByText := true, laidKinds := [.data, .data, .data], laidTests := true, laidLooks := .later }
def InstructionCompactsUptoCardSaid : Prop := Claim7.holds Tryd.pinned (.plain (OpenSpec.upto instructionCompactsSpec)) instructionCompactsUptoCard

/-- THE SECOND FORM's CARD OF 'overseerlaw52.InstructionParses'. -/
def instructionParsesUptoCard : Claim7 := { stood := { row := instructionParsesUptoRow, standIns := [], harness := (true, "f7922f431faf2ec6f19b83fe1828dc59d88180257b8a148358d69079e97c4249"), looks := false }, kinds := [], alts := [], laidByText := true, laidKinds := [.data, .data, .data, .data, .pinned], laidTests := true, laidLooks := .later }
def InstructionParsesUptoCardSaid : Prop := Claim7.holds Tryd.pinned (.plain (OpenSpec.upto instructionParsesSpec)) instructionParsesUptoCard

/-- THE SECOND FORM's CARD OF 'overseerlaw52.InstructionReaches'. -/
def instructionReachesUptoCard : Claim7 := { stood := { row := instructionReachesUptoRow, standIns := [], harness := (true, "f7922f431faf2ec6f19b83fe1828dc59d88180257b8a148358d69079e97c4249"), looks := false }, kinds := [], alts := [], laidByText := true, laidKinds := [.data, .data, .data], laidTests := true, laidLooks := .later }
def InstructionReachesUptoCardSaid : Prop := Claim7.holds Tryd.pinned (.plain (OpenSpec.upto instructionReachesSpec)) instructionReachesUptoCard

/-- THE SECOND FORM's CARD OF 'overseerlaw52.InstructionKeeps'. -/
def instructionKeepsUptoCard : Claim7 := { stood := { row := instructionKeepsUptoRow, standIns := [], harness := (true, "f7922f431faf2ec6f19b83fe1828dc59d88180257b8a148358d69079e97c4249"), looks := false }, kinds := [], alts := [], laidByText := true, laidKinds := [.data, .data, .data], laidTests := true, laidLooks := .later }
def InstructionKeepsUptoCardSaid : Prop := Claim7.holds Tryd.pinned (.plain (OpenSpec.upto instructionKeepsSpec)) instructionKeepsUptoCard

/-- THE SECOND FORM's CARD OF 'overseerlaw52.InstructionChecks'. -/
def instructionChecksUptoCard : Claim7 := { stood := { row := instructionChecksUptoRow, standIns := [], harness := (true, "f7922f431faf2ec6f19b83fe1828dc59d88180257b8a148358d69079e97c4249"), looks := false }, kinds := [], alts := [], laidByText := true, laidKinds := [.data, .data, .data], laidTests := true, laidLooks := .later }
def InstructionChecksUptoCardSaid : Prop := Claim7.holds Tryd.pinned (.plain (OpenSpec.upto instructionChecksSpec)) instructionChecksUptoCard
end Rows
end Go.Proofs.YtiejgieiokmmfaaDoor

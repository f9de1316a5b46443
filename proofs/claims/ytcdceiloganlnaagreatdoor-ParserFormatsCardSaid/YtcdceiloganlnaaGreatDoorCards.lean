/-
  DERIVED. GIVEN WITH THE SEED: THE CARDS: each row of YtcdceiloganlnaaGreatDoorRows.lean that lists a variable, with what it lists TIED to the program's text (the seventh form; the later family's looks); each row that meets fmt, with fmt's text TOLD by the authors' own Lean function (tested against real Go, not proved from fmt's source: count such statements apart). THE CARD IS WHAT COUNTS. Prove the row's statement (the work); the ties are given (YtcdceiloganlnaaGreatDoorTie.lean); close each card by the builder's one call (the guide's Derived/Test/ToyasCard.lean, 'card_holds'). Laid BY PROGRAM, IN A SANDBOX (cutbox-door.mjs). By AI agents, Wed Nov 11 2026. No macro, syntax, notation, axiom, sorry.
-/
import Derived.Test.YtcdceiloganlnaaGreatDoorRows
import GoSem.ClaimSeven
namespace Go.Proofs.YtcdceiloganlnaaGreatDoor
namespace Rows

/-- THE TIED CARD OF 'overseerlaw17.ParserChecks'. -/
def parserChecksCard : Claim7 := { stood := { row := parserChecksRow, standIns := [], harness := (true, "e9794969e82645bc54efea9a5f5529a7cc40bdb1af4f159c5a8128c0731d3614"), looks := false }, kinds := [], alts := [], laidByText := true, laidKinds := [.data, .data, .data], laidTests := true, laidLooks := .later }
def ParserChecksCardSaid : Prop := Claim7.holds Tryz.pinned (.plain (OpenSpec.ofChange parserChecksSpec)) parserChecksCard

/-- THE TIED CARD OF 'overseerlaw17.ParserExprs'. -/
def parserExprsCard : Claim7 := { stood := { row := parserExprsRow, standIns := [], harness := (true, "e9794969e82645bc54efea9a5f5529a7cc40bdb1af4f159c5a8128c0731d3614"), looks := false }, kinds := [], alts := [], laidByText := true, laidKinds := [.data, .data, .data], laidTests := true, laidLooks := .later }
def ParserExprsCardSaid : Prop := Claim7.holds Tryz.pinned (.plain (OpenSpec.ofChange parserExprsSpec)) parserExprsCard

/-- THE TIED CARD OF 'overseerlaw17.ParserWrites'. -/
def parserWritesCard : Claim7 := { stood := { row := parserWritesRow, standIns := [], harness := (true, "e9794969e82645bc54efea9a5f5529a7cc40bdb1af4f159c5a8128c0731d3614"), looks := false }, kinds := [], alts := [], laidByText := true, laidKinds := [.data, .data, .data], laidTests := true, laidLooks := .later }
def ParserWritesCardSaid : Prop := Claim7.holds Tryz.pinned (.plain (OpenSpec.ofChange parserWritesSpec)) parserWritesCard

/-- THE TIED CARD OF 'overseerlaw17.ParserNests'. -/
def parserNestsCard : Claim7 := { stood := { row := parserNestsRow, standIns := [], harness := (true, "e9794969e82645bc54efea9a5f5529a7cc40bdb1af4f159c5a8128c0731d3614"), looks := false }, kinds := [], alts := [], laidByText := true, laidKinds := [.data, .data, .data], laidTests := true, laidLooks := .later }
def ParserNestsCardSaid : Prop := Claim7.holds Tryz.pinned (.plain (OpenSpec.ofChange parserNestsSpec)) parserNestsCard

/-- THE TIED CARD OF 'overseerlaw17.ParserParses'. -/
def parserParsesCard : Claim7 := { stood := { row := parserParsesRow, standIns := [], harness := (true, "e9794969e82645bc54efea9a5f5529a7cc40bdb1af4f159c5a8128c0731d3614"), looks := false }, kinds := [], alts := [], laidByText := true, laidKinds := [.data, .data, .data], laidTests := true, laidLooks := .later }
def ParserParsesCardSaid : Prop := Claim7.holds Tryz.pinned (.plain (OpenSpec.ofChange parserParsesSpec)) parserParsesCard

/-- THE TIED CARD OF 'overseerlaw17.ParserSlips'. -/
def parserSlipsCard : Claim7 := { stood := { row := parserSlipsRow, standIns := [], harness := (true, "e9794969e82645bc54efea9a5f5529a7cc40bdb1af4f159c5a8128c0731d3614"), looks := false }, kinds := [], alts := [], laidByText := true, laidKinds := [.data, .data, .data], laidTests := true, laidLooks := .later }
def ParserSlipsCardSaid : Prop := Claim7.holds Tryz.pinned (.plain (OpenSpec.ofChange parserSlipsSpec)) parserSlipsCard

/-- THE TIED CARD OF 'overseerlaw17.ParserLimits'. -/
def parserLimitsCard : Claim7 := { stood := { row := parserLimitsRow, standIns := [], harness := (true, "e9794969e82645bc54efea9a5f5529a7cc40bdb1af4f159c5a8128c0731d3614"), looks := false }, kinds := [], alts := [], laidByText := true, laidKinds := [.data, .data, .data], laidTests := true, laidLooks := .later }
def ParserLimitsCardSaid : Prop := Claim7.holds Tryz.pinned (.plain (OpenSpec.ofChange parserLimitsSpec)) parserLimitsCard

/-- THE TIED CARD OF 'overseerlaw17.ParserPrints'. -/
def parserPrintsCard : Claim7 := { stood := { row := parserPrintsRow, standIns := [], harness := (true, "e9794969e82645bc54efea9a5f5529a7cc40bdb1af4f159c5a8128c0731d3614"), looks := false }, kinds := [], alts := [], laidByText := true, laidKinds := [.data, .data, .data], laidTests := true, laidLooks := .later }
def ParserPrintsCardSaid : Prop := Claim7.holds Tryz.pinned (.plain (OpenSpec.ofChange parserPrintsSpec)) parserPrintsCard

/-- THE TIED CARD OF 'overseerlaw17.ParserFormats'. -/
def parserFormatsCard : Claim7 := { stood := { row := parserFormatsRow, standIns := [], harness := (true, "e9794969e82645bc54efea9a5f5529a7cc40bdb1af4f159c5a8128c0731d3614"), looks := false }, kinds := [], alts := [], laidByText := true, laidKinds := [.data, .data, .data, .data, .pinned], laidTests := true, laidLooks := .later }
def ParserFormatsCardSaid : Prop := Claim7.holds Tryz.pinned (.plain (OpenSpec.ofChange parserFormatsSpec)) parserFormatsCard

/-- THE SECOND FORM's CARD OF 'overseerlaw17.ParserChecks'. -/
def parserChecksUptoCard : Claim7 := { stood := { row := parserChecksUptoRow, standIns := [], harness := (true, "e9794969e82645bc54efea9a5f5529a7cc40bdb1af4f159c5a8128c0731d3614"), looks := false }, kinds := [], alts := [], laidByText := true, laidKinds := [.data, .data, .data], laidTests := true, laidLooks := .later }
def ParserChecksUptoCardSaid : Prop := Claim7.holds Tryz.pinned (.plain (OpenSpec.upto parserChecksSpec)) parserChecksUptoCard

/-- THE SECOND FORM's CARD OF 'overseerlaw17.ParserExprs'. -/
def parserExprsUptoCard : Claim7 := { stood := { row := parserExprsUptoRow, standIns := [], harness := (true, "e9794969e82645bc54efea9a5f5529a7cc40bdb1af4f159c5a8128c0731d3614"), looks := false }, kinds := [], alts := [], laidByText := true, laidKinds := [.data, .data, .data], laidTests := true, laidLooks := .later }
def ParserExprsUptoCardSaid : Prop := Claim7.holds Tryz.pinned (.plain (OpenSpec.upto parserExprsSpec)) parserExprsUptoCard

/-- THE SECOND FORM's CARD OF 'overseerlaw17.ParserWrites'. -/
def parserWritesUptoCard : Claim7 := { stood := { row := parserWritesUptoRow, standIns := [], harness := (true, "e9794969e82645bc54efea9a5f5529a7cc40bdb1af4f159c5a8128c0731d3614"), looks := false }, kinds := [], alts := [], laidByText := true, laidKinds := [.data, .data, .data], laidTests := true, laidLooks := .later }
def ParserWritesUptoCardSaid : Prop := Claim7.holds Tryz.pinned (.plain (OpenSpec.upto parserWritesSpec)) parserWritesUptoCard

/-- THE SECOND FORM's CARD OF 'overseerlaw17.ParserNests'. -/
def parserNestsUptoCard : Claim7 := { stood := { row := parserNestsUptoRow, standIns := [], harness := (true, "e9794969e82645bc54efea9a5f5529a7cc40bdb1af4f159c5a8128c0731d3614"), looks := false }, kinds := [], alts := [], laidByText := true, laidKinds := [.data, .data, .data], laidTests := true, laidLooks := .later }
def ParserNestsUptoCardSaid : Prop := Claim7.holds Tryz.pinned (.plain (OpenSpec.upto parserNestsSpec)) parserNestsUptoCard

/-- THE SECOND FORM's CARD OF 'overseerlaw17.ParserParses'. -/
def parserParsesUptoCard : Claim7 := { stood := { row := parserParsesUptoRow, standIns := [], harness := (true, "e9794969e82645bc54efea9a5f5529a7cc40bdb1af4f159c5a8128c0731d3614"), looks := false }, kinds := [], alts := [], laidByText := true, laidKinds := [.data, .data, .data], laidTests := true, laidLooks := .later }
def ParserParsesUptoCardSaid : Prop := Claim7.holds Tryz.pinned (.plain (OpenSpec.upto parserParsesSpec)) parserParsesUptoCard

/-- THE SECOND FORM's CARD OF 'overseerlaw17.ParserSlips'. -/
def parserSlipsUptoCard : Claim7 := { stood := { row := parserSlipsUptoRow, standIns := [], harness := (true, "e9794969e82645bc54efea9a5f5529a7cc40bdb1af4f159c5a8128c0731d3614"), looks := false }, kinds := [], alts := [], laidByText := true, laidKinds := [.data, .data, .data], laidTests := true, laidLooks := .later }
def ParserSlipsUptoCardSaid : Prop := Claim7.holds Tryz.pinned (.plain (OpenSpec.upto parserSlipsSpec)) parserSlipsUptoCard

/-- THE SECOND FORM's CARD OF 'overseerlaw17.ParserLimits'. -/
def parserLimitsUptoCard : Claim7 := { stood := { row := parserLimitsUptoRow, standIns := [], harness := (true, "e9794969e82645bc54efea9a5f5529a7cc40bdb1af4f159c5a8128c0731d3614"), looks := false }, kinds := [], alts := [], laidByText := true, laidKinds := [.data, .data, .data], laidTests := true, laidLooks := .later }
def ParserLimitsUptoCardSaid : Prop := Claim7.holds Tryz.pinned (.plain (OpenSpec.upto parserLimitsSpec)) parserLimitsUptoCard

/-- THE SECOND FORM's CARD OF 'overseerlaw17.ParserPrints'. -/
def parserPrintsUptoCard : Claim7 := { stood := { row := parserPrintsUptoRow, standIns := [], harness := (true, "e9794969e82645bc54efea9a5f5529a7cc40bdb1af4f159c5a8128c0731d3614"), looks := false }, kinds := [], alts := [], laidByText := true, laidKinds := [.data, .data, .data], laidTests := true, laidLooks := .later }
def ParserPrintsUptoCardSaid : Prop := Claim7.holds Tryz.pinned (.plain (OpenSpec.upto parserPrintsSpec)) parserPrintsUptoCard

/-- THE SECOND FORM's CARD OF 'overseerlaw17.ParserFormats'. -/
def parserFormatsUptoCard : Claim7 := { stood := { row := parserFormatsUptoRow, standIns := [], harness := (true, "e9794969e82645bc54efea9a5f5529a7cc40bdb1af4f159c5a8128c0731d3614"), looks := false }, kinds := [], alts := [], laidByText := true, laidKinds := [.data, .data, .data, .data, .pinned], laidTests := true, laidLooks := .later }
def ParserFormatsUptoCardSaid : Prop := Claim7.holds Tryz.pinned (.plain (OpenSpec.upto parserFormatsSpec)) parserFormatsUptoCard
end Rows
end Go.Proofs.YtcdceiloganlnaaGreatDoor

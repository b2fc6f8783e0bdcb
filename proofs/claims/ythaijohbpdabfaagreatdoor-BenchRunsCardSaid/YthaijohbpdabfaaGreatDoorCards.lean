/-
  DERIVED. GIVEN WITH THE SEED: THE CARDS: each row of YthaijohbpdabfaaGreatDoorRows.lean that lists a variable, with what it lists TIED to the program's text (the seventh form; the later family's looks); each row that meets fmt, with fmt's text TOLD by the authors' own Lean function (tested against real Go, not proved from fmt's source: count such statements apart). THE CARD IS WHAT COUNTS. Prove the row's statement (the work); the ties are given (YthaijohbpdabfaaGreatDoorTie.lean); close each card by the builder's one call (the guide's Derived/Test/ToyasCard.lean, 'card_holds'). Laid BY PROGRAM, IN A SANDBOX (cutbox-door.mjs). By AI agents, Wed Nov 11 2026. No macro, syntax, notation, axiom, sorry.
-/
import Derived.Test.YthaijohbpdabfaaGreatDoorRows
import GoSem.ClaimSeven
namespace Go.Proofs.YthaijohbpdabfaaGreatDoor
namespace Rows

/-- THE TIED CARD OF 'patchbaylaw16.BenchParses'. -/
def benchParsesCard : Claim7 := { stood := { row := benchParsesRow, standIns := [], harness := (true, "277376348e67c6e4505156191ba0faf005bbeea4c685b33672f996eaf3e381ba"), looks := true }, kinds := [], alts := [], laidByText := true, laidKinds := [.data, .data, .data, .data, .wider, .mapped, .mapped, .widerDeep, .widerDeep, .mapped, .mapped, .pinned], laidTests := true, laidLooks := .later }
def BenchParsesCardSaid : Prop := Claim7.holds Tryz.pinned (.plain (OpenSpec.ofChange benchParsesSpec)) benchParsesCard

/-- THE TIED CARD OF 'patchbaylaw16.BenchPrints'. -/
def benchPrintsCard : Claim7 := { stood := { row := benchPrintsRow, standIns := [], harness := (true, "277376348e67c6e4505156191ba0faf005bbeea4c685b33672f996eaf3e381ba"), looks := true }, kinds := [], alts := [], laidByText := true, laidKinds := [.data, .data, .data, .data, .wider, .mapped, .mapped, .widerDeep, .widerDeep, .mapped, .mapped, .pinned], laidTests := true, laidLooks := .later }
def BenchPrintsCardSaid : Prop := Claim7.holds Tryz.pinned (.plain (OpenSpec.ofChange benchPrintsSpec)) benchPrintsCard

/-- THE TIED CARD OF 'patchbaylaw16.BenchBack'. -/
def benchBackCard : Claim7 := { stood := { row := benchBackRow, standIns := [], harness := (true, "277376348e67c6e4505156191ba0faf005bbeea4c685b33672f996eaf3e381ba"), looks := true }, kinds := [], alts := [], laidByText := true, laidKinds := [.data, .data, .data, .data, .wider, .mapped, .mapped, .widerDeep, .widerDeep, .mapped, .mapped, .pinned], laidTests := true, laidLooks := .later }
def BenchBackCardSaid : Prop := Claim7.holds Tryz.pinned (.plain (OpenSpec.ofChange benchBackSpec)) benchBackCard

/-- THE TIED CARD OF 'patchbaylaw16.BenchExpands'. -/
def benchExpandsCard : Claim7 := { stood := { row := benchExpandsRow, standIns := [], harness := (true, "277376348e67c6e4505156191ba0faf005bbeea4c685b33672f996eaf3e381ba"), looks := true }, kinds := [], alts := [], laidByText := true, laidKinds := [.data, .data, .data, .data, .wider, .mapped, .mapped, .widerDeep, .widerDeep, .mapped, .mapped, .pinned], laidTests := true, laidLooks := .later }
def BenchExpandsCardSaid : Prop := Claim7.holds Tryz.pinned (.plain (OpenSpec.ofChange benchExpandsSpec)) benchExpandsCard

/-- THE TIED CARD OF 'patchbaylaw16.BenchRuns'. -/
def benchRunsCard : Claim7 := { stood := { row := benchRunsRow, standIns := [], harness := (true, "277376348e67c6e4505156191ba0faf005bbeea4c685b33672f996eaf3e381ba"), looks := true }, kinds := [], alts := [], laidByText := true, laidKinds := [.data, .data, .data, .data, .wider, .mapped, .mapped, .widerDeep, .widerDeep, .mapped, .mapped, .pinned], laidTests := true, laidLooks := .later }
def BenchRunsCardSaid : Prop := Claim7.holds Tryz.pinned (.plain (OpenSpec.ofChange benchRunsSpec)) benchRunsCard

/-- THE SECOND FORM's CARD OF 'patchbaylaw16.BenchParses'. -/
def benchParsesUptoCard : Claim7 := { stood := { row := benchParsesUptoRow, standIns := [], harness := (true, "277376348e67c6e4505156191ba0faf005bbeea4c685b33672f996eaf3e381ba"), looks := true }, kinds := [], alts := [], laidByText := true, laidKinds := [.data, .data, .data, .data, .wider, .mapped, .mapped, .widerDeep, .widerDeep, .mapped, .mapped, .pinned], laidTests := true, laidLooks := .later }
def BenchParsesUptoCardSaid : Prop := Claim7.holds Tryz.pinned (.plain (OpenSpec.upto benchParsesSpec)) benchParsesUptoCard

/-- THE SECOND FORM's CARD OF 'patchbaylaw16.BenchPrints'. -/
def benchPrintsUptoCard : Claim7 := { stood := { row := benchPrintsUptoRow, standIns := [], harness := (true, "277376348e67c6e4505156191ba0faf005bbeea4c685b33672f996eaf3e381ba"), looks := true }, kinds := [], alts := [], laidByText := true, laidKinds := [.data, .data, .data, .data, .wider, .mapped, .mapped, .widerDeep, .widerDeep, .mapped, .mapped, .pinned], laidTests := true, laidLooks := .later }
def BenchPrintsUptoCardSaid : Prop := Claim7.holds Tryz.pinned (.plain (OpenSpec.upto benchPrintsSpec)) benchPrintsUptoCard

/-- THE SECOND FORM's CARD OF 'patchbaylaw16.BenchBack'. -/
def benchBackUptoCard : Claim7 := { stood := { row := benchBackUptoRow, standIns := [], harness := (true, "277376348e67c6e4505156191ba0faf005bbeea4c685b33672f996eaf3e381ba"), looks := true }, kinds := [], alts := [], laidByText := true, laidKinds := [.data, .data, .data, .data, .wider, .mapped, .mapped, .widerDeep, .widerDeep, .mapped, .mapped, .pinned], laidTests := true, laidLooks := .later }
def BenchBackUptoCardSaid : Prop := Claim7.holds Tryz.pinned (.plain (OpenSpec.upto benchBackSpec)) benchBackUptoCard

/-- THE SECOND FORM's CARD OF 'patchbaylaw16.BenchExpands'. -/
def benchExpandsUptoCard : Claim7 := { stood := { row := benchExpandsUptoRow, standIns := [], harness := (true, "277376348e67c6e4505156191ba0faf005bbeea4c685b33672f996eaf3e381ba"), looks := true }, kinds := [], alts := [], laidByText := true, laidKinds := [.data, .data, .data, .data, .wider, .mapped, .mapped, .widerDeep, .widerDeep, .mapped, .mapped, .pinned], laidTests := true, laidLooks := .later }
def BenchExpandsUptoCardSaid : Prop := Claim7.holds Tryz.pinned (.plain (OpenSpec.upto benchExpandsSpec)) benchExpandsUptoCard

/-- THE SECOND FORM's CARD OF 'patchbaylaw16.BenchRuns'. -/
def benchRunsUptoCard : Claim7 := { stood := { row := benchRunsUptoRow, standIns := [], harness := (true, "277376348e67c6e4505156191ba0faf005bbeea4c685b33672f996eaf3e381ba"), looks := true }, kinds := [], alts := [], laidByText := true, laidKinds := [.data, .data, .data, .data, .wider, .mapped, .mapped, .widerDeep, .widerDeep, .mapped, .mapped, .pinned], laidTests := true, laidLooks := .later }
def BenchRunsUptoCardSaid : Prop := Claim7.holds Tryz.pinned (.plain (OpenSpec.upto benchRunsSpec)) benchRunsUptoCard
end Rows
end Go.Proofs.YthaijohbpdabfaaGreatDoor

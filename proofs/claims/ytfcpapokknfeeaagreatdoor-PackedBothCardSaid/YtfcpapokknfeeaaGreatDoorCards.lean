/-
  DERIVED. GIVEN WITH THE SEED: THE CARDS: each row of YtfcpapokknfeeaaGreatDoorRows.lean that lists a variable, with what it lists TIED to the program's text (the seventh form; the later family's looks); each row that meets fmt, with fmt's text TOLD by the authors' own Lean function (tested against real Go, not proved from fmt's source: count such statements apart). THE CARD IS WHAT COUNTS. Prove the row's statement (the work); the ties are given (YtfcpapokknfeeaaGreatDoorTie.lean); close each card by the builder's one call (the guide's Derived/Test/ToyasCard.lean, 'card_holds'). Laid BY PROGRAM, IN A SANDBOX (cutbox-door.mjs). By AI agents, Wed Nov 11 2026. No macro, syntax, notation, axiom, sorry.
-/
import Derived.Test.YtfcpapokknfeeaaGreatDoorRows
import GoSem.ClaimSeven
namespace Go.Proofs.YtfcpapokknfeeaaGreatDoor
namespace Rows

/-- THE TIED CARD OF 'patchbaylaw13.AigerPrints'. -/
def aigerPrintsCard : Claim7 := { stood := { row := aigerPrintsRow, standIns := [], harness := (true, "e724ccb70166124cfc1b7557fa299b5ede9b7b5039860310cca62b97ae2c3679"), looks := true }, kinds := [], alts := [], laidByText := true, laidKinds := [.data, .data, .data, .handle, .sentinel, .sentinel, .wider], laidTests := true, laidLooks := .later }
def AigerPrintsCardSaid : Prop := Claim7.holds Tryz.pinned (.plain (OpenSpec.ofChange aigerPrintsSpec)) aigerPrintsCard

/-- THE TIED CARD OF 'patchbaylaw14.PackedPrints'. -/
def packedPrintsCard : Claim7 := { stood := { row := packedPrintsRow, standIns := [], harness := (true, "e724ccb70166124cfc1b7557fa299b5ede9b7b5039860310cca62b97ae2c3679"), looks := true }, kinds := [], alts := [], laidByText := true, laidKinds := [.data, .data, .data, .handle, .sentinel, .sentinel, .wider], laidTests := true, laidLooks := .later }
def PackedPrintsCardSaid : Prop := Claim7.holds Tryz.pinned (.plain (OpenSpec.ofChange packedPrintsSpec)) packedPrintsCard

/-- THE TIED CARD OF 'patchbaylaw14.PackedBoth'. -/
def packedBothCard : Claim7 := { stood := { row := packedBothRow, standIns := [], harness := (true, "e724ccb70166124cfc1b7557fa299b5ede9b7b5039860310cca62b97ae2c3679"), looks := true }, kinds := [], alts := [], laidByText := true, laidKinds := [.data, .data, .data, .handle, .sentinel, .sentinel, .wider], laidTests := true, laidLooks := .later }
def PackedBothCardSaid : Prop := Claim7.holds Tryz.pinned (.plain (OpenSpec.ofChange packedBothSpec)) packedBothCard

/-- THE SECOND FORM's CARD OF 'patchbaylaw13.AigerPrints'. -/
def aigerPrintsUptoCard : Claim7 := { stood := { row := aigerPrintsUptoRow, standIns := [], harness := (true, "e724ccb70166124cfc1b7557fa299b5ede9b7b5039860310cca62b97ae2c3679"), looks := true }, kinds := [], alts := [], laidByText := true, laidKinds := [.data, .data, .data, .handle, .sentinel, .sentinel, .wider], laidTests := true, laidLooks := .later }
def AigerPrintsUptoCardSaid : Prop := Claim7.holds Tryz.pinned (.plain (OpenSpec.upto aigerPrintsSpec)) aigerPrintsUptoCard

/-- THE SECOND FORM's CARD OF 'patchbaylaw14.PackedPrints'. -/
def packedPrintsUptoCard : Claim7 := { stood := { row := packedPrintsUptoRow, standIns := [], harness := (true, "e724ccb70166124cfc1b7557fa299b5ede9b7b5039860310cca62b97ae2c3679"), looks := true }, kinds := [], alts := [], laidByText := true, laidKinds := [.data, .data, .data, .handle, .sentinel, .sentinel, .wider], laidTests := true, laidLooks := .later }
def PackedPrintsUptoCardSaid : Prop := Claim7.holds Tryz.pinned (.plain (OpenSpec.upto packedPrintsSpec)) packedPrintsUptoCard

/-- THE SECOND FORM's CARD OF 'patchbaylaw14.PackedBoth'. -/
def packedBothUptoCard : Claim7 := { stood := { row := packedBothUptoRow, standIns := [], harness := (true, "e724ccb70166124cfc1b7557fa299b5ede9b7b5039860310cca62b97ae2c3679"), looks := true }, kinds := [], alts := [], laidByText := true, laidKinds := [.data, .data, .data, .handle, .sentinel, .sentinel, .wider], laidTests := true, laidLooks := .later }
def PackedBothUptoCardSaid : Prop := Claim7.holds Tryz.pinned (.plain (OpenSpec.upto packedBothSpec)) packedBothUptoCard
end Rows
end Go.Proofs.YtfcpapokknfeeaaGreatDoor

/-
  DERIVED. GIVEN WITH THE SEED: THE CARDS: each row of YtboolnpmlmgpkaaGreatDoorRows.lean that lists a variable, with what it lists TIED to the program's text (the seventh form; the later family's looks); each row that meets fmt, with fmt's text TOLD by the authors' own Lean function (tested against real Go, not proved from fmt's source: count such statements apart). THE CARD IS WHAT COUNTS. Prove the row's statement (the work); the ties are given (YtboolnpmlmgpkaaGreatDoorTie.lean); close each card by the builder's one call (the guide's Derived/Test/ToyasCard.lean, 'card_holds'). Laid BY PROGRAM, IN A SANDBOX (cutbox-door.mjs). By AI agents, Wed Nov 11 2026. No macro, syntax, notation, axiom, sorry.
-/
import Derived.Test.YtboolnpmlmgpkaaGreatDoorRows
import GoSem.ClaimSeven
namespace Go.Proofs.YtboolnpmlmgpkaaGreatDoor
namespace Rows

/-- THE TIED CARD OF 'patchbaylaw13.AigerPrints'. -/
def aigerPrintsCard : Claim7 := { stood := { row := aigerPrintsRow, standIns := [], harness := (true, "29196b330cf1e532a7874e12d148bce46726bfc279db6007120eef52939e3d65"), looks := true }, kinds := [], alts := [], laidByText := true, laidKinds := [.data, .data, .data, .handle, .sentinel, .sentinel, .wider], laidTests := true, laidLooks := .later }
def AigerPrintsCardSaid : Prop := Claim7.holds Tryz.pinned (.plain (OpenSpec.ofChange aigerPrintsSpec)) aigerPrintsCard

/-- THE TIED CARD OF 'patchbaylaw13.AigerBack'. -/
def aigerBackCard : Claim7 := { stood := { row := aigerBackRow, standIns := [], harness := (true, "29196b330cf1e532a7874e12d148bce46726bfc279db6007120eef52939e3d65"), looks := true }, kinds := [], alts := [], laidByText := true, laidKinds := [.data, .data, .data, .handle, .sentinel, .sentinel, .wider], laidTests := true, laidLooks := .later }
def AigerBackCardSaid : Prop := Claim7.holds Tryz.pinned (.plain (OpenSpec.ofChange aigerBackSpec)) aigerBackCard

/-- THE TIED CARD OF 'patchbaylaw13.AigerEnds'. -/
def aigerEndsCard : Claim7 := { stood := { row := aigerEndsRow, standIns := [], harness := (true, "29196b330cf1e532a7874e12d148bce46726bfc279db6007120eef52939e3d65"), looks := true }, kinds := [], alts := [], laidByText := true, laidKinds := [.data, .data, .data, .handle, .sentinel, .sentinel, .wider], laidTests := true, laidLooks := .later }
def AigerEndsCardSaid : Prop := Claim7.holds Tryz.pinned (.plain (OpenSpec.ofChange aigerEndsSpec)) aigerEndsCard

/-- THE TIED CARD OF 'patchbaylaw14.PackedPrints'. -/
def packedPrintsCard : Claim7 := { stood := { row := packedPrintsRow, standIns := [], harness := (true, "29196b330cf1e532a7874e12d148bce46726bfc279db6007120eef52939e3d65"), looks := true }, kinds := [], alts := [], laidByText := true, laidKinds := [.data, .data, .data, .handle, .sentinel, .sentinel, .wider], laidTests := true, laidLooks := .later }
def PackedPrintsCardSaid : Prop := Claim7.holds Tryz.pinned (.plain (OpenSpec.ofChange packedPrintsSpec)) packedPrintsCard

/-- THE TIED CARD OF 'patchbaylaw14.PackedUnands'. -/
def packedUnandsCard : Claim7 := { stood := { row := packedUnandsRow, standIns := [], harness := (true, "29196b330cf1e532a7874e12d148bce46726bfc279db6007120eef52939e3d65"), looks := true }, kinds := [], alts := [], laidByText := true, laidKinds := [.data, .data, .data, .handle, .sentinel, .sentinel, .wider], laidTests := true, laidLooks := .later }
def PackedUnandsCardSaid : Prop := Claim7.holds Tryz.pinned (.plain (OpenSpec.ofChange packedUnandsSpec)) packedUnandsCard

/-- THE TIED CARD OF 'patchbaylaw14.PackedBack'. -/
def packedBackCard : Claim7 := { stood := { row := packedBackRow, standIns := [], harness := (true, "29196b330cf1e532a7874e12d148bce46726bfc279db6007120eef52939e3d65"), looks := true }, kinds := [], alts := [], laidByText := true, laidKinds := [.data, .data, .data, .handle, .sentinel, .sentinel, .wider], laidTests := true, laidLooks := .later }
def PackedBackCardSaid : Prop := Claim7.holds Tryz.pinned (.plain (OpenSpec.ofChange packedBackSpec)) packedBackCard

/-- THE TIED CARD OF 'patchbaylaw22.WitnessTells'. -/
def witnessTellsCard : Claim7 := { stood := { row := witnessTellsRow, standIns := [], harness := (true, "29196b330cf1e532a7874e12d148bce46726bfc279db6007120eef52939e3d65"), looks := true }, kinds := [], alts := [], laidByText := true, laidKinds := [.data, .data, .data, .handle, .sentinel, .sentinel, .wider], laidTests := true, laidLooks := .later }
def WitnessTellsCardSaid : Prop := Claim7.holds Tryz.pinned (.plain (OpenSpec.ofChange witnessTellsSpec)) witnessTellsCard

/-- THE TIED CARD OF 'patchbaylaw22.WitnessBack'. -/
def witnessBackCard : Claim7 := { stood := { row := witnessBackRow, standIns := [], harness := (true, "29196b330cf1e532a7874e12d148bce46726bfc279db6007120eef52939e3d65"), looks := true }, kinds := [], alts := [], laidByText := true, laidKinds := [.data, .data, .data, .handle, .sentinel, .sentinel, .wider], laidTests := true, laidLooks := .later }
def WitnessBackCardSaid : Prop := Claim7.holds Tryz.pinned (.plain (OpenSpec.ofChange witnessBackSpec)) witnessBackCard

/-- THE TIED CARD OF 'patchbaylaw22.WitnessMoves'. -/
def witnessMovesCard : Claim7 := { stood := { row := witnessMovesRow, standIns := [], harness := (true, "29196b330cf1e532a7874e12d148bce46726bfc279db6007120eef52939e3d65"), looks := true }, kinds := [], alts := [], laidByText := true, laidKinds := [.data, .data, .data, .handle, .sentinel, .sentinel, .wider], laidTests := true, laidLooks := .later }
def WitnessMovesCardSaid : Prop := Claim7.holds Tryz.pinned (.plain (OpenSpec.ofChange witnessMovesSpec)) witnessMovesCard

/-- THE TIED CARD OF 'patchbaylaw22.WitnessRuns'. -/
def witnessRunsCard : Claim7 := { stood := { row := witnessRunsRow, standIns := [], harness := (true, "29196b330cf1e532a7874e12d148bce46726bfc279db6007120eef52939e3d65"), looks := true }, kinds := [], alts := [], laidByText := true, laidKinds := [.data, .data, .data, .handle, .sentinel, .sentinel, .wider], laidTests := true, laidLooks := .later }
def WitnessRunsCardSaid : Prop := Claim7.holds Tryz.pinned (.plain (OpenSpec.ofChange witnessRunsSpec)) witnessRunsCard

/-- THE TIED CARD OF 'patchbaylaw14.PackedBoth'. -/
def packedBothCard : Claim7 := { stood := { row := packedBothRow, standIns := [], harness := (true, "29196b330cf1e532a7874e12d148bce46726bfc279db6007120eef52939e3d65"), looks := true }, kinds := [], alts := [], laidByText := true, laidKinds := [.data, .data, .data, .handle, .sentinel, .sentinel, .wider], laidTests := true, laidLooks := .later }
def PackedBothCardSaid : Prop := Claim7.holds Tryz.pinned (.plain (OpenSpec.ofChange packedBothSpec)) packedBothCard

/-- THE SECOND FORM's CARD OF 'patchbaylaw13.AigerPrints'. -/
def aigerPrintsUptoCard : Claim7 := { stood := { row := aigerPrintsUptoRow, standIns := [], harness := (true, "29196b330cf1e532a7874e12d148bce46726bfc279db6007120eef52939e3d65"), looks := true }, kinds := [], alts := [], laidByText := true, laidKinds := [.data, .data, .data, .handle, .sentinel, .sentinel, .wider], laidTests := true, laidLooks := .later }
def AigerPrintsUptoCardSaid : Prop := Claim7.holds Tryz.pinned (.plain (OpenSpec.upto aigerPrintsSpec)) aigerPrintsUptoCard

/-- THE SECOND FORM's CARD OF 'patchbaylaw13.AigerBack'. -/
def aigerBackUptoCard : Claim7 := { stood := { row := aigerBackUptoRow, standIns := [], harness := (true, "29196b330cf1e532a7874e12d148bce46726bfc279db6007120eef52939e3d65"), looks := true }, kinds := [], alts := [], laidByText := true, laidKinds := [.data, .data, .data, .handle, .sentinel, .sentinel, .wider], laidTests := true, laidLooks := .later }
def AigerBackUptoCardSaid : Prop := Claim7.holds Tryz.pinned (.plain (OpenSpec.upto aigerBackSpec)) aigerBackUptoCard

/-- THE SECOND FORM's CARD OF 'patchbaylaw13.AigerEnds'. -/
def aigerEndsUptoCard : Claim7 := { stood := { row := aigerEndsUptoRow, standIns := [], harness := (true, "29196b330cf1e532a7874e12d148bce46726bfc279db6007120eef52939e3d65"), looks := true }, kinds := [], alts := [], laidByText := true, laidKinds := [.data, .data, .data, .handle, .sentinel, .sentinel, .wider], laidTests := true, laidLooks := .later }
def AigerEndsUptoCardSaid : Prop := Claim7.holds Tryz.pinned (.plain (OpenSpec.upto aigerEndsSpec)) aigerEndsUptoCard

/-- THE SECOND FORM's CARD OF 'patchbaylaw14.PackedPrints'. -/
def packedPrintsUptoCard : Claim7 := { stood := { row := packedPrintsUptoRow, standIns := [], harness := (true, "29196b330cf1e532a7874e12d148bce46726bfc279db6007120eef52939e3d65"), looks := true }, kinds := [], alts := [], laidByText := true, laidKinds := [.data, .data, .data, .handle, .sentinel, .sentinel, .wider], laidTests := true, laidLooks := .later }
def PackedPrintsUptoCardSaid : Prop := Claim7.holds Tryz.pinned (.plain (OpenSpec.upto packedPrintsSpec)) packedPrintsUptoCard

/-- THE SECOND FORM's CARD OF 'patchbaylaw14.PackedUnands'. -/
def packedUnandsUptoCard : Claim7 := { stood := { row := packedUnandsUptoRow, standIns := [], harness := (true, "29196b330cf1e532a7874e12d148bce46726bfc279db6007120eef52939e3d65"), looks := true }, kinds := [], alts := [], laidByText := true, laidKinds := [.data, .data, .data, .handle, .sentinel, .sentinel, .wider], laidTests := true, laidLooks := .later }
def PackedUnandsUptoCardSaid : Prop := Claim7.holds Tryz.pinned (.plain (OpenSpec.upto packedUnandsSpec)) packedUnandsUptoCard

/-- THE SECOND FORM's CARD OF 'patchbaylaw14.PackedBack'. -/
def packedBackUptoCard : Claim7 := { stood := { row := packedBackUptoRow, standIns := [], harness := (true, "29196b330cf1e532a7874e12d148bce46726bfc279db6007120eef52939e3d65"), looks := true }, kinds := [], alts := [], laidByText := true, laidKinds := [.data, .data, .data, .handle, .sentinel, .sentinel, .wider], laidTests := true, laidLooks := .later }
def PackedBackUptoCardSaid : Prop := Claim7.holds Tryz.pinned (.plain (OpenSpec.upto packedBackSpec)) packedBackUptoCard

/-- THE SECOND FORM's CARD OF 'patchbaylaw22.WitnessTells'. -/
def witnessTellsUptoCard : Claim7 := { stood := { row := witnessTellsUptoRow, standIns := [], harness := (true, "29196b330cf1e532a7874e12d148bce46726bfc279db6007120eef52939e3d65"), looks := true }, kinds := [], alts := [], laidByText := true, laidKinds := [.data, .data, .data, .handle, .sentinel, .sentinel, .wider], laidTests := true, laidLooks := .later }
def WitnessTellsUptoCardSaid : Prop := Claim7.holds Tryz.pinned (.plain (OpenSpec.upto witnessTellsSpec)) witnessTellsUptoCard

/-- THE SECOND FORM's CARD OF 'patchbaylaw22.WitnessBack'. -/
def witnessBackUptoCard : Claim7 := { stood := { row := witnessBackUptoRow, standIns := [], harness := (true, "29196b330cf1e532a7874e12d148bce46726bfc279db6007120eef52939e3d65"), looks := true }, kinds := [], alts := [], laidByText := true, laidKinds := [.data, .data, .data, .handle, .sentinel, .sentinel, .wider], laidTests := true, laidLooks := .later }
def WitnessBackUptoCardSaid : Prop := Claim7.holds Tryz.pinned (.plain (OpenSpec.upto witnessBackSpec)) witnessBackUptoCard

/-- THE SECOND FORM's CARD OF 'patchbaylaw22.WitnessMoves'. -/
def witnessMovesUptoCard : Claim7 := { stood := { row := witnessMovesUptoRow, standIns := [], harness := (true, "29196b330cf1e532a7874e12d148bce46726bfc279db6007120eef52939e3d65"), looks := true }, kinds := [], alts := [], laidByText := true, laidKinds := [.data, .data, .data, .handle, .sentinel, .sentinel, .wider], laidTests := true, laidLooks := .later }
def WitnessMovesUptoCardSaid : Prop := Claim7.holds Tryz.pinned (.plain (OpenSpec.upto witnessMovesSpec)) witnessMovesUptoCard

/-- THE SECOND FORM's CARD OF 'patchbaylaw22.WitnessRuns'. -/
def witnessRunsUptoCard : Claim7 := { stood := { row := witnessRunsUptoRow, standIns := [], harness := (true, "29196b330cf1e532a7874e12d148bce46726bfc279db6007120eef52939e3d65"), looks := true }, kinds := [], alts := [], laidByText := true, laidKinds := [.data, .data, .data, .handle, .sentinel, .sentinel, .wider], laidTests := true, laidLooks := .later }
def WitnessRunsUptoCardSaid : Prop := Claim7.holds Tryz.pinned (.plain (OpenSpec.upto witnessRunsSpec)) witnessRunsUptoCard

/-- THE SECOND FORM's CARD OF 'patchbaylaw14.PackedBoth'. -/
def packedBothUptoCard : Claim7 := { stood := { row := packedBothUptoRow, standIns := [], harness := (true, "29196b330cf1e532a7874e12d148bce46726bfc279db6007120eef52939e3d65"), looks := true }, kinds := [], alts := [], laidByText := true, laidKinds := [.data, .data, .data, .handle, .sentinel, .sentinel, .wider], laidTests := true, laidLooks := .later }
def PackedBothUptoCardSaid : Prop := Claim7.holds Tryz.pinned (.plain (OpenSpec.upto packedBothSpec)) packedBothUptoCard
end Rows
end Go.Proofs.YtboolnpmlmgpkaaGreatDoor

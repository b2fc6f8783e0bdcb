/-
  DERIVED. GIVEN WITH THE SEED: THE CARDS: each row of YtbikgbnhngmohaaDoorRows.lean that lists a variable, with what it lists TIED to the program's text (the seventh form; the later family's looks); each row that meets fmt, with fmt's text TOLD by the authors' own Lean function (tested against real Go, not proved from fmt's source: count such statements apart). THE CARD IS WHAT COUNTS. Prove the row's statement (the work); the ties are given (YtbikgbnhngmohaaDoorTie.lean); close each card by the builder's one call (the guide's Derived/Test/ToyasCard.lean, 'card_holds'). Laid BY PROGRAM, IN A SANDBOX (cutbox-door.mjs). By AI agents, Wed Nov 11 2026. No macro, syntax, notation, axiom, sorry.
-/
import Derived.Test.YtbikgbnhngmohaaDoorRows
import GoSem.ClaimSeven
namespace Go.Proofs.YtbikgbnhngmohaaDoor
namespace Rows

/-- THE TIED CARD OF 'patchbaylaw02.DigitTells'. -/
def digitTellsCard : Claim7 := { stood := { row := digitTellsRow, standIns := [], harness := (true, "3c57a49b8bc57ccf2e2abb62bd602539baa1aa340b930eed911dbcebd7fc973b"), looks := true }, kinds := [], alts := [], laidByText := true, laidKinds := [.data, .data, .data, .handle, .sentinel, .sentinel], laidTests := true, laidLooks := .later }
def DigitTellsCardSaid : Prop := Claim7.holds Tryd.pinned (.plain (OpenSpec.ofChange digitTellsSpec)) digitTellsCard

/-- THE TIED CARD OF 'patchbaylaw02.DigitDeltas'. -/
def digitDeltasCard : Claim7 := { stood := { row := digitDeltasRow, standIns := [], harness := (true, "3c57a49b8bc57ccf2e2abb62bd602539baa1aa340b930eed911dbcebd7fc973b"), looks := true }, kinds := [], alts := [], laidByText := true, laidKinds := [.data, .data, .data, .handle, .sentinel, .sentinel], laidTests := true, laidLooks := .later }
def DigitDeltasCardSaid : Prop := Claim7.holds Tryd.pinned (.plain (OpenSpec.ofChange digitDeltasSpec)) digitDeltasCard

/-- THE TIED CARD OF 'patchbaylaw02.DigitBack'. -/
def digitBackCard : Claim7 := { stood := { row := digitBackRow, standIns := [], harness := (true, "3c57a49b8bc57ccf2e2abb62bd602539baa1aa340b930eed911dbcebd7fc973b"), looks := true }, kinds := [], alts := [], laidByText := true, laidKinds := [.data, .data, .data, .handle, .sentinel, .sentinel], laidTests := true, laidLooks := .later }
def DigitBackCardSaid : Prop := Claim7.holds Tryd.pinned (.plain (OpenSpec.ofChange digitBackSpec)) digitBackCard

/-- THE TIED CARD OF 'patchbaylaw02.DigitOnly'. -/
def digitOnlyCard : Claim7 := { stood := { row := digitOnlyRow, standIns := [], harness := (true, "3c57a49b8bc57ccf2e2abb62bd602539baa1aa340b930eed911dbcebd7fc973b"), looks := true }, kinds := [], alts := [], laidByText := true, laidKinds := [.data, .data, .data, .handle, .sentinel, .sentinel], laidTests := true, laidLooks := .later }
def DigitOnlyCardSaid : Prop := Claim7.holds Tryd.pinned (.plain (OpenSpec.ofChange digitOnlySpec)) digitOnlyCard

/-- THE TIED CARD OF 'patchbaylaw02.DigitOrder'. -/
def digitOrderCard : Claim7 := { stood := { row := digitOrderRow, standIns := [], harness := (true, "3c57a49b8bc57ccf2e2abb62bd602539baa1aa340b930eed911dbcebd7fc973b"), looks := true }, kinds := [], alts := [], laidByText := true, laidKinds := [.data, .data, .data, .handle, .sentinel, .sentinel], laidTests := true, laidLooks := .later }
def DigitOrderCardSaid : Prop := Claim7.holds Tryd.pinned (.plain (OpenSpec.ofChange digitOrderSpec)) digitOrderCard

/-- THE TIED CARD OF 'patchbaylaw02.DigitCuts'. -/
def digitCutsCard : Claim7 := { stood := { row := digitCutsRow, standIns := [], harness := (true, "3c57a49b8bc57ccf2e2abb62bd602539baa1aa340b930eed911dbcebd7fc973b"), looks := true }, kinds := [], alts := [], laidByText := true, laidKinds := [.data, .data, .data, .handle, .sentinel, .sentinel], laidTests := true, laidLooks := .later }
def DigitCutsCardSaid : Prop := Claim7.holds Tryd.pinned (.plain (OpenSpec.ofChange digitCutsSpec)) digitCutsCard

/-- THE SECOND FORM's CARD OF 'patchbaylaw02.DigitTells'. -/
def digitTellsUptoCard : Claim7 := { stood := { row := digitTellsUptoRow, standIns := [], harness := (true, "3c57a49b8bc57ccf2e2abb62bd602539baa1aa340b930eed911dbcebd7fc973b"), looks := true }, kinds := [], alts := [], laidByText := true, laidKinds := [.data, .data, .data, .handle, .sentinel, .sentinel], laidTests := true, laidLooks := .later }
def DigitTellsUptoCardSaid : Prop := Claim7.holds Tryd.pinned (.plain (OpenSpec.upto digitTellsSpec)) digitTellsUptoCard

/-- THE SECOND FORM's CARD OF 'patchbaylaw02.DigitDeltas'. -/
def digitDeltasUptoCard : Claim7 := { stood := { row := digitDeltasUptoRow, standIns := [], harness := (true, "3c57a49b8bc57ccf2e2abb62bd602539baa1aa340b930eed911dbcebd7fc973b"), looks := true }, kinds := [], alts := [], laidByText := true, laidKinds := [.data, .data, .data, .handle, .sentinel, .sentinel], laidTests := true, laidLooks := .later }
def DigitDeltasUptoCardSaid : Prop := Claim7.holds Tryd.pinned (.plain (OpenSpec.upto digitDeltasSpec)) digitDeltasUptoCard

/-- THE SECOND FORM's CARD OF 'patchbaylaw02.DigitBack'. -/
def digitBackUptoCard : Claim7 := { stood := { row := digitBackUptoRow, standIns := [], harness := (true, "3c57a49b8bc57ccf2e2abb62bd602539baa1aa340b930eed911dbcebd7fc973b"), looks := true }, kinds := [], alts := [], laidByText := true, laidKinds := [.data, .data, .data, .handle, .sentinel, .sentinel], laidTests := true, laidLooks := .later }
def DigitBackUptoCardSaid : Prop := Claim7.holds Tryd.pinned (.plain (OpenSpec.upto digitBackSpec)) digitBackUptoCard

/-- THE SECOND FORM's CARD OF 'patchbaylaw02.DigitOnly'. -/
def digitOnlyUptoCard : Claim7 := { stood := { row := digitOnlyUptoRow, standIns := [], harness := (true, "3c57a49b8bc57ccf2e2abb62bd602539baa1aa340b930eed911dbcebd7fc973b"), looks := true }, kinds := [], alts := [], laidByText := true, laidKinds := [.data, .data, .data, .handle, .sentinel, .sentinel], laidTests := true, laidLooks := .later }
def DigitOnlyUptoCardSaid : Prop := Claim7.holds Tryd.pinned (.plain (OpenSpec.upto digitOnlySpec)) digitOnlyUptoCard

/-- THE SECOND FORM's CARD OF 'patchbaylaw02.DigitOrder'. -/
def digitOrderUptoCard : Claim7 := { stood := { row := digitOrderUptoRow, standIns := [], harness := (true, "3c57a49b8bc57ccf2e2abb62bd602539baa1aa340b930eed911dbcebd7fc973b"), looks := true }, kinds := [], alts := [], laidByText := true, laidKinds := [.data, .data, .data, .handle, .sentinel, .sentinel], laidTests := true, laidLooks := .later }
def DigitOrderUptoCardSaid : Prop := Claim7.holds Tryd.pinned (.plain (OpenSpec.upto digitOrderSpec)) digitOrderUptoCard

/-- THE SECOND FORM's CARD OF 'patchbaylaw02.DigitCuts'. -/
def digitCutsUptoCard : Claim7 := { stood := { row := digitCutsUptoRow, standIns := [], harness := (true, "3c57a49b8bc57ccf2e2abb62bd602539baa1aa340b930eed911dbcebd7fc973b"), looks := true }, kinds := [], alts := [], laidByText := true, laidKinds := [.data, .data, .data, .handle, .sentinel, .sentinel], laidTests := true, laidLooks := .later }
def DigitCutsUptoCardSaid : Prop := Claim7.holds Tryd.pinned (.plain (OpenSpec.upto digitCutsSpec)) digitCutsUptoCard
end Rows
end Go.Proofs.YtbikgbnhngmohaaDoor

/-
  DERIVED. GIVEN WITH THE SEED: THE CARDS: each row of YtmlacppmbfbjgaaGreatDoorRows.lean that lists a variable, with what it lists TIED to the program's text (the seventh form; the later family's looks); each row that meets fmt, with fmt's text TOLD by the authors' own Lean function (tested against real Go, not proved from fmt's source: count such statements apart). THE CARD IS WHAT COUNTS. Prove the row's statement (the work); the ties are given (YtmlacppmbfbjgaaGreatDoorTie.lean); close each card by the builder's one call (the guide's Derived/Test/ToyasCard.lean, 'card_holds'). Laid BY PROGRAM, IN A SANDBOX (cutbox-door.mjs). By AI agents, Wed Nov 11 2026. No macro, syntax, notation, axiom, sorry.
-/
import Derived.Test.YtmlacppmbfbjgaaGreatDoorRows
import GoSem.ClaimSeven
namespace Go.Proofs.YtmlacppmbfbjgaaGreatDoor
namespace Rows

/-- THE TIED CARD OF 'patchbaylaw23.InvTells'. -/
def invTellsCard : Claim7 := { stood := { row := invTellsRow, standIns := [], harness := (true, "5a7e733d84d79b06a6fec9a70d26ae24888720b55f6f20621448314c534cb8d2"), looks := true }, kinds := [], alts := [], laidByText := true, laidKinds := [.data, .wider, .pinned], laidTests := true, laidLooks := .later }
def InvTellsCardSaid : Prop := Claim7.holds Tryz.pinned (.plain (OpenSpec.ofChange invTellsSpec)) invTellsCard

/-- THE TIED CARD OF 'patchbaylaw23.InvBack'. -/
def invBackCard : Claim7 := { stood := { row := invBackRow, standIns := [], harness := (true, "5a7e733d84d79b06a6fec9a70d26ae24888720b55f6f20621448314c534cb8d2"), looks := true }, kinds := [], alts := [], laidByText := true, laidKinds := [.data, .wider, .pinned], laidTests := true, laidLooks := .later }
def InvBackCardSaid : Prop := Claim7.holds Tryz.pinned (.plain (OpenSpec.ofChange invBackSpec)) invBackCard

/-- THE TIED CARD OF 'patchbaylaw23.InvSafe'. -/
def invSafeCard : Claim7 := { stood := { row := invSafeRow, standIns := [], harness := (true, "5a7e733d84d79b06a6fec9a70d26ae24888720b55f6f20621448314c534cb8d2"), looks := true }, kinds := [], alts := [], laidByText := true, laidKinds := [.data, .wider, .pinned], laidTests := true, laidLooks := .later }
def InvSafeCardSaid : Prop := Claim7.holds Tryz.pinned (.plain (OpenSpec.ofChange invSafeSpec)) invSafeCard

/-- THE SECOND FORM's CARD OF 'patchbaylaw23.InvTells'. -/
def invTellsUptoCard : Claim7 := { stood := { row := invTellsUptoRow, standIns := [], harness := (true, "5a7e733d84d79b06a6fec9a70d26ae24888720b55f6f20621448314c534cb8d2"), looks := true }, kinds := [], alts := [], laidByText := true, laidKinds := [.data, .wider, .pinned], laidTests := true, laidLooks := .later }
def InvTellsUptoCardSaid : Prop := Claim7.holds Tryz.pinned (.plain (OpenSpec.upto invTellsSpec)) invTellsUptoCard

/-- THE SECOND FORM's CARD OF 'patchbaylaw23.InvBack'. -/
def invBackUptoCard : Claim7 := { stood := { row := invBackUptoRow, standIns := [], harness := (true, "5a7e733d84d79b06a6fec9a70d26ae24888720b55f6f20621448314c534cb8d2"), looks := true }, kinds := [], alts := [], laidByText := true, laidKinds := [.data, .wider, .pinned], laidTests := true, laidLooks := .later }
def InvBackUptoCardSaid : Prop := Claim7.holds Tryz.pinned (.plain (OpenSpec.upto invBackSpec)) invBackUptoCard

/-- THE SECOND FORM's CARD OF 'patchbaylaw23.InvSafe'. -/
def invSafeUptoCard : Claim7 := { stood := { row := invSafeUptoRow, standIns := [], harness := (true, "5a7e733d84d79b06a6fec9a70d26ae24888720b55f6f20621448314c534cb8d2"), looks := true }, kinds := [], alts := [], laidByText := true, laidKinds := [.data, .wider, .pinned], laidTests := true, laidLooks := .later }
def InvSafeUptoCardSaid : Prop := Claim7.holds Tryz.pinned (.plain (OpenSpec.upto invSafeSpec)) invSafeUptoCard
end Rows
end Go.Proofs.YtmlacppmbfbjgaaGreatDoor

/-
  DERIVED. GIVEN WITH THE SEED: THE CARDS: each row of YtokppohljajhjaaGreatDoorRows.lean that lists a variable, with what it lists TIED to the program's text (the seventh form; the later family's looks); each row that meets fmt, with fmt's text TOLD by the authors' own Lean function (tested against real Go, not proved from fmt's source: count such statements apart). THE CARD IS WHAT COUNTS. Prove the row's statement (the work); the ties are given (YtokppohljajhjaaGreatDoorTie.lean); close each card by the builder's one call (the guide's Derived/Test/ToyasCard.lean, 'card_holds'). Laid BY PROGRAM, IN A SANDBOX (cutbox-door.mjs). By AI agents, Wed Nov 11 2026. No macro, syntax, notation, axiom, sorry.
-/
import Derived.Test.YtokppohljajhjaaGreatDoorRows
import GoSem.ClaimSeven
namespace Go.Proofs.YtokppohljajhjaaGreatDoor
namespace Rows

/-- THE TIED CARD OF 'patchbaylaw15.BlifBack'. -/
def blifBackCard : Claim7 := { stood := { row := blifBackRow, standIns := [], harness := (true, "4e0d963d9c82b205ceb97253c8819733dc7bbfead33dbde74c9d0ac28f42e1e6"), looks := true }, kinds := [], alts := [], laidByText := true, laidKinds := [.data, .data, .data, .data, .wider, .mapped, .mapped, .funcs, .pinned], laidTests := true, laidLooks := .later }
def BlifBackCardSaid : Prop := Claim7.holds Tryz.pinned (.plain (OpenSpec.ofChange blifBackSpec)) blifBackCard

/-- THE TIED CARD OF 'patchbaylaw15.BlifPlain'. -/
def blifPlainCard : Claim7 := { stood := { row := blifPlainRow, standIns := [], harness := (true, "4e0d963d9c82b205ceb97253c8819733dc7bbfead33dbde74c9d0ac28f42e1e6"), looks := true }, kinds := [], alts := [], laidByText := true, laidKinds := [.data, .data, .data, .data, .wider, .mapped, .mapped, .funcs, .pinned], laidTests := true, laidLooks := .later }
def BlifPlainCardSaid : Prop := Claim7.holds Tryz.pinned (.plain (OpenSpec.ofChange blifPlainSpec)) blifPlainCard

/-- THE TIED CARD OF 'patchbaylaw15.BlifRuns'. -/
def blifRunsCard : Claim7 := { stood := { row := blifRunsRow, standIns := [], harness := (true, "4e0d963d9c82b205ceb97253c8819733dc7bbfead33dbde74c9d0ac28f42e1e6"), looks := true }, kinds := [], alts := [], laidByText := true, laidKinds := [.data, .data, .data, .data, .wider, .mapped, .mapped, .funcs, .pinned], laidTests := true, laidLooks := .later }
def BlifRunsCardSaid : Prop := Claim7.holds Tryz.pinned (.plain (OpenSpec.ofChange blifRunsSpec)) blifRunsCard

/-- THE SECOND FORM's CARD OF 'patchbaylaw15.BlifBack'. -/
def blifBackUptoCard : Claim7 := { stood := { row := blifBackUptoRow, standIns := [], harness := (true, "4e0d963d9c82b205ceb97253c8819733dc7bbfead33dbde74c9d0ac28f42e1e6"), looks := true }, kinds := [], alts := [], laidByText := true, laidKinds := [.data, .data, .data, .data, .wider, .mapped, .mapped, .funcs, .pinned], laidTests := true, laidLooks := .later }
def BlifBackUptoCardSaid : Prop := Claim7.holds Tryz.pinned (.plain (OpenSpec.upto blifBackSpec)) blifBackUptoCard

/-- THE SECOND FORM's CARD OF 'patchbaylaw15.BlifPlain'. -/
def blifPlainUptoCard : Claim7 := { stood := { row := blifPlainUptoRow, standIns := [], harness := (true, "4e0d963d9c82b205ceb97253c8819733dc7bbfead33dbde74c9d0ac28f42e1e6"), looks := true }, kinds := [], alts := [], laidByText := true, laidKinds := [.data, .data, .data, .data, .wider, .mapped, .mapped, .funcs, .pinned], laidTests := true, laidLooks := .later }
def BlifPlainUptoCardSaid : Prop := Claim7.holds Tryz.pinned (.plain (OpenSpec.upto blifPlainSpec)) blifPlainUptoCard

/-- THE SECOND FORM's CARD OF 'patchbaylaw15.BlifRuns'. -/
def blifRunsUptoCard : Claim7 := { stood := { row := blifRunsUptoRow, standIns := [], harness := (true, "4e0d963d9c82b205ceb97253c8819733dc7bbfead33dbde74c9d0ac28f42e1e6"), looks := true }, kinds := [], alts := [], laidByText := true, laidKinds := [.data, .data, .data, .data, .wider, .mapped, .mapped, .funcs, .pinned], laidTests := true, laidLooks := .later }
def BlifRunsUptoCardSaid : Prop := Claim7.holds Tryz.pinned (.plain (OpenSpec.upto blifRunsSpec)) blifRunsUptoCard
end Rows
end Go.Proofs.YtokppohljajhjaaGreatDoor

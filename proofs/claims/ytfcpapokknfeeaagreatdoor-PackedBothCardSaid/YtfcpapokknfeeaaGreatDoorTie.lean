/-
  DERIVED. GIVEN WITH THE SEED: THE PROGRAM's TIES (one call each: nine closed facts by the kernel) AND EACH ROW's TIE, after the 31st guide's Derived/Test/Toyas{Tie, Card}.lean. No idea stands in it: it is a product of the set-up. Laid BY PROGRAM, IN A SANDBOX (cutbox-door.mjs). By AI agents, Wed Nov 11 2026. No macro, syntax, notation, axiom, sorry.
-/
import Derived.Test.YtfcpapokknfeeaaGreatDoorRows
import Derived.LaidByTextLater
import Derived.SevenTiedAt
import Derived.LaidSub
import Derived.LaidOnce
namespace Go.Proofs.YtfcpapokknfeeaaGreatDoor
open Go
set_option maxRecDepth 100000
theorem seatTie1 : Tryz.prog.laidByTextLater [("math/bits.deBruijn32tab", Rows.laid_math_bits_deBruijn32tab), ("math/bits.deBruijn64tab", Rows.laid_math_bits_deBruijn64tab), ("internal/strconv.uint64pow10", Rows.laid_internal_strconv_uint64pow10), ("errors.errorType", Rows.laid_errors_errorType), ("strconv.ErrRange", Rows.laid_strconv_ErrRange), ("strconv.ErrSyntax", Rows.laid_strconv_ErrSyntax), ("patchbay/spot.start", Rows.laid_patchbay_spot_start)] [.data, .data, .data, .handle, .sentinel, .sentinel, .wider] true :=
  Program.laidByTextLater_by_one 74 8 65 (by kernel_rfl) (by kernel_rfl) (by kernel_rfl) (by kernel_rfl) (by kernel_rfl) (by kernel_rfl) (fun _ _ => by kernel_rfl)
theorem noOwnUnsafe : Tryz.pinned.checked.prog.headLifts.contains "ownunsafe" = false := by kernel_rfl
theorem tie : Tryz.prog.laidByTextLater [("math/bits.deBruijn32tab", Rows.laid_math_bits_deBruijn32tab), ("math/bits.deBruijn64tab", Rows.laid_math_bits_deBruijn64tab), ("internal/strconv.uint64pow10", Rows.laid_internal_strconv_uint64pow10), ("errors.errorType", Rows.laid_errors_errorType), ("strconv.ErrRange", Rows.laid_strconv_ErrRange), ("strconv.ErrSyntax", Rows.laid_strconv_ErrSyntax), ("patchbay/spot.start", Rows.laid_patchbay_spot_start)] [.data, .data, .data, .handle, .sentinel, .sentinel, .wider] true :=
  Program.laidByTextLater.sub seatTie1 ["math/bits.deBruijn32tab", "math/bits.deBruijn64tab", "internal/strconv.uint64pow10", "errors.errorType", "strconv.ErrRange", "strconv.ErrSyntax", "patchbay/spot.start"] (by kernel_rfl) (by kernel_rfl)
theorem aigerPrints_row_tie : Rows.aigerPrintsRow.laidByTextAt .later Tryz.pinned [.data, .data, .data, .handle, .sentinel, .sentinel, .wider] true :=
  OpenClaim.laidByTextAt_later rfl rfl tie noOwnUnsafe
theorem packedPrints_row_tie : Rows.packedPrintsRow.laidByTextAt .later Tryz.pinned [.data, .data, .data, .handle, .sentinel, .sentinel, .wider] true :=
  OpenClaim.laidByTextAt_later rfl rfl tie noOwnUnsafe
theorem packedBoth_row_tie : Rows.packedBothRow.laidByTextAt .later Tryz.pinned [.data, .data, .data, .handle, .sentinel, .sentinel, .wider] true :=
  OpenClaim.laidByTextAt_later rfl rfl tie noOwnUnsafe
theorem aigerPrintsUpto_row_tie : Rows.aigerPrintsUptoRow.laidByTextAt .later Tryz.pinned [.data, .data, .data, .handle, .sentinel, .sentinel, .wider] true :=
  OpenClaim.laidByTextAt_later rfl rfl tie noOwnUnsafe
theorem packedPrintsUpto_row_tie : Rows.packedPrintsUptoRow.laidByTextAt .later Tryz.pinned [.data, .data, .data, .handle, .sentinel, .sentinel, .wider] true :=
  OpenClaim.laidByTextAt_later rfl rfl tie noOwnUnsafe
theorem packedBothUpto_row_tie : Rows.packedBothUptoRow.laidByTextAt .later Tryz.pinned [.data, .data, .data, .handle, .sentinel, .sentinel, .wider] true :=
  OpenClaim.laidByTextAt_later rfl rfl tie noOwnUnsafe
end Go.Proofs.YtfcpapokknfeeaaGreatDoor

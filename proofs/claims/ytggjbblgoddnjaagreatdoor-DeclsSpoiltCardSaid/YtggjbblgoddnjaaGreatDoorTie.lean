/-
  DERIVED. GIVEN WITH THE SEED: THE PROGRAM's TIES (one call each: nine closed facts by the kernel) AND EACH ROW's TIE, after the 31st guide's Derived/Test/Toyas{Tie, Card}.lean. No idea stands in it: it is a product of the set-up. Laid BY PROGRAM, IN A SANDBOX (cutbox-door.mjs). By AI agents, Wed Nov 11 2026. No macro, syntax, notation, axiom, sorry.
-/
import Derived.Test.YtggjbblgoddnjaaGreatDoorRows
import Derived.LaidByTextLater
import Derived.SevenTiedAt
import Derived.LaidSub
import Derived.LaidOnce
namespace Go.Proofs.YtggjbblgoddnjaaGreatDoor
open Go
set_option maxRecDepth 100000
theorem seatTie1 : Tryz.prog.laidByTextLater [("math/bits.deBruijn32tab", Rows.laid_math_bits_deBruijn32tab), ("math/bits.deBruijn64tab", Rows.laid_math_bits_deBruijn64tab), ("internal/strconv.uint64pow10", Rows.laid_internal_strconv_uint64pow10), ("cornice/term.shapes", Rows.laid_cornice_term_shapes), ("strconv.ErrRange", Rows.laid_strconv_ErrRange), ("strconv.ErrSyntax", Rows.laid_strconv_ErrSyntax)] [.data, .data, .data, .widerDeep, .sentinel, .sentinel] true :=
  Program.laidByTextLater_by_one 120 8 257 (by kernel_rfl) (by kernel_rfl) (by kernel_rfl) (by kernel_rfl) (by kernel_rfl) (by kernel_rfl) (fun _ _ => by kernel_rfl)
theorem seatTie2 : Tryz.prog.laidByTextLater [("math/bits.deBruijn32tab", Rows.laid_math_bits_deBruijn32tab), ("math/bits.deBruijn64tab", Rows.laid_math_bits_deBruijn64tab), ("internal/strconv.uint64pow10", Rows.laid_internal_strconv_uint64pow10), ("cornice/term.shapes", Rows.laid_cornice_term_shapes), ("strconv.ErrRange", Rows.laid_strconv_ErrRange), ("strconv.ErrSyntax", Rows.laid_strconv_ErrSyntax), ("cornice/wire.fields", Rows.laid_cornice_wire_fields)] [.data, .data, .data, .widerDeep, .sentinel, .sentinel, .data] true :=
  Program.laidByTextLater_by_one 120 8 257 (by kernel_rfl) (by kernel_rfl) (by kernel_rfl) (by kernel_rfl) (by kernel_rfl) (by kernel_rfl) (fun _ _ => by kernel_rfl)
theorem noOwnUnsafe : Tryz.pinned.checked.prog.headLifts.contains "ownunsafe" = false := by kernel_rfl
theorem tie : Tryz.prog.laidByTextLater [("math/bits.deBruijn32tab", Rows.laid_math_bits_deBruijn32tab), ("math/bits.deBruijn64tab", Rows.laid_math_bits_deBruijn64tab), ("internal/strconv.uint64pow10", Rows.laid_internal_strconv_uint64pow10), ("cornice/term.shapes", Rows.laid_cornice_term_shapes), ("strconv.ErrRange", Rows.laid_strconv_ErrRange), ("strconv.ErrSyntax", Rows.laid_strconv_ErrSyntax)] [.data, .data, .data, .widerDeep, .sentinel, .sentinel] true :=
  Program.laidByTextLater.sub seatTie1 ["math/bits.deBruijn32tab", "math/bits.deBruijn64tab", "internal/strconv.uint64pow10", "cornice/term.shapes", "strconv.ErrRange", "strconv.ErrSyntax"] (by kernel_rfl) (by kernel_rfl)
theorem declsOnes_row_tie : Rows.declsOnesRow.laidByTextAt .later Tryz.pinned [.data, .data, .data, .widerDeep, .sentinel, .sentinel] true :=
  OpenClaim.laidByTextAt_later rfl rfl tie noOwnUnsafe
theorem declsTells_row_tie : Rows.declsTellsRow.laidByTextAt .later Tryz.pinned [.data, .data, .data, .widerDeep, .sentinel, .sentinel] true :=
  OpenClaim.laidByTextAt_later rfl rfl tie noOwnUnsafe
theorem declsBuilds_row_tie : Rows.declsBuildsRow.laidByTextAt .later Tryz.pinned [.data, .data, .data, .widerDeep, .sentinel, .sentinel] true :=
  OpenClaim.laidByTextAt_later rfl rfl tie noOwnUnsafe
theorem tie2 : Tryz.prog.laidByTextLater [("math/bits.deBruijn32tab", Rows.laid_math_bits_deBruijn32tab), ("math/bits.deBruijn64tab", Rows.laid_math_bits_deBruijn64tab), ("internal/strconv.uint64pow10", Rows.laid_internal_strconv_uint64pow10), ("cornice/term.shapes", Rows.laid_cornice_term_shapes), ("strconv.ErrRange", Rows.laid_strconv_ErrRange), ("strconv.ErrSyntax", Rows.laid_strconv_ErrSyntax), ("cornice/wire.fields", Rows.laid_cornice_wire_fields)] [.data, .data, .data, .widerDeep, .sentinel, .sentinel, .data] true :=
  Program.laidByTextLater.sub seatTie2 ["math/bits.deBruijn32tab", "math/bits.deBruijn64tab", "internal/strconv.uint64pow10", "cornice/term.shapes", "strconv.ErrRange", "strconv.ErrSyntax", "cornice/wire.fields"] (by kernel_rfl) (by kernel_rfl)
theorem declsEncodes_row_tie : Rows.declsEncodesRow.laidByTextAt .later Tryz.pinned [.data, .data, .data, .widerDeep, .sentinel, .sentinel, .data] true :=
  OpenClaim.laidByTextAt_later rfl rfl tie2 noOwnUnsafe
theorem declsSpoilt_row_tie : Rows.declsSpoiltRow.laidByTextAt .later Tryz.pinned [.data, .data, .data, .widerDeep, .sentinel, .sentinel, .data] true :=
  OpenClaim.laidByTextAt_later rfl rfl tie2 noOwnUnsafe
theorem declsOnesUpto_row_tie : Rows.declsOnesUptoRow.laidByTextAt .later Tryz.pinned [.data, .data, .data, .widerDeep, .sentinel, .sentinel] true :=
  OpenClaim.laidByTextAt_later rfl rfl tie noOwnUnsafe
theorem declsTellsUpto_row_tie : Rows.declsTellsUptoRow.laidByTextAt .later Tryz.pinned [.data, .data, .data, .widerDeep, .sentinel, .sentinel] true :=
  OpenClaim.laidByTextAt_later rfl rfl tie noOwnUnsafe
theorem declsBuildsUpto_row_tie : Rows.declsBuildsUptoRow.laidByTextAt .later Tryz.pinned [.data, .data, .data, .widerDeep, .sentinel, .sentinel] true :=
  OpenClaim.laidByTextAt_later rfl rfl tie noOwnUnsafe
theorem declsEncodesUpto_row_tie : Rows.declsEncodesUptoRow.laidByTextAt .later Tryz.pinned [.data, .data, .data, .widerDeep, .sentinel, .sentinel, .data] true :=
  OpenClaim.laidByTextAt_later rfl rfl tie2 noOwnUnsafe
theorem declsSpoiltUpto_row_tie : Rows.declsSpoiltUptoRow.laidByTextAt .later Tryz.pinned [.data, .data, .data, .widerDeep, .sentinel, .sentinel, .data] true :=
  OpenClaim.laidByTextAt_later rfl rfl tie2 noOwnUnsafe
end Go.Proofs.YtggjbblgoddnjaaGreatDoor

/-
  DERIVED. GIVEN WITH THE SEED: THE PROGRAM's TIES (one call each: nine closed facts by the kernel) AND EACH ROW's TIE, after the 31st guide's Derived/Test/Toyas{Tie, Card}.lean. No idea stands in it: it is a product of the set-up. Laid BY PROGRAM, IN A SANDBOX (cutbox-door.mjs). By AI agents, Wed Nov 11 2026. No macro, syntax, notation, axiom, sorry.
-/
import Derived.Test.YtmfcgihgdhfalaaGreatDoorRows
import Derived.LaidByTextLater
import Derived.SevenTiedAt
import Derived.LaidSub
import Derived.LaidOnce
namespace Go.Proofs.YtmfcgihgdhfalaaGreatDoor
open Go
set_option maxRecDepth 100000
theorem seatTie1 : Tryz.prog.laidByTextLater [("cofferdam/cofferdamref05.first", Rows.laid_cofferdam_cofferdamref05_first), ("cofferdam/cofferdamref05.round", Rows.laid_cofferdam_cofferdamref05_round), ("math/bits.deBruijn32tab", Rows.laid_math_bits_deBruijn32tab), ("math/bits.deBruijn64tab", Rows.laid_math_bits_deBruijn64tab), ("cofferdam/layout.sizes", Rows.laid_cofferdam_layout_sizes), ("cofferdam/sha.first", Rows.laid_cofferdam_sha_first), ("cofferdam/sha.round", Rows.laid_cofferdam_sha_round)] [.data, .data, .data, .data, .widerDeep, .data, .data] true :=
  Program.laidByTextLater_by_one 44 8 65 (by kernel_rfl) (by kernel_rfl) (by kernel_rfl) (by kernel_rfl) (by kernel_rfl) (by kernel_rfl) (fun _ _ => by kernel_rfl)
theorem noOwnUnsafe : Tryz.pinned.checked.prog.headLifts.contains "ownunsafe" = false := by kernel_rfl
theorem tie : Tryz.prog.laidByTextLater [("cofferdam/cofferdamref05.first", Rows.laid_cofferdam_cofferdamref05_first), ("cofferdam/cofferdamref05.round", Rows.laid_cofferdam_cofferdamref05_round), ("math/bits.deBruijn32tab", Rows.laid_math_bits_deBruijn32tab), ("math/bits.deBruijn64tab", Rows.laid_math_bits_deBruijn64tab), ("cofferdam/layout.sizes", Rows.laid_cofferdam_layout_sizes), ("cofferdam/sha.first", Rows.laid_cofferdam_sha_first), ("cofferdam/sha.round", Rows.laid_cofferdam_sha_round)] [.data, .data, .data, .data, .widerDeep, .data, .data] true :=
  Program.laidByTextLater.sub seatTie1 ["cofferdam/cofferdamref05.first", "cofferdam/cofferdamref05.round", "math/bits.deBruijn32tab", "math/bits.deBruijn64tab", "cofferdam/layout.sizes", "cofferdam/sha.first", "cofferdam/sha.round"] (by kernel_rfl) (by kernel_rfl)
theorem commitNil_row_tie : Rows.commitNilRow.laidByTextAt .later Tryz.pinned [.data, .data, .data, .data, .widerDeep, .data, .data] true :=
  OpenClaim.laidByTextAt_later rfl rfl tie noOwnUnsafe
theorem commitFormats_row_tie : Rows.commitFormatsRow.laidByTextAt .later Tryz.pinned [.data, .data, .data, .data, .widerDeep, .data, .data] true :=
  OpenClaim.laidByTextAt_later rfl rfl tie noOwnUnsafe
theorem commitPlays_row_tie : Rows.commitPlaysRow.laidByTextAt .later Tryz.pinned [.data, .data, .data, .data, .widerDeep, .data, .data] true :=
  OpenClaim.laidByTextAt_later rfl rfl tie noOwnUnsafe
theorem commitRefuses_row_tie : Rows.commitRefusesRow.laidByTextAt .later Tryz.pinned [.data, .data, .data, .data, .widerDeep, .data, .data] true :=
  OpenClaim.laidByTextAt_later rfl rfl tie noOwnUnsafe
theorem commitCrash_row_tie : Rows.commitCrashRow.laidByTextAt .later Tryz.pinned [.data, .data, .data, .data, .widerDeep, .data, .data] true :=
  OpenClaim.laidByTextAt_later rfl rfl tie noOwnUnsafe
theorem commitNilUpto_row_tie : Rows.commitNilUptoRow.laidByTextAt .later Tryz.pinned [.data, .data, .data, .data, .widerDeep, .data, .data] true :=
  OpenClaim.laidByTextAt_later rfl rfl tie noOwnUnsafe
theorem commitFormatsUpto_row_tie : Rows.commitFormatsUptoRow.laidByTextAt .later Tryz.pinned [.data, .data, .data, .data, .widerDeep, .data, .data] true :=
  OpenClaim.laidByTextAt_later rfl rfl tie noOwnUnsafe
theorem commitPlaysUpto_row_tie : Rows.commitPlaysUptoRow.laidByTextAt .later Tryz.pinned [.data, .data, .data, .data, .widerDeep, .data, .data] true :=
  OpenClaim.laidByTextAt_later rfl rfl tie noOwnUnsafe
theorem commitRefusesUpto_row_tie : Rows.commitRefusesUptoRow.laidByTextAt .later Tryz.pinned [.data, .data, .data, .data, .widerDeep, .data, .data] true :=
  OpenClaim.laidByTextAt_later rfl rfl tie noOwnUnsafe
theorem commitCrashUpto_row_tie : Rows.commitCrashUptoRow.laidByTextAt .later Tryz.pinned [.data, .data, .data, .data, .widerDeep, .data, .data] true :=
  OpenClaim.laidByTextAt_later rfl rfl tie noOwnUnsafe
end Go.Proofs.YtmfcgihgdhfalaaGreatDoor

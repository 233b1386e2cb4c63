/-
  DERIVED. GIVEN WITH THE SEED: THE PROGRAM's TIES (one call each: nine closed facts by the kernel) AND EACH ROW's TIE, after the 31st guide's Derived/Test/Toyas{Tie, Card}.lean. No idea stands in it: it is a product of the set-up. Laid BY PROGRAM, IN A SANDBOX (cutbox-door.mjs). By AI agents, Wed Nov 11 2026. No macro, syntax, notation, axiom, sorry.
-/
import Derived.Test.YthfalocligkamaaGreatDoorRows
import Derived.LaidByTextLater
import Derived.SevenTiedAt
import Derived.LaidSub
import Derived.LaidOnce
namespace Go.Proofs.YthfalocligkamaaGreatDoor
open Go
set_option maxRecDepth 100000
theorem seatTie1 : Tryz.prog.laidByTextLater [("mulligan/state.any", Rows.laid_mulligan_state_any), ("mulligan/state.flag", Rows.laid_mulligan_state_flag), ("mulligan/state.resting", Rows.laid_mulligan_state_resting), ("mulligan/emit.resting", Rows.laid_mulligan_emit_resting)] [.data, .data, .widerDeep, .data] true :=
  Program.laidByTextLater_by_one 29 8 10 (by kernel_rfl) (by kernel_rfl) (by kernel_rfl) (by kernel_rfl) (by kernel_rfl) (by kernel_rfl) (fun _ _ => by kernel_rfl)
theorem noOwnUnsafe : Tryz.pinned.checked.prog.headLifts.contains "ownunsafe" = false := by kernel_rfl
theorem tie : Tryz.prog.laidByTextLater [("mulligan/state.any", Rows.laid_mulligan_state_any), ("mulligan/state.flag", Rows.laid_mulligan_state_flag), ("mulligan/state.resting", Rows.laid_mulligan_state_resting), ("mulligan/emit.resting", Rows.laid_mulligan_emit_resting)] [.data, .data, .widerDeep, .data] true :=
  Program.laidByTextLater.sub seatTie1 ["mulligan/state.any", "mulligan/state.flag", "mulligan/state.resting", "mulligan/emit.resting"] (by kernel_rfl) (by kernel_rfl)
theorem execAsks_row_tie : Rows.execAsksRow.laidByTextAt .later Tryz.pinned [.data, .data, .widerDeep, .data] true :=
  OpenClaim.laidByTextAt_later rfl rfl tie noOwnUnsafe
theorem execRight_row_tie : Rows.execRightRow.laidByTextAt .later Tryz.pinned [.data, .data, .widerDeep, .data] true :=
  OpenClaim.laidByTextAt_later rfl rfl tie noOwnUnsafe
theorem execSeq_row_tie : Rows.execSeqRow.laidByTextAt .later Tryz.pinned [.data, .data, .widerDeep, .data] true :=
  OpenClaim.laidByTextAt_later rfl rfl tie noOwnUnsafe
theorem execAsksUpto_row_tie : Rows.execAsksUptoRow.laidByTextAt .later Tryz.pinned [.data, .data, .widerDeep, .data] true :=
  OpenClaim.laidByTextAt_later rfl rfl tie noOwnUnsafe
theorem execRightUpto_row_tie : Rows.execRightUptoRow.laidByTextAt .later Tryz.pinned [.data, .data, .widerDeep, .data] true :=
  OpenClaim.laidByTextAt_later rfl rfl tie noOwnUnsafe
theorem execSeqUpto_row_tie : Rows.execSeqUptoRow.laidByTextAt .later Tryz.pinned [.data, .data, .widerDeep, .data] true :=
  OpenClaim.laidByTextAt_later rfl rfl tie noOwnUnsafe
end Go.Proofs.YthfalocligkamaaGreatDoor

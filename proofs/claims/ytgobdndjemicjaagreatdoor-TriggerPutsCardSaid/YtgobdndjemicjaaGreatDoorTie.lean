/-
  DERIVED. GIVEN WITH THE SEED: THE PROGRAM's TIES (one call each: nine closed facts by the kernel) AND EACH ROW's TIE, after the 31st guide's Derived/Test/Toyas{Tie, Card}.lean. No idea stands in it: it is a product of the set-up. Laid BY PROGRAM, IN A SANDBOX (cutbox-door.mjs). By AI agents, Wed Nov 11 2026. No macro, syntax, notation, axiom, sorry.
-/
import Derived.Test.YtgobdndjemicjaaGreatDoorRows
import Derived.LaidByTextLater
import Derived.SevenTiedAt
import Derived.LaidSub
import Derived.LaidOnce
namespace Go.Proofs.YtgobdndjemicjaaGreatDoor
open Go
set_option maxRecDepth 100000
theorem seatTie1 : Tryz.prog.laidByTextLater [("mulligan/state.any", Rows.laid_mulligan_state_any), ("mulligan/state.flag", Rows.laid_mulligan_state_flag), ("mulligan/state.resting", Rows.laid_mulligan_state_resting), ("mulligan/emit.resting", Rows.laid_mulligan_emit_resting), ("mulligan/turn.names", Rows.laid_mulligan_turn_names)] [.data, .data, .widerDeep, .data, .data] true :=
  Program.laidByTextLater_by_one 34 8 10 (by kernel_rfl) (by kernel_rfl) (by kernel_rfl) (by kernel_rfl) (by kernel_rfl) (by kernel_rfl) (fun _ _ => by kernel_rfl)
theorem noOwnUnsafe : Tryz.pinned.checked.prog.headLifts.contains "ownunsafe" = false := by kernel_rfl
theorem tie : Tryz.prog.laidByTextLater [("mulligan/state.any", Rows.laid_mulligan_state_any), ("mulligan/state.flag", Rows.laid_mulligan_state_flag), ("mulligan/state.resting", Rows.laid_mulligan_state_resting), ("mulligan/emit.resting", Rows.laid_mulligan_emit_resting)] [.data, .data, .widerDeep, .data] true :=
  Program.laidByTextLater.sub seatTie1 ["mulligan/state.any", "mulligan/state.flag", "mulligan/state.resting", "mulligan/emit.resting"] (by kernel_rfl) (by kernel_rfl)
theorem triggerOf_row_tie : Rows.triggerOfRow.laidByTextAt .later Tryz.pinned [.data, .data, .widerDeep, .data] true :=
  OpenClaim.laidByTextAt_later rfl rfl tie noOwnUnsafe
theorem triggerEmpty_row_tie : Rows.triggerEmptyRow.laidByTextAt .later Tryz.pinned [.data, .data, .widerDeep, .data] true :=
  OpenClaim.laidByTextAt_later rfl rfl tie noOwnUnsafe
theorem triggerPuts_row_tie : Rows.triggerPutsRow.laidByTextAt .later Tryz.pinned [.data, .data, .widerDeep, .data] true :=
  OpenClaim.laidByTextAt_later rfl rfl tie noOwnUnsafe
theorem tie2 : Tryz.prog.laidByTextLater [("mulligan/state.any", Rows.laid_mulligan_state_any), ("mulligan/state.flag", Rows.laid_mulligan_state_flag), ("mulligan/state.resting", Rows.laid_mulligan_state_resting), ("mulligan/emit.resting", Rows.laid_mulligan_emit_resting), ("mulligan/turn.names", Rows.laid_mulligan_turn_names)] [.data, .data, .widerDeep, .data, .data] true :=
  Program.laidByTextLater.sub seatTie1 ["mulligan/state.any", "mulligan/state.flag", "mulligan/state.resting", "mulligan/emit.resting", "mulligan/turn.names"] (by kernel_rfl) (by kernel_rfl)
theorem turnKeeps_row_tie : Rows.turnKeepsRow.laidByTextAt .later Tryz.pinned [.data, .data, .widerDeep, .data, .data] true :=
  OpenClaim.laidByTextAt_later rfl rfl tie2 noOwnUnsafe
theorem turnGoes_row_tie : Rows.turnGoesRow.laidByTextAt .later Tryz.pinned [.data, .data, .widerDeep, .data, .data] true :=
  OpenClaim.laidByTextAt_later rfl rfl tie2 noOwnUnsafe
theorem triggerOfUpto_row_tie : Rows.triggerOfUptoRow.laidByTextAt .later Tryz.pinned [.data, .data, .widerDeep, .data] true :=
  OpenClaim.laidByTextAt_later rfl rfl tie noOwnUnsafe
theorem turnKeepsUpto_row_tie : Rows.turnKeepsUptoRow.laidByTextAt .later Tryz.pinned [.data, .data, .widerDeep, .data, .data] true :=
  OpenClaim.laidByTextAt_later rfl rfl tie2 noOwnUnsafe
theorem turnGoesUpto_row_tie : Rows.turnGoesUptoRow.laidByTextAt .later Tryz.pinned [.data, .data, .widerDeep, .data, .data] true :=
  OpenClaim.laidByTextAt_later rfl rfl tie2 noOwnUnsafe
theorem triggerEmptyUpto_row_tie : Rows.triggerEmptyUptoRow.laidByTextAt .later Tryz.pinned [.data, .data, .widerDeep, .data] true :=
  OpenClaim.laidByTextAt_later rfl rfl tie noOwnUnsafe
theorem triggerPutsUpto_row_tie : Rows.triggerPutsUptoRow.laidByTextAt .later Tryz.pinned [.data, .data, .widerDeep, .data] true :=
  OpenClaim.laidByTextAt_later rfl rfl tie noOwnUnsafe
end Go.Proofs.YtgobdndjemicjaaGreatDoor

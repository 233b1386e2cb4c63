/-
  DERIVED. GIVEN WITH THE SEED: THE PROGRAM's TIES (one call each: nine closed facts by the kernel) AND EACH ROW's TIE, after the 31st guide's Derived/Test/Toyas{Tie, Card}.lean. No idea stands in it: it is a product of the set-up. Laid BY PROGRAM, IN A SANDBOX (cutbox-door.mjs). By AI agents, Wed Nov 11 2026. No macro, syntax, notation, axiom, sorry.
-/
import Derived.Test.YtmmkmhpchoelkaaDoorRows
import Derived.LaidByTextLater
import Derived.SevenTiedAt
import Derived.LaidSub
import Derived.LaidOnce
namespace Go.Proofs.YtmmkmhpchoelkaaDoor
open Go
set_option maxRecDepth 100000
theorem seatTie1 : Tryd.prog.laidByTextLater [("mulligan/state.any", Rows.laid_mulligan_state_any), ("mulligan/state.flag", Rows.laid_mulligan_state_flag), ("mulligan/state.resting", Rows.laid_mulligan_state_resting)] [.data, .data, .widerDeep] true :=
  Program.laidByTextLater_by_one 24 8 10 (by kernel_rfl) (by kernel_rfl) (by kernel_rfl) (by kernel_rfl) (by kernel_rfl) (by kernel_rfl) (fun _ _ => by kernel_rfl)
theorem noOwnUnsafe : Tryd.pinned.checked.prog.headLifts.contains "ownunsafe" = false := by kernel_rfl
theorem tie : Tryd.prog.laidByTextLater [("mulligan/state.any", Rows.laid_mulligan_state_any), ("mulligan/state.flag", Rows.laid_mulligan_state_flag), ("mulligan/state.resting", Rows.laid_mulligan_state_resting)] [.data, .data, .widerDeep] true :=
  Program.laidByTextLater.sub seatTie1 ["mulligan/state.any", "mulligan/state.flag", "mulligan/state.resting"] (by kernel_rfl) (by kernel_rfl)
theorem judgeKeeps_row_tie : Rows.judgeKeepsRow.laidByTextAt .later Tryd.pinned [.data, .data, .widerDeep] true :=
  OpenClaim.laidByTextAt_later rfl rfl tie noOwnUnsafe
theorem combatSums_row_tie : Rows.combatSumsRow.laidByTextAt .later Tryd.pinned [.data, .data, .widerDeep] true :=
  OpenClaim.laidByTextAt_later rfl rfl tie noOwnUnsafe
theorem judgeKeepsUpto_row_tie : Rows.judgeKeepsUptoRow.laidByTextAt .later Tryd.pinned [.data, .data, .widerDeep] true :=
  OpenClaim.laidByTextAt_later rfl rfl tie noOwnUnsafe
theorem combatSumsUpto_row_tie : Rows.combatSumsUptoRow.laidByTextAt .later Tryd.pinned [.data, .data, .widerDeep] true :=
  OpenClaim.laidByTextAt_later rfl rfl tie noOwnUnsafe
end Go.Proofs.YtmmkmhpchoelkaaDoor

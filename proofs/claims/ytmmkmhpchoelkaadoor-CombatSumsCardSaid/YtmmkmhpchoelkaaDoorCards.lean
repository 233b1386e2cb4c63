/-
  DERIVED. GIVEN WITH THE SEED: THE CARDS: each row of YtmmkmhpchoelkaaDoorRows.lean that lists a variable, with what it lists TIED to the program's text (the seventh form; the later family's looks); each row that meets fmt, with fmt's text TOLD by the authors' own Lean function (tested against real Go, not proved from fmt's source: count such statements apart). THE CARD IS WHAT COUNTS. Prove the row's statement (the work); the ties are given (YtmmkmhpchoelkaaDoorTie.lean); close each card by the builder's one call (the guide's Derived/Test/ToyasCard.lean, 'card_holds'). Laid BY PROGRAM, IN A SANDBOX (cutbox-door.mjs). By AI agents, Wed Nov 11 2026. No macro, syntax, notation, axiom, sorry.
-/
import Derived.Test.YtmmkmhpchoelkaaDoorRows
import GoSem.ClaimSeven
namespace Go.Proofs.YtmmkmhpchoelkaaDoor
namespace Rows

/-- THE TIED CARD OF 'mulliganlaw32.JudgeKeeps'. -/
def judgeKeepsCard : Claim7 := { stood := { row := judgeKeepsRow, standIns := [], harness := (true, "3b19ac37d81f1dffb0481e9b1bd272e36bdc1ebf23938815ad347293f72d2180"), looks := false }, kinds := [], alts := [], laidByText := true, laidKinds := [.data, .data, .widerDeep], laidTests := true, laidLooks := .later }
def JudgeKeepsCardSaid : Prop := Claim7.holds Tryd.pinned (.plain (OpenSpec.ofChange judgeKeepsSpec)) judgeKeepsCard

/-- THE TIED CARD OF 'mulliganlaw24.CombatSums'. -/
def combatSumsCard : Claim7 := { stood := { row := combatSumsRow, standIns := [], harness := (true, "3b19ac37d81f1dffb0481e9b1bd272e36bdc1ebf23938815ad347293f72d2180"), looks := false }, kinds := [], alts := [], laidByText := true, laidKinds := [.data, .data, .widerDeep], laidTests := true, laidLooks := .later }
def CombatSumsCardSaid : Prop := Claim7.holds Tryd.pinned (.plain (OpenSpec.ofChange combatSumsSpec)) combatSumsCard

/-- THE SECOND FORM's CARD OF 'mulliganlaw32.JudgeKeeps'. -/
def judgeKeepsUptoCard : Claim7 := { stood := { row := judgeKeepsUptoRow, standIns := [], harness := (true, "3b19ac37d81f1dffb0481e9b1bd272e36bdc1ebf23938815ad347293f72d2180"), looks := false }, kinds := [], alts := [], laidByText := true, laidKinds := [.data, .data, .widerDeep], laidTests := true, laidLooks := .later }
def JudgeKeepsUptoCardSaid : Prop := Claim7.holds Tryd.pinned (.plain (OpenSpec.upto judgeKeepsSpec)) judgeKeepsUptoCard

/-- THE SECOND FORM's CARD OF 'mulliganlaw24.CombatSums'. -/
def combatSumsUptoCard : Claim7 := { stood := { row := combatSumsUptoRow, standIns := [], harness := (true, "3b19ac37d81f1dffb0481e9b1bd272e36bdc1ebf23938815ad347293f72d2180"), looks := false }, kinds := [], alts := [], laidByText := true, laidKinds := [.data, .data, .widerDeep], laidTests := true, laidLooks := .later }
def CombatSumsUptoCardSaid : Prop := Claim7.holds Tryd.pinned (.plain (OpenSpec.upto combatSumsSpec)) combatSumsUptoCard
end Rows
end Go.Proofs.YtmmkmhpchoelkaaDoor

/-
  DERIVED. GIVEN WITH THE SEED: THE CARDS: each row of YtnjclibennadcaaGreatDoorRows.lean that lists a variable, with what it lists TIED to the program's text (the seventh form; the later family's looks); each row that meets fmt, with fmt's text TOLD by the authors' own Lean function (tested against real Go, not proved from fmt's source: count such statements apart). THE CARD IS WHAT COUNTS. Prove the row's statement (the work); the ties are given (YtnjclibennadcaaGreatDoorTie.lean); close each card by the builder's one call (the guide's Derived/Test/ToyasCard.lean, 'card_holds'). Laid BY PROGRAM, IN A SANDBOX (cutbox-door.mjs). By AI agents, Wed Nov 11 2026. No macro, syntax, notation, axiom, sorry.
-/
import Derived.Test.YtnjclibennadcaaGreatDoorRows
import GoSem.ClaimSeven
namespace Go.Proofs.YtnjclibennadcaaGreatDoor
namespace Rows

/-- THE TIED CARD OF 'mulliganlaw20.CheckRuns'. -/
def checkRunsCard : Claim7 := { stood := { row := checkRunsRow, standIns := [], harness := (true, "1b6453b7da38b0824abd26a74255809f06dc9792d477250d46d78bb8069a280b"), looks := true }, kinds := [], alts := [], laidByText := true, laidKinds := [.data, .data, .widerDeep, .data], laidTests := true, laidLooks := .later }
def CheckRunsCardSaid : Prop := Claim7.holds Tryz.pinned (.plain (OpenSpec.ofChange checkRunsSpec)) checkRunsCard

/-- THE TIED CARD OF 'mulliganlaw24.CombatStrikes'. -/
def combatStrikesCard : Claim7 := { stood := { row := combatStrikesRow, standIns := [], harness := (true, "1b6453b7da38b0824abd26a74255809f06dc9792d477250d46d78bb8069a280b"), looks := true }, kinds := [], alts := [], laidByText := true, laidKinds := [.data, .data, .widerDeep], laidTests := true, laidLooks := .later }
def CombatStrikesCardSaid : Prop := Claim7.holds Tryz.pinned (.plain (OpenSpec.ofChange combatStrikesSpec)) combatStrikesCard

/-- THE TIED CARD OF 'mulliganlaw24.CombatDeclares'. -/
def combatDeclaresCard : Claim7 := { stood := { row := combatDeclaresRow, standIns := [], harness := (true, "1b6453b7da38b0824abd26a74255809f06dc9792d477250d46d78bb8069a280b"), looks := true }, kinds := [], alts := [], laidByText := true, laidKinds := [.data, .data, .widerDeep], laidTests := true, laidLooks := .later }
def CombatDeclaresCardSaid : Prop := Claim7.holds Tryz.pinned (.plain (OpenSpec.ofChange combatDeclaresSpec)) combatDeclaresCard

/-- THE TIED CARD OF 'mulliganlaw24.CombatKeeps'. -/
def combatKeepsCard : Claim7 := { stood := { row := combatKeepsRow, standIns := [], harness := (true, "1b6453b7da38b0824abd26a74255809f06dc9792d477250d46d78bb8069a280b"), looks := true }, kinds := [], alts := [], laidByText := true, laidKinds := [.data, .data, .widerDeep], laidTests := true, laidLooks := .later }
def CombatKeepsCardSaid : Prop := Claim7.holds Tryz.pinned (.plain (OpenSpec.ofChange combatKeepsSpec)) combatKeepsCard

/-- THE TIED CARD OF 'mulliganlaw21.TriggerOf'. -/
def triggerOfCard : Claim7 := { stood := { row := triggerOfRow, standIns := [], harness := (true, "1b6453b7da38b0824abd26a74255809f06dc9792d477250d46d78bb8069a280b"), looks := true }, kinds := [], alts := [], laidByText := true, laidKinds := [.data, .data, .widerDeep, .data], laidTests := true, laidLooks := .later }
def TriggerOfCardSaid : Prop := Claim7.holds Tryz.pinned (.plain (OpenSpec.ofChange triggerOfSpec)) triggerOfCard

/-- THE TIED CARD OF 'mulliganlaw19.EmitRight'. -/
def emitRightCard : Claim7 := { stood := { row := emitRightRow, standIns := [], harness := (true, "1b6453b7da38b0824abd26a74255809f06dc9792d477250d46d78bb8069a280b"), looks := true }, kinds := [], alts := [], laidByText := true, laidKinds := [.data, .data, .widerDeep, .data], laidTests := true, laidLooks := .later }
def EmitRightCardSaid : Prop := Claim7.holds Tryz.pinned (.plain (OpenSpec.ofChange emitRightSpec)) emitRightCard

/-- THE TIED CARD OF 'mulliganlaw19.EmitRuns'. -/
def emitRunsCard : Claim7 := { stood := { row := emitRunsRow, standIns := [], harness := (true, "1b6453b7da38b0824abd26a74255809f06dc9792d477250d46d78bb8069a280b"), looks := true }, kinds := [], alts := [], laidByText := true, laidKinds := [.data, .data, .widerDeep, .data], laidTests := true, laidLooks := .later }
def EmitRunsCardSaid : Prop := Claim7.holds Tryz.pinned (.plain (OpenSpec.ofChange emitRunsSpec)) emitRunsCard

/-- THE TIED CARD OF 'mulliganlaw19.EmitNil'. -/
def emitNilCard : Claim7 := { stood := { row := emitNilRow, standIns := [], harness := (true, "1b6453b7da38b0824abd26a74255809f06dc9792d477250d46d78bb8069a280b"), looks := true }, kinds := [], alts := [], laidByText := true, laidKinds := [.data, .data, .widerDeep, .data], laidTests := true, laidLooks := .later }
def EmitNilCardSaid : Prop := Claim7.holds Tryz.pinned (.plain (OpenSpec.ofChange emitNilSpec)) emitNilCard

/-- THE SECOND FORM's CARD OF 'mulliganlaw20.CheckRuns'. -/
def checkRunsUptoCard : Claim7 := { stood := { row := checkRunsUptoRow, standIns := [], harness := (true, "1b6453b7da38b0824abd26a74255809f06dc9792d477250d46d78bb8069a280b"), looks := true }, kinds := [], alts := [], laidByText := true, laidKinds := [.data, .data, .widerDeep, .data], laidTests := true, laidLooks := .later }
def CheckRunsUptoCardSaid : Prop := Claim7.holds Tryz.pinned (.plain (OpenSpec.upto checkRunsSpec)) checkRunsUptoCard

/-- THE SECOND FORM's CARD OF 'mulliganlaw24.CombatStrikes'. -/
def combatStrikesUptoCard : Claim7 := { stood := { row := combatStrikesUptoRow, standIns := [], harness := (true, "1b6453b7da38b0824abd26a74255809f06dc9792d477250d46d78bb8069a280b"), looks := true }, kinds := [], alts := [], laidByText := true, laidKinds := [.data, .data, .widerDeep], laidTests := true, laidLooks := .later }
def CombatStrikesUptoCardSaid : Prop := Claim7.holds Tryz.pinned (.plain (OpenSpec.upto combatStrikesSpec)) combatStrikesUptoCard

/-- THE SECOND FORM's CARD OF 'mulliganlaw24.CombatDeclares'. -/
def combatDeclaresUptoCard : Claim7 := { stood := { row := combatDeclaresUptoRow, standIns := [], harness := (true, "1b6453b7da38b0824abd26a74255809f06dc9792d477250d46d78bb8069a280b"), looks := true }, kinds := [], alts := [], laidByText := true, laidKinds := [.data, .data, .widerDeep], laidTests := true, laidLooks := .later }
def CombatDeclaresUptoCardSaid : Prop := Claim7.holds Tryz.pinned (.plain (OpenSpec.upto combatDeclaresSpec)) combatDeclaresUptoCard

/-- THE SECOND FORM's CARD OF 'mulliganlaw24.CombatKeeps'. -/
def combatKeepsUptoCard : Claim7 := { stood := { row := combatKeepsUptoRow, standIns := [], harness := (true, "1b6453b7da38b0824abd26a74255809f06dc9792d477250d46d78bb8069a280b"), looks := true }, kinds := [], alts := [], laidByText := true, laidKinds := [.data, .data, .widerDeep], laidTests := true, laidLooks := .later }
def CombatKeepsUptoCardSaid : Prop := Claim7.holds Tryz.pinned (.plain (OpenSpec.upto combatKeepsSpec)) combatKeepsUptoCard

/-- THE SECOND FORM's CARD OF 'mulliganlaw21.TriggerOf'. -/
def triggerOfUptoCard : Claim7 := { stood := { row := triggerOfUptoRow, standIns := [], harness := (true, "1b6453b7da38b0824abd26a74255809f06dc9792d477250d46d78bb8069a280b"), looks := true }, kinds := [], alts := [], laidByText := true, laidKinds := [.data, .data, .widerDeep, .data], laidTests := true, laidLooks := .later }
def TriggerOfUptoCardSaid : Prop := Claim7.holds Tryz.pinned (.plain (OpenSpec.upto triggerOfSpec)) triggerOfUptoCard

/-- THE SECOND FORM's CARD OF 'mulliganlaw19.EmitRight'. -/
def emitRightUptoCard : Claim7 := { stood := { row := emitRightUptoRow, standIns := [], harness := (true, "1b6453b7da38b0824abd26a74255809f06dc9792d477250d46d78bb8069a280b"), looks := true }, kinds := [], alts := [], laidByText := true, laidKinds := [.data, .data, .widerDeep, .data], laidTests := true, laidLooks := .later }
def EmitRightUptoCardSaid : Prop := Claim7.holds Tryz.pinned (.plain (OpenSpec.upto emitRightSpec)) emitRightUptoCard

/-- THE SECOND FORM's CARD OF 'mulliganlaw19.EmitRuns'. -/
def emitRunsUptoCard : Claim7 := { stood := { row := emitRunsUptoRow, standIns := [], harness := (true, "1b6453b7da38b0824abd26a74255809f06dc9792d477250d46d78bb8069a280b"), looks := true }, kinds := [], alts := [], laidByText := true, laidKinds := [.data, .data, .widerDeep, .data], laidTests := true, laidLooks := .later }
def EmitRunsUptoCardSaid : Prop := Claim7.holds Tryz.pinned (.plain (OpenSpec.upto emitRunsSpec)) emitRunsUptoCard

/-- THE SECOND FORM's CARD OF 'mulliganlaw19.EmitNil'. -/
def emitNilUptoCard : Claim7 := { stood := { row := emitNilUptoRow, standIns := [], harness := (true, "1b6453b7da38b0824abd26a74255809f06dc9792d477250d46d78bb8069a280b"), looks := true }, kinds := [], alts := [], laidByText := true, laidKinds := [.data, .data, .widerDeep, .data], laidTests := true, laidLooks := .later }
def EmitNilUptoCardSaid : Prop := Claim7.holds Tryz.pinned (.plain (OpenSpec.upto emitNilSpec)) emitNilUptoCard
end Rows
end Go.Proofs.YtnjclibennadcaaGreatDoor

/-
  DERIVED. GIVEN WITH THE SEED: THE CARDS: each row of YtkbghjfagnjpoaaGreatDoorRows.lean that lists a variable, with what it lists TIED to the program's text (the seventh form; the later family's looks); each row that meets fmt, with fmt's text TOLD by the authors' own Lean function (tested against real Go, not proved from fmt's source: count such statements apart). THE CARD IS WHAT COUNTS. Prove the row's statement (the work); the ties are given (YtkbghjfagnjpoaaGreatDoorTie.lean); close each card by the builder's one call (the guide's Derived/Test/ToyasCard.lean, 'card_holds'). Laid BY PROGRAM, IN A SANDBOX (cutbox-door.mjs). By AI agents, Wed Nov 11 2026. No macro, syntax, notation, axiom, sorry.
-/
import Derived.Test.YtkbghjfagnjpoaaGreatDoorRows
import GoSem.ClaimSeven
namespace Go.Proofs.YtkbghjfagnjpoaaGreatDoor
namespace Rows

/-- THE TIED CARD OF 'mulliganlaw21.TriggerOf'. -/
def triggerOfCard : Claim7 := { stood := { row := triggerOfRow, standIns := [], harness := (true, "d6cc13d75eb908e5cbaaf83d8e65ea09c50215341d85eac0f7ce983ab2d6a39e"), looks := false }, kinds := [], alts := [], laidByText := true, laidKinds := [.data, .data, .widerDeep, .data], laidTests := true, laidLooks := .later }
def TriggerOfCardSaid : Prop := Claim7.holds Tryz.pinned (.plain (OpenSpec.ofChange triggerOfSpec)) triggerOfCard

/-- THE TIED CARD OF 'mulliganlaw19.EmitRight'. -/
def emitRightCard : Claim7 := { stood := { row := emitRightRow, standIns := [], harness := (true, "d6cc13d75eb908e5cbaaf83d8e65ea09c50215341d85eac0f7ce983ab2d6a39e"), looks := false }, kinds := [], alts := [], laidByText := true, laidKinds := [.data, .data, .widerDeep, .data], laidTests := true, laidLooks := .later }
def EmitRightCardSaid : Prop := Claim7.holds Tryz.pinned (.plain (OpenSpec.ofChange emitRightSpec)) emitRightCard

/-- THE TIED CARD OF 'mulliganlaw19.EmitRuns'. -/
def emitRunsCard : Claim7 := { stood := { row := emitRunsRow, standIns := [], harness := (true, "d6cc13d75eb908e5cbaaf83d8e65ea09c50215341d85eac0f7ce983ab2d6a39e"), looks := false }, kinds := [], alts := [], laidByText := true, laidKinds := [.data, .data, .widerDeep, .data], laidTests := true, laidLooks := .later }
def EmitRunsCardSaid : Prop := Claim7.holds Tryz.pinned (.plain (OpenSpec.ofChange emitRunsSpec)) emitRunsCard

/-- THE SECOND FORM's CARD OF 'mulliganlaw21.TriggerOf'. -/
def triggerOfUptoCard : Claim7 := { stood := { row := triggerOfUptoRow, standIns := [], harness := (true, "d6cc13d75eb908e5cbaaf83d8e65ea09c50215341d85eac0f7ce983ab2d6a39e"), looks := false }, kinds := [], alts := [], laidByText := true, laidKinds := [.data, .data, .widerDeep, .data], laidTests := true, laidLooks := .later }
def TriggerOfUptoCardSaid : Prop := Claim7.holds Tryz.pinned (.plain (OpenSpec.upto triggerOfSpec)) triggerOfUptoCard

/-- THE SECOND FORM's CARD OF 'mulliganlaw19.EmitRight'. -/
def emitRightUptoCard : Claim7 := { stood := { row := emitRightUptoRow, standIns := [], harness := (true, "d6cc13d75eb908e5cbaaf83d8e65ea09c50215341d85eac0f7ce983ab2d6a39e"), looks := false }, kinds := [], alts := [], laidByText := true, laidKinds := [.data, .data, .widerDeep, .data], laidTests := true, laidLooks := .later }
def EmitRightUptoCardSaid : Prop := Claim7.holds Tryz.pinned (.plain (OpenSpec.upto emitRightSpec)) emitRightUptoCard

/-- THE SECOND FORM's CARD OF 'mulliganlaw19.EmitRuns'. -/
def emitRunsUptoCard : Claim7 := { stood := { row := emitRunsUptoRow, standIns := [], harness := (true, "d6cc13d75eb908e5cbaaf83d8e65ea09c50215341d85eac0f7ce983ab2d6a39e"), looks := false }, kinds := [], alts := [], laidByText := true, laidKinds := [.data, .data, .widerDeep, .data], laidTests := true, laidLooks := .later }
def EmitRunsUptoCardSaid : Prop := Claim7.holds Tryz.pinned (.plain (OpenSpec.upto emitRunsSpec)) emitRunsUptoCard
end Rows
end Go.Proofs.YtkbghjfagnjpoaaGreatDoor

/-
  DERIVED. GIVEN WITH THE SEED: THE CARDS: each row of YtgobdndjemicjaaGreatDoorRows.lean that lists a variable, with what it lists TIED to the program's text (the seventh form; the later family's looks); each row that meets fmt, with fmt's text TOLD by the authors' own Lean function (tested against real Go, not proved from fmt's source: count such statements apart). THE CARD IS WHAT COUNTS. Prove the row's statement (the work); the ties are given (YtgobdndjemicjaaGreatDoorTie.lean); close each card by the builder's one call (the guide's Derived/Test/ToyasCard.lean, 'card_holds'). Laid BY PROGRAM, IN A SANDBOX (cutbox-door.mjs). By AI agents, Wed Nov 11 2026. No macro, syntax, notation, axiom, sorry.
-/
import Derived.Test.YtgobdndjemicjaaGreatDoorRows
import GoSem.ClaimSeven
namespace Go.Proofs.YtgobdndjemicjaaGreatDoor
namespace Rows

/-- THE TIED CARD OF 'mulliganlaw21.TriggerOf'. -/
def triggerOfCard : Claim7 := { stood := { row := triggerOfRow, standIns := [], harness := (true, "7ee5918bc5168af762b4280bf422be672ee7d56b6d83da876fb0fe5d82d8e72c"), looks := true }, kinds := [], alts := [], laidByText := true, laidKinds := [.data, .data, .widerDeep, .data], laidTests := true, laidLooks := .later }
def TriggerOfCardSaid : Prop := Claim7.holds Tryz.pinned (.plain (OpenSpec.ofChange triggerOfSpec)) triggerOfCard

/-- THE TIED CARD OF 'mulliganlaw25.TurnKeeps'. -/
def turnKeepsCard : Claim7 := { stood := { row := turnKeepsRow, standIns := [], harness := (true, "7ee5918bc5168af762b4280bf422be672ee7d56b6d83da876fb0fe5d82d8e72c"), looks := true }, kinds := [], alts := [], laidByText := true, laidKinds := [.data, .data, .widerDeep, .data, .data], laidTests := true, laidLooks := .later }
def TurnKeepsCardSaid : Prop := Claim7.holds Tryz.pinned (.plain (OpenSpec.ofChange turnKeepsSpec)) turnKeepsCard

/-- THE TIED CARD OF 'mulliganlaw25.TurnGoes'. -/
def turnGoesCard : Claim7 := { stood := { row := turnGoesRow, standIns := [], harness := (true, "7ee5918bc5168af762b4280bf422be672ee7d56b6d83da876fb0fe5d82d8e72c"), looks := true }, kinds := [], alts := [], laidByText := true, laidKinds := [.data, .data, .widerDeep, .data, .data], laidTests := true, laidLooks := .later }
def TurnGoesCardSaid : Prop := Claim7.holds Tryz.pinned (.plain (OpenSpec.ofChange turnGoesSpec)) turnGoesCard

/-- THE TIED CARD OF 'mulliganlaw21.TriggerEmpty'. -/
def triggerEmptyCard : Claim7 := { stood := { row := triggerEmptyRow, standIns := [], harness := (true, "7ee5918bc5168af762b4280bf422be672ee7d56b6d83da876fb0fe5d82d8e72c"), looks := true }, kinds := [], alts := [], laidByText := true, laidKinds := [.data, .data, .widerDeep, .data], laidTests := true, laidLooks := .later }
def TriggerEmptyCardSaid : Prop := Claim7.holds Tryz.pinned (.plain (OpenSpec.ofChange triggerEmptySpec)) triggerEmptyCard

/-- THE TIED CARD OF 'mulliganlaw21.TriggerPuts'. -/
def triggerPutsCard : Claim7 := { stood := { row := triggerPutsRow, standIns := [], harness := (true, "7ee5918bc5168af762b4280bf422be672ee7d56b6d83da876fb0fe5d82d8e72c"), looks := true }, kinds := [], alts := [], laidByText := true, laidKinds := [.data, .data, .widerDeep, .data], laidTests := true, laidLooks := .later }
def TriggerPutsCardSaid : Prop := Claim7.holds Tryz.pinned (.plain (OpenSpec.ofChange triggerPutsSpec)) triggerPutsCard

/-- THE SECOND FORM's CARD OF 'mulliganlaw21.TriggerOf'. -/
def triggerOfUptoCard : Claim7 := { stood := { row := triggerOfUptoRow, standIns := [], harness := (true, "7ee5918bc5168af762b4280bf422be672ee7d56b6d83da876fb0fe5d82d8e72c"), looks := true }, kinds := [], alts := [], laidByText := true, laidKinds := [.data, .data, .widerDeep, .data], laidTests := true, laidLooks := .later }
def TriggerOfUptoCardSaid : Prop := Claim7.holds Tryz.pinned (.plain (OpenSpec.upto triggerOfSpec)) triggerOfUptoCard

/-- THE SECOND FORM's CARD OF 'mulliganlaw25.TurnKeeps'. -/
def turnKeepsUptoCard : Claim7 := { stood := { row := turnKeepsUptoRow, standIns := [], harness := (true, "7ee5918bc5168af762b4280bf422be672ee7d56b6d83da876fb0fe5d82d8e72c"), looks := true }, kinds := [], alts := [], laidByText := true, laidKinds := [.data, .data, .widerDeep, .data, .data], laidTests := true, laidLooks := .later }
def TurnKeepsUptoCardSaid : Prop := Claim7.holds Tryz.pinned (.plain (OpenSpec.upto turnKeepsSpec)) turnKeepsUptoCard

/-- THE SECOND FORM's CARD OF 'mulliganlaw25.TurnGoes'. -/
def turnGoesUptoCard : Claim7 := { stood := { row := turnGoesUptoRow, standIns := [], harness := (true, "7ee5918bc5168af762b4280bf422be672ee7d56b6d83da876fb0fe5d82d8e72c"), looks := true }, kinds := [], alts := [], laidByText := true, laidKinds := [.data, .data, .widerDeep, .data, .data], laidTests := true, laidLooks := .later }
def TurnGoesUptoCardSaid : Prop := Claim7.holds Tryz.pinned (.plain (OpenSpec.upto turnGoesSpec)) turnGoesUptoCard

/-- THE SECOND FORM's CARD OF 'mulliganlaw21.TriggerEmpty'. -/
def triggerEmptyUptoCard : Claim7 := { stood := { row := triggerEmptyUptoRow, standIns := [], harness := (true, "7ee5918bc5168af762b4280bf422be672ee7d56b6d83da876fb0fe5d82d8e72c"), looks := true }, kinds := [], alts := [], laidByText := true, laidKinds := [.data, .data, .widerDeep, .data], laidTests := true, laidLooks := .later }
def TriggerEmptyUptoCardSaid : Prop := Claim7.holds Tryz.pinned (.plain (OpenSpec.upto triggerEmptySpec)) triggerEmptyUptoCard

/-- THE SECOND FORM's CARD OF 'mulliganlaw21.TriggerPuts'. -/
def triggerPutsUptoCard : Claim7 := { stood := { row := triggerPutsUptoRow, standIns := [], harness := (true, "7ee5918bc5168af762b4280bf422be672ee7d56b6d83da876fb0fe5d82d8e72c"), looks := true }, kinds := [], alts := [], laidByText := true, laidKinds := [.data, .data, .widerDeep, .data], laidTests := true, laidLooks := .later }
def TriggerPutsUptoCardSaid : Prop := Claim7.holds Tryz.pinned (.plain (OpenSpec.upto triggerPutsSpec)) triggerPutsUptoCard
end Rows
end Go.Proofs.YtgobdndjemicjaaGreatDoor

/-
  DERIVED. GIVEN WITH THE SEED: THE CARDS: each row of YthfalocligkamaaGreatDoorRows.lean that lists a variable, with what it lists TIED to the program's text (the seventh form; the later family's looks); each row that meets fmt, with fmt's text TOLD by the authors' own Lean function (tested against real Go, not proved from fmt's source: count such statements apart). THE CARD IS WHAT COUNTS. Prove the row's statement (the work); the ties are given (YthfalocligkamaaGreatDoorTie.lean); close each card by the builder's one call (the guide's Derived/Test/ToyasCard.lean, 'card_holds'). Laid BY PROGRAM, IN A SANDBOX (cutbox-door.mjs). By AI agents, Wed Nov 11 2026. No macro, syntax, notation, axiom, sorry.
-/
import Derived.Test.YthfalocligkamaaGreatDoorRows
import GoSem.ClaimSeven
namespace Go.Proofs.YthfalocligkamaaGreatDoor
namespace Rows

/-- THE TIED CARD OF 'mulliganlaw22.ExecAsks'. -/
def execAsksCard : Claim7 := { stood := { row := execAsksRow, standIns := [], harness := (true, "a942ba97d376df00589286b7d4fd8ac35564eab8344dff009d50cba75b3272e4"), looks := true }, kinds := [], alts := [], laidByText := true, laidKinds := [.data, .data, .widerDeep, .data], laidTests := true, laidLooks := .later }
def ExecAsksCardSaid : Prop := Claim7.holds Tryz.pinned (.plain (OpenSpec.ofChange execAsksSpec)) execAsksCard

/-- THE TIED CARD OF 'mulliganlaw22.ExecRight'. -/
def execRightCard : Claim7 := { stood := { row := execRightRow, standIns := [], harness := (true, "a942ba97d376df00589286b7d4fd8ac35564eab8344dff009d50cba75b3272e4"), looks := true }, kinds := [], alts := [], laidByText := true, laidKinds := [.data, .data, .widerDeep, .data], laidTests := true, laidLooks := .later }
def ExecRightCardSaid : Prop := Claim7.holds Tryz.pinned (.plain (OpenSpec.ofChange execRightSpec)) execRightCard

/-- THE TIED CARD OF 'mulliganlaw22.ExecSeq'. -/
def execSeqCard : Claim7 := { stood := { row := execSeqRow, standIns := [], harness := (true, "a942ba97d376df00589286b7d4fd8ac35564eab8344dff009d50cba75b3272e4"), looks := true }, kinds := [], alts := [], laidByText := true, laidKinds := [.data, .data, .widerDeep, .data], laidTests := true, laidLooks := .later }
def ExecSeqCardSaid : Prop := Claim7.holds Tryz.pinned (.plain (OpenSpec.ofChange execSeqSpec)) execSeqCard

/-- THE SECOND FORM's CARD OF 'mulliganlaw22.ExecAsks'. -/
def execAsksUptoCard : Claim7 := { stood := { row := execAsksUptoRow, standIns := [], harness := (true, "a942ba97d376df00589286b7d4fd8ac35564eab8344dff009d50cba75b3272e4"), looks := true }, kinds := [], alts := [], laidByText := true, laidKinds := [.data, .data, .widerDeep, .data], laidTests := true, laidLooks := .later }
def ExecAsksUptoCardSaid : Prop := Claim7.holds Tryz.pinned (.plain (OpenSpec.upto execAsksSpec)) execAsksUptoCard

/-- THE SECOND FORM's CARD OF 'mulliganlaw22.ExecRight'. -/
def execRightUptoCard : Claim7 := { stood := { row := execRightUptoRow, standIns := [], harness := (true, "a942ba97d376df00589286b7d4fd8ac35564eab8344dff009d50cba75b3272e4"), looks := true }, kinds := [], alts := [], laidByText := true, laidKinds := [.data, .data, .widerDeep, .data], laidTests := true, laidLooks := .later }
def ExecRightUptoCardSaid : Prop := Claim7.holds Tryz.pinned (.plain (OpenSpec.upto execRightSpec)) execRightUptoCard

/-- THE SECOND FORM's CARD OF 'mulliganlaw22.ExecSeq'. -/
def execSeqUptoCard : Claim7 := { stood := { row := execSeqUptoRow, standIns := [], harness := (true, "a942ba97d376df00589286b7d4fd8ac35564eab8344dff009d50cba75b3272e4"), looks := true }, kinds := [], alts := [], laidByText := true, laidKinds := [.data, .data, .widerDeep, .data], laidTests := true, laidLooks := .later }
def ExecSeqUptoCardSaid : Prop := Claim7.holds Tryz.pinned (.plain (OpenSpec.upto execSeqSpec)) execSeqUptoCard
end Rows
end Go.Proofs.YthfalocligkamaaGreatDoor

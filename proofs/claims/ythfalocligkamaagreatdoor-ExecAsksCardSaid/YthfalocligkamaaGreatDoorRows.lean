/-
  NARROWER THAN 'FOR EVERY INPUT', by the rows' own cells (each row's printed sentence says how): ExecAsks: loops, laid · ExecRight: loops, laid · ExecSeq: loops, laid.
  DERIVED. THE GIVEN ROWS OF THIS SEAT. 3 by the template 'for every input the law returns true; each argument reads behind the call as it read before'; 0 by the template 'total and deterministic' (their statements: YthfalocligkamaaGreatDoorTotals.lean).
  GIVEN WITH THE SEED: the statements are not yours to turn. If you find one false, say at which input.
  Laid BY PROGRAM, IN A SANDBOX (cutbox-rows.mjs): the forced cells as the released guide's own fill.sh prints them over the translation d56d64a150427c6f… (all of the seat's roots in one cut). By AI agents, Wed Nov 11 2026. No macro, syntax, notation, axiom, sorry.
-/
import Derived.Test.YthfalocligkamaaGreatDoorChecked
import GoSem.Claim
import GoSem.ClaimJoined
import GoSem.ClaimMapViews
import Derived.JoinedTies
import Derived.KernelRfl
namespace Go.Proofs.YthfalocligkamaaGreatDoor
/- THE CELL 'sum', in the pinned program and in every row, IS THE sha256 OF THE DUMP (.gsa) THAT YthfalocligkamaaGreatDoorProg.lean LOADS. Nothing in Lean hashes anything: it is a label: what it is worth is what the hold of that sum in a sandbox is worth. -/
noncomputable def Tryz.pinned : Pinned := { name := "ythfalocligkamaagreatdoor", sum := "d56d64a150427c6f6db1d99d908f75c6b73da26f741ea52a25d214e0d04c78fe", checked := Tryz.checked }
namespace Rows
def none {H : Type} : Left H := { results := [], args := [] }

/- WHAT THE LISTED PACKAGE-LEVEL VARIABLES READ AS WHEN THE CALL BEGINS. Each datum BY PROGRAM (the guide's laid-datum.mjs) off the statement by which the dump's own 'gosem.cut.vars' lays the variable. In a bare row this is a premise. The card (YthfalocligkamaaGreatDoorCards.lean) ties it to the program's text. -/
def laid_mulligan_state_any {H : Type} : DataW H := .agg [.lit (.int .i64 (-1073741824)), .lit (.int .i64 1073741824)]
def laid_mulligan_state_flag {H : Type} : DataW H := .agg [.lit (.int .i64 0), .lit (.int .i64 1)]
def laid_mulligan_state_resting {H : Type} : DataW H := .agg [.lit (.int .i64 4), .lit (.int .i64 5), .lit (.int .i64 6), .lit (.int .i64 7), .lit (.int .i64 8), .lit (.int .i64 9), .lit (.int .i64 10), .lit (.int .i64 11), .lit (.int .i64 12)]
def laid_mulligan_emit_resting {H : Type} : DataW H := .agg [.lit (.int .i64 4), .lit (.int .i64 5), .lit (.int .i64 6), .lit (.int .i64 7), .lit (.int .i64 8), .lit (.int .i64 9), .lit (.int .i64 10), .lit (.int .i64 11), .lit (.int .i64 12)]

/-- 'mulliganlaw22.ExecAsks': WHATEVER THE INPUT: true; the input reads as it did. -/
def execAsksSpec : ChangeSpec := { name := "execAsks", fn := fun _ => fun
  | [d1, d2] => { results := [.lit (.bool true)], args := [d1, d2] }
  | _ => none }
def execAsksRow : OpenClaim := { program := "ythfalocligkamaagreatdoor", sum := "d56d64a150427c6f6db1d99d908f75c6b73da26f741ea52a25d214e0d04c78fe", func := "mulligan/mulliganlaw22.ExecAsks", spec := "execAsks", inPlace := ["slices.overlaps[int]"], unfollowed := true, recurses := true, named := ["mulligan/state.flag", "mulligan/state.any", "mulligan/state.resting", "mulligan/emit.resting"], loops := true, apart := false, laid := [("mulligan/state.any", laid_mulligan_state_any), ("mulligan/state.flag", laid_mulligan_state_flag), ("mulligan/state.resting", laid_mulligan_state_resting), ("mulligan/emit.resting", laid_mulligan_emit_resting)] }
def ExecAsksSaid : Prop := execAsksRow.holds Tryz.pinned (OpenSpec.ofChange execAsksSpec)

/-- ITS FALSE NEIGHBOUR: 'it returns false'. Refute it at one input. -/
def execAsksWrong : ChangeSpec := { name := "execAsks", fn := fun _ => fun
  | [d1, d2] => { results := [.lit (.bool false)], args := [d1, d2] }
  | _ => none }
def ExecAsksWrongFalsely : Prop := execAsksRow.holds Tryz.pinned (OpenSpec.ofChange execAsksWrong)

/-- 'mulliganlaw22.ExecRight': WHATEVER THE INPUT: true; the input reads as it did. -/
def execRightSpec : ChangeSpec := { name := "execRight", fn := fun _ => fun
  | [d1, d2, d3] => { results := [.lit (.bool true)], args := [d1, d2, d3] }
  | _ => none }
def execRightRow : OpenClaim := { program := "ythfalocligkamaagreatdoor", sum := "d56d64a150427c6f6db1d99d908f75c6b73da26f741ea52a25d214e0d04c78fe", func := "mulligan/mulliganlaw22.ExecRight", spec := "execRight", inPlace := ["slices.overlaps[int]"], unfollowed := true, recurses := true, named := ["mulligan/state.flag", "mulligan/state.any", "mulligan/state.resting", "mulligan/emit.resting"], loops := true, apart := false, laid := [("mulligan/state.any", laid_mulligan_state_any), ("mulligan/state.flag", laid_mulligan_state_flag), ("mulligan/state.resting", laid_mulligan_state_resting), ("mulligan/emit.resting", laid_mulligan_emit_resting)] }
def ExecRightSaid : Prop := execRightRow.holds Tryz.pinned (OpenSpec.ofChange execRightSpec)

/-- ITS FALSE NEIGHBOUR: 'it returns false'. Refute it at one input. -/
def execRightWrong : ChangeSpec := { name := "execRight", fn := fun _ => fun
  | [d1, d2, d3] => { results := [.lit (.bool false)], args := [d1, d2, d3] }
  | _ => none }
def ExecRightWrongFalsely : Prop := execRightRow.holds Tryz.pinned (OpenSpec.ofChange execRightWrong)

/-- 'mulliganlaw22.ExecSeq': WHATEVER THE INPUT: true; the input reads as it did. -/
def execSeqSpec : ChangeSpec := { name := "execSeq", fn := fun _ => fun
  | [d1, d2, d3] => { results := [.lit (.bool true)], args := [d1, d2, d3] }
  | _ => none }
def execSeqRow : OpenClaim := { program := "ythfalocligkamaagreatdoor", sum := "d56d64a150427c6f6db1d99d908f75c6b73da26f741ea52a25d214e0d04c78fe", func := "mulligan/mulliganlaw22.ExecSeq", spec := "execSeq", inPlace := ["slices.overlaps[int]"], unfollowed := true, recurses := true, named := ["mulligan/state.flag", "mulligan/state.any", "mulligan/state.resting", "mulligan/emit.resting"], loops := true, apart := false, laid := [("mulligan/state.any", laid_mulligan_state_any), ("mulligan/state.flag", laid_mulligan_state_flag), ("mulligan/state.resting", laid_mulligan_state_resting), ("mulligan/emit.resting", laid_mulligan_emit_resting)] }
def ExecSeqSaid : Prop := execSeqRow.holds Tryz.pinned (OpenSpec.ofChange execSeqSpec)

/-- ITS FALSE NEIGHBOUR: 'it returns false'. Refute it at one input. -/
def execSeqWrong : ChangeSpec := { name := "execSeq", fn := fun _ => fun
  | [d1, d2, d3] => { results := [.lit (.bool false)], args := [d1, d2, d3] }
  | _ => none }
def ExecSeqWrongFalsely : Prop := execSeqRow.holds Tryz.pinned (OpenSpec.ofChange execSeqWrong)

/- THE SECOND FORM. 'bulk': how many values and letters a reading holds, each counted each time it is reached (what is shared counts as often as it is met; a slice's spare places count too). A statement '..UptoSaid' is the law's where the arguments, and the package variables that the reading takes, are together of bulk at most 1048576: NARROWER than '..Said'. Prove '..Said' where nothing that the law and all that it calls make is longer than what came in: it says more and counts as full. Else prove '..UptoSaid'. A law counts once. -/
mutual
def uptoBulk {H : Type} : DataW H → Nat
  | .lit (.string bytes) => bytes.length + 1
  | .lit _ => 1
  | .nil => 1
  | .ptr d => uptoBulk d + 1
  | .slice elems spare => uptoBulkAll elems + uptoBulkAll spare + 1
  | .agg parts => uptoBulkAll parts + 1
  | .iface _ d => uptoBulk d + 1
  | .map entries => uptoBulkEntries entries + 1
  | .held _ => 1
def uptoBulkAll {H : Type} : List (DataW H) → Nat
  | [] => 0
  | d :: r => uptoBulk d + uptoBulkAll r
def uptoBulkEntries {H : Type} : List (Lit × DataW H) → Nat
  | [] => 0
  | x :: r => uptoBulkEntry x + uptoBulkEntries r
def uptoBulkEntry {H : Type} : Lit × DataW H → Nat
  | (.string bytes, d) => bytes.length + uptoBulk d + 1
  | (_, d) => uptoBulk d + 1
 end
def uptoSmall : (H : Type) → List (DataW H) → Bool := fun _ ds => decide (uptoBulkAll ds ≤ 1048576)
def OpenSpec.upto (s : _root_.Go.ChangeSpec) : _root_.Go.OpenSpec := { _root_.Go.OpenSpec.ofChange s with cond := some uptoSmall }

/-- 'mulliganlaw22.ExecAsks', WHERE WHAT IT READS IS OF BULK AT MOST 1048576: true; the input reads as it did. -/
def execAsksUptoRow : OpenClaim := { program := "ythfalocligkamaagreatdoor", sum := "d56d64a150427c6f6db1d99d908f75c6b73da26f741ea52a25d214e0d04c78fe", func := "mulligan/mulliganlaw22.ExecAsks", spec := "execAsks", inPlace := ["slices.overlaps[int]"], unfollowed := true, recurses := true, named := ["mulligan/state.flag", "mulligan/state.any", "mulligan/state.resting", "mulligan/emit.resting"], loops := true, apart := false, laid := [("mulligan/state.any", laid_mulligan_state_any), ("mulligan/state.flag", laid_mulligan_state_flag), ("mulligan/state.resting", laid_mulligan_state_resting), ("mulligan/emit.resting", laid_mulligan_emit_resting)], narrowed := true }
def ExecAsksUptoSaid : Prop := execAsksUptoRow.holds Tryz.pinned (OpenSpec.upto execAsksSpec)

/-- 'mulliganlaw22.ExecRight', WHERE WHAT IT READS IS OF BULK AT MOST 1048576: true; the input reads as it did. -/
def execRightUptoRow : OpenClaim := { program := "ythfalocligkamaagreatdoor", sum := "d56d64a150427c6f6db1d99d908f75c6b73da26f741ea52a25d214e0d04c78fe", func := "mulligan/mulliganlaw22.ExecRight", spec := "execRight", inPlace := ["slices.overlaps[int]"], unfollowed := true, recurses := true, named := ["mulligan/state.flag", "mulligan/state.any", "mulligan/state.resting", "mulligan/emit.resting"], loops := true, apart := false, laid := [("mulligan/state.any", laid_mulligan_state_any), ("mulligan/state.flag", laid_mulligan_state_flag), ("mulligan/state.resting", laid_mulligan_state_resting), ("mulligan/emit.resting", laid_mulligan_emit_resting)], narrowed := true }
def ExecRightUptoSaid : Prop := execRightUptoRow.holds Tryz.pinned (OpenSpec.upto execRightSpec)

/-- 'mulliganlaw22.ExecSeq', WHERE WHAT IT READS IS OF BULK AT MOST 1048576: true; the input reads as it did. -/
def execSeqUptoRow : OpenClaim := { program := "ythfalocligkamaagreatdoor", sum := "d56d64a150427c6f6db1d99d908f75c6b73da26f741ea52a25d214e0d04c78fe", func := "mulligan/mulliganlaw22.ExecSeq", spec := "execSeq", inPlace := ["slices.overlaps[int]"], unfollowed := true, recurses := true, named := ["mulligan/state.flag", "mulligan/state.any", "mulligan/state.resting", "mulligan/emit.resting"], loops := true, apart := false, laid := [("mulligan/state.any", laid_mulligan_state_any), ("mulligan/state.flag", laid_mulligan_state_flag), ("mulligan/state.resting", laid_mulligan_state_resting), ("mulligan/emit.resting", laid_mulligan_emit_resting)], narrowed := true }
def ExecSeqUptoSaid : Prop := execSeqUptoRow.holds Tryz.pinned (OpenSpec.upto execSeqSpec)

end Rows
end Go.Proofs.YthfalocligkamaaGreatDoor

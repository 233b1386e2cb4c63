/-
  NARROWER THAN 'FOR EVERY INPUT', by the rows' own cells (each row's printed sentence says how): TriggerOf: laid · TurnKeeps: laid · TurnGoes: laid · TriggerEmpty: laid · TriggerPuts: laid.
  DERIVED. THE GIVEN ROWS OF THIS SEAT. 5 by the template 'for every input the law returns true; each argument reads behind the call as it read before'; 0 by the template 'total and deterministic' (their statements: YtgobdndjemicjaaGreatDoorTotals.lean).
  GIVEN WITH THE SEED: the statements are not yours to turn. If you find one false, say at which input.
  Laid BY PROGRAM, IN A SANDBOX (cutbox-rows.mjs): the forced cells as the released guide's own fill.sh prints them over the translation 5eabec21d0671041… (all of the seat's roots in one cut). By AI agents, Wed Nov 11 2026. No macro, syntax, notation, axiom, sorry.
-/
import Derived.Test.YtgobdndjemicjaaGreatDoorChecked
import GoSem.Claim
import GoSem.ClaimJoined
import GoSem.ClaimMapViews
import Derived.JoinedTies
import Derived.KernelRfl
namespace Go.Proofs.YtgobdndjemicjaaGreatDoor
/- THE CELL 'sum', in the pinned program and in every row, IS THE sha256 OF THE DUMP (.gsa) THAT YtgobdndjemicjaaGreatDoorProg.lean LOADS. Nothing in Lean hashes anything: it is a label: what it is worth is what the hold of that sum in a sandbox is worth. -/
noncomputable def Tryz.pinned : Pinned := { name := "ytgobdndjemicjaagreatdoor", sum := "5eabec21d0671041e144ee5474f9f9ab2dbbb61554ad36069e0fd3a9869f6ee6", checked := Tryz.checked }
namespace Rows
def none {H : Type} : Left H := { results := [], args := [] }

/- WHAT THE LISTED PACKAGE-LEVEL VARIABLES READ AS WHEN THE CALL BEGINS. Each datum BY PROGRAM (the guide's laid-datum.mjs) off the statement by which the dump's own 'gosem.cut.vars' lays the variable. In a bare row this is a premise. The card (YtgobdndjemicjaaGreatDoorCards.lean) ties it to the program's text. -/
def laid_mulligan_state_any {H : Type} : DataW H := .agg [.lit (.int .i64 (-1073741824)), .lit (.int .i64 1073741824)]
def laid_mulligan_state_flag {H : Type} : DataW H := .agg [.lit (.int .i64 0), .lit (.int .i64 1)]
def laid_mulligan_state_resting {H : Type} : DataW H := .agg [.lit (.int .i64 4), .lit (.int .i64 5), .lit (.int .i64 6), .lit (.int .i64 7), .lit (.int .i64 8), .lit (.int .i64 9), .lit (.int .i64 10), .lit (.int .i64 11), .lit (.int .i64 12)]
def laid_mulligan_emit_resting {H : Type} : DataW H := .agg [.lit (.int .i64 4), .lit (.int .i64 5), .lit (.int .i64 6), .lit (.int .i64 7), .lit (.int .i64 8), .lit (.int .i64 9), .lit (.int .i64 10), .lit (.int .i64 11), .lit (.int .i64 12)]
def laid_mulligan_turn_names {H : Type} : DataW H := .agg [.lit (.string [117, 112, 107, 101, 101, 112]), .lit (.string [102, 105, 114, 115, 116]), .lit (.string [97, 116, 116, 97, 99, 107]), .lit (.string [98, 108, 111, 99, 107]), .lit (.string [99, 108, 97, 115, 104]), .lit (.string [115, 101, 99, 111, 110, 100]), .lit (.string [101, 110, 100, 105, 110, 103]), .lit (.string [99, 108, 101, 97, 110])]

/-- 'mulliganlaw21.TriggerOf': WHATEVER THE INPUT: true; the input reads as it did. -/
def triggerOfSpec : ChangeSpec := { name := "triggerOf", fn := fun _ => fun
  | [d1, d2] => { results := [.lit (.bool true)], args := [d1, d2] }
  | _ => none }
def triggerOfRow : OpenClaim := { program := "ytgobdndjemicjaagreatdoor", sum := "5eabec21d0671041e144ee5474f9f9ab2dbbb61554ad36069e0fd3a9869f6ee6", func := "mulligan/mulliganlaw21.TriggerOf", spec := "triggerOf", inPlace := ["slices.overlaps[int]"], unfollowed := true, recurses := true, named := ["mulligan/state.flag", "mulligan/state.any", "mulligan/state.resting", "mulligan/emit.resting"], apart := false, laid := [("mulligan/state.any", laid_mulligan_state_any), ("mulligan/state.flag", laid_mulligan_state_flag), ("mulligan/state.resting", laid_mulligan_state_resting), ("mulligan/emit.resting", laid_mulligan_emit_resting)] }
def TriggerOfSaid : Prop := triggerOfRow.holds Tryz.pinned (OpenSpec.ofChange triggerOfSpec)

/-- ITS FALSE NEIGHBOUR: 'it returns false'. Refute it at one input. -/
def triggerOfWrong : ChangeSpec := { name := "triggerOf", fn := fun _ => fun
  | [d1, d2] => { results := [.lit (.bool false)], args := [d1, d2] }
  | _ => none }
def TriggerOfWrongFalsely : Prop := triggerOfRow.holds Tryz.pinned (OpenSpec.ofChange triggerOfWrong)

/-- 'mulliganlaw25.TurnKeeps': WHATEVER THE INPUT: true; the input reads as it did. -/
def turnKeepsSpec : ChangeSpec := { name := "turnKeeps", fn := fun _ => fun
  | [d1, d2, d3] => { results := [.lit (.bool true)], args := [d1, d2, d3] }
  | _ => none }
def turnKeepsRow : OpenClaim := { program := "ytgobdndjemicjaagreatdoor", sum := "5eabec21d0671041e144ee5474f9f9ab2dbbb61554ad36069e0fd3a9869f6ee6", func := "mulligan/mulliganlaw25.TurnKeeps", spec := "turnKeeps", inPlace := ["slices.overlaps[int]"], unfollowed := true, recurses := true, named := ["mulligan/state.flag", "mulligan/state.any", "mulligan/state.resting", "mulligan/emit.resting", "mulligan/turn.names"], apart := false, laid := [("mulligan/state.any", laid_mulligan_state_any), ("mulligan/state.flag", laid_mulligan_state_flag), ("mulligan/state.resting", laid_mulligan_state_resting), ("mulligan/emit.resting", laid_mulligan_emit_resting), ("mulligan/turn.names", laid_mulligan_turn_names)] }
def TurnKeepsSaid : Prop := turnKeepsRow.holds Tryz.pinned (OpenSpec.ofChange turnKeepsSpec)

/-- ITS FALSE NEIGHBOUR: 'it returns false'. Refute it at one input. -/
def turnKeepsWrong : ChangeSpec := { name := "turnKeeps", fn := fun _ => fun
  | [d1, d2, d3] => { results := [.lit (.bool false)], args := [d1, d2, d3] }
  | _ => none }
def TurnKeepsWrongFalsely : Prop := turnKeepsRow.holds Tryz.pinned (OpenSpec.ofChange turnKeepsWrong)

/-- 'mulliganlaw25.TurnGoes': WHATEVER THE INPUT: true; the input reads as it did. -/
def turnGoesSpec : ChangeSpec := { name := "turnGoes", fn := fun _ => fun
  | [d1, d2, d3] => { results := [.lit (.bool true)], args := [d1, d2, d3] }
  | _ => none }
def turnGoesRow : OpenClaim := { program := "ytgobdndjemicjaagreatdoor", sum := "5eabec21d0671041e144ee5474f9f9ab2dbbb61554ad36069e0fd3a9869f6ee6", func := "mulligan/mulliganlaw25.TurnGoes", spec := "turnGoes", inPlace := ["slices.overlaps[int]"], unfollowed := true, recurses := true, named := ["mulligan/state.flag", "mulligan/state.any", "mulligan/state.resting", "mulligan/emit.resting", "mulligan/turn.names"], apart := false, laid := [("mulligan/state.any", laid_mulligan_state_any), ("mulligan/state.flag", laid_mulligan_state_flag), ("mulligan/state.resting", laid_mulligan_state_resting), ("mulligan/emit.resting", laid_mulligan_emit_resting), ("mulligan/turn.names", laid_mulligan_turn_names)] }
def TurnGoesSaid : Prop := turnGoesRow.holds Tryz.pinned (OpenSpec.ofChange turnGoesSpec)

/-- ITS FALSE NEIGHBOUR: 'it returns false'. Refute it at one input. -/
def turnGoesWrong : ChangeSpec := { name := "turnGoes", fn := fun _ => fun
  | [d1, d2, d3] => { results := [.lit (.bool false)], args := [d1, d2, d3] }
  | _ => none }
def TurnGoesWrongFalsely : Prop := turnGoesRow.holds Tryz.pinned (OpenSpec.ofChange turnGoesWrong)

/-- 'mulliganlaw21.TriggerEmpty': WHATEVER THE INPUT: true; the input reads as it did. -/
def triggerEmptySpec : ChangeSpec := { name := "triggerEmpty", fn := fun _ => fun
  | [d1, d2] => { results := [.lit (.bool true)], args := [d1, d2] }
  | _ => none }
def triggerEmptyRow : OpenClaim := { program := "ytgobdndjemicjaagreatdoor", sum := "5eabec21d0671041e144ee5474f9f9ab2dbbb61554ad36069e0fd3a9869f6ee6", func := "mulligan/mulliganlaw21.TriggerEmpty", spec := "triggerEmpty", inPlace := ["slices.overlaps[int]"], unfollowed := true, recurses := true, named := ["mulligan/state.flag", "mulligan/state.any", "mulligan/state.resting", "mulligan/emit.resting"], apart := false, laid := [("mulligan/state.any", laid_mulligan_state_any), ("mulligan/state.flag", laid_mulligan_state_flag), ("mulligan/state.resting", laid_mulligan_state_resting), ("mulligan/emit.resting", laid_mulligan_emit_resting)] }
def TriggerEmptySaid : Prop := triggerEmptyRow.holds Tryz.pinned (OpenSpec.ofChange triggerEmptySpec)

/-- ITS FALSE NEIGHBOUR: 'it returns false'. Refute it at one input. -/
def triggerEmptyWrong : ChangeSpec := { name := "triggerEmpty", fn := fun _ => fun
  | [d1, d2] => { results := [.lit (.bool false)], args := [d1, d2] }
  | _ => none }
def TriggerEmptyWrongFalsely : Prop := triggerEmptyRow.holds Tryz.pinned (OpenSpec.ofChange triggerEmptyWrong)

/-- 'mulliganlaw21.TriggerPuts': WHATEVER THE INPUT: true; the input reads as it did. -/
def triggerPutsSpec : ChangeSpec := { name := "triggerPuts", fn := fun _ => fun
  | [d1, d2] => { results := [.lit (.bool true)], args := [d1, d2] }
  | _ => none }
def triggerPutsRow : OpenClaim := { program := "ytgobdndjemicjaagreatdoor", sum := "5eabec21d0671041e144ee5474f9f9ab2dbbb61554ad36069e0fd3a9869f6ee6", func := "mulligan/mulliganlaw21.TriggerPuts", spec := "triggerPuts", inPlace := ["slices.overlaps[int]"], unfollowed := true, recurses := true, named := ["mulligan/state.flag", "mulligan/state.any", "mulligan/state.resting", "mulligan/emit.resting"], apart := false, laid := [("mulligan/state.any", laid_mulligan_state_any), ("mulligan/state.flag", laid_mulligan_state_flag), ("mulligan/state.resting", laid_mulligan_state_resting), ("mulligan/emit.resting", laid_mulligan_emit_resting)] }
def TriggerPutsSaid : Prop := triggerPutsRow.holds Tryz.pinned (OpenSpec.ofChange triggerPutsSpec)

/-- ITS FALSE NEIGHBOUR: 'it returns false'. Refute it at one input. -/
def triggerPutsWrong : ChangeSpec := { name := "triggerPuts", fn := fun _ => fun
  | [d1, d2] => { results := [.lit (.bool false)], args := [d1, d2] }
  | _ => none }
def TriggerPutsWrongFalsely : Prop := triggerPutsRow.holds Tryz.pinned (OpenSpec.ofChange triggerPutsWrong)

/- THE SECOND FORM. 'bulk': how many values and letters a reading holds, each counted each time it is reached (what is shared counts as often as it is met; a slice's spare places count too). A statement '..UptoSaid' is the law's where the arguments, and the package variables that the reading takes, are together of bulk at most 1048576: NARROWER than '..Said'. Prove '..Said' where nothing that the law and all that it calls make is longer than what came in: it says more and counts as full. Else prove '..UptoSaid'. A law counts once. -/
mutual
def uptoBulk {H : Type} : DataW H → Nat
  | .lit (.string bytes) => bytes.length + 1
  | .lit _ => 1
  | .nil => 1
  | .ptr d => uptoBulk d + 1
  | .slice elems spare => uptoBulkAll elems + uptoBulkAll spare + 1
  | .agg parts => uptoBulkAll parts + 1
  | .iface _ d => uptoBulk d + 1
  | .map entries => uptoBulkEntries entries + 1
  | .held _ => 1
def uptoBulkAll {H : Type} : List (DataW H) → Nat
  | [] => 0
  | d :: r => uptoBulk d + uptoBulkAll r
def uptoBulkEntries {H : Type} : List (Lit × DataW H) → Nat
  | [] => 0
  | x :: r => uptoBulkEntry x + uptoBulkEntries r
def uptoBulkEntry {H : Type} : Lit × DataW H → Nat
  | (.string bytes, d) => bytes.length + uptoBulk d + 1
  | (_, d) => uptoBulk d + 1
 end
def uptoSmall : (H : Type) → List (DataW H) → Bool := fun _ ds => decide (uptoBulkAll ds ≤ 1048576)
def OpenSpec.upto (s : _root_.Go.ChangeSpec) : _root_.Go.OpenSpec := { _root_.Go.OpenSpec.ofChange s with cond := some uptoSmall }

/-- 'mulliganlaw21.TriggerOf', WHERE WHAT IT READS IS OF BULK AT MOST 1048576: true; the input reads as it did. -/
def triggerOfUptoRow : OpenClaim := { program := "ytgobdndjemicjaagreatdoor", sum := "5eabec21d0671041e144ee5474f9f9ab2dbbb61554ad36069e0fd3a9869f6ee6", func := "mulligan/mulliganlaw21.TriggerOf", spec := "triggerOf", inPlace := ["slices.overlaps[int]"], unfollowed := true, recurses := true, named := ["mulligan/state.flag", "mulligan/state.any", "mulligan/state.resting", "mulligan/emit.resting"], apart := false, laid := [("mulligan/state.any", laid_mulligan_state_any), ("mulligan/state.flag", laid_mulligan_state_flag), ("mulligan/state.resting", laid_mulligan_state_resting), ("mulligan/emit.resting", laid_mulligan_emit_resting)], narrowed := true }
def TriggerOfUptoSaid : Prop := triggerOfUptoRow.holds Tryz.pinned (OpenSpec.upto triggerOfSpec)

/-- 'mulliganlaw25.TurnKeeps', WHERE WHAT IT READS IS OF BULK AT MOST 1048576: true; the input reads as it did. -/
def turnKeepsUptoRow : OpenClaim := { program := "ytgobdndjemicjaagreatdoor", sum := "5eabec21d0671041e144ee5474f9f9ab2dbbb61554ad36069e0fd3a9869f6ee6", func := "mulligan/mulliganlaw25.TurnKeeps", spec := "turnKeeps", inPlace := ["slices.overlaps[int]"], unfollowed := true, recurses := true, named := ["mulligan/state.flag", "mulligan/state.any", "mulligan/state.resting", "mulligan/emit.resting", "mulligan/turn.names"], apart := false, laid := [("mulligan/state.any", laid_mulligan_state_any), ("mulligan/state.flag", laid_mulligan_state_flag), ("mulligan/state.resting", laid_mulligan_state_resting), ("mulligan/emit.resting", laid_mulligan_emit_resting), ("mulligan/turn.names", laid_mulligan_turn_names)], narrowed := true }
def TurnKeepsUptoSaid : Prop := turnKeepsUptoRow.holds Tryz.pinned (OpenSpec.upto turnKeepsSpec)

/-- 'mulliganlaw25.TurnGoes', WHERE WHAT IT READS IS OF BULK AT MOST 1048576: true; the input reads as it did. -/
def turnGoesUptoRow : OpenClaim := { program := "ytgobdndjemicjaagreatdoor", sum := "5eabec21d0671041e144ee5474f9f9ab2dbbb61554ad36069e0fd3a9869f6ee6", func := "mulligan/mulliganlaw25.TurnGoes", spec := "turnGoes", inPlace := ["slices.overlaps[int]"], unfollowed := true, recurses := true, named := ["mulligan/state.flag", "mulligan/state.any", "mulligan/state.resting", "mulligan/emit.resting", "mulligan/turn.names"], apart := false, laid := [("mulligan/state.any", laid_mulligan_state_any), ("mulligan/state.flag", laid_mulligan_state_flag), ("mulligan/state.resting", laid_mulligan_state_resting), ("mulligan/emit.resting", laid_mulligan_emit_resting), ("mulligan/turn.names", laid_mulligan_turn_names)], narrowed := true }
def TurnGoesUptoSaid : Prop := turnGoesUptoRow.holds Tryz.pinned (OpenSpec.upto turnGoesSpec)

/-- 'mulliganlaw21.TriggerEmpty', WHERE WHAT IT READS IS OF BULK AT MOST 1048576: true; the input reads as it did. -/
def triggerEmptyUptoRow : OpenClaim := { program := "ytgobdndjemicjaagreatdoor", sum := "5eabec21d0671041e144ee5474f9f9ab2dbbb61554ad36069e0fd3a9869f6ee6", func := "mulligan/mulliganlaw21.TriggerEmpty", spec := "triggerEmpty", inPlace := ["slices.overlaps[int]"], unfollowed := true, recurses := true, named := ["mulligan/state.flag", "mulligan/state.any", "mulligan/state.resting", "mulligan/emit.resting"], apart := false, laid := [("mulligan/state.any", laid_mulligan_state_any), ("mulligan/state.flag", laid_mulligan_state_flag), ("mulligan/state.resting", laid_mulligan_state_resting), ("mulligan/emit.resting", laid_mulligan_emit_resting)], narrowed := true }
def TriggerEmptyUptoSaid : Prop := triggerEmptyUptoRow.holds Tryz.pinned (OpenSpec.upto triggerEmptySpec)

/-- 'mulliganlaw21.TriggerPuts', WHERE WHAT IT READS IS OF BULK AT MOST 1048576: true; the input reads as it did. -/
def triggerPutsUptoRow : OpenClaim := { program := "ytgobdndjemicjaagreatdoor", sum := "5eabec21d0671041e144ee5474f9f9ab2dbbb61554ad36069e0fd3a9869f6ee6", func := "mulligan/mulliganlaw21.TriggerPuts", spec := "triggerPuts", inPlace := ["slices.overlaps[int]"], unfollowed := true, recurses := true, named := ["mulligan/state.flag", "mulligan/state.any", "mulligan/state.resting", "mulligan/emit.resting"], apart := false, laid := [("mulligan/state.any", laid_mulligan_state_any), ("mulligan/state.flag", laid_mulligan_state_flag), ("mulligan/state.resting", laid_mulligan_state_resting), ("mulligan/emit.resting", laid_mulligan_emit_resting)], narrowed := true }
def TriggerPutsUptoSaid : Prop := triggerPutsUptoRow.holds Tryz.pinned (OpenSpec.upto triggerPutsSpec)

end Rows
end Go.Proofs.YtgobdndjemicjaaGreatDoor

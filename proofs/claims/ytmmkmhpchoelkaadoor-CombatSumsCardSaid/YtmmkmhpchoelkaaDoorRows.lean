/-
  NARROWER THAN 'FOR EVERY INPUT', by the rows' own cells (each row's printed sentence says how): JudgeKeeps: laid · CombatSums: laid.
  DERIVED. THE GIVEN ROWS OF THIS SEAT. 2 by the template 'for every input the law returns true; each argument reads behind the call as it read before'; 0 by the template 'total and deterministic' (their statements: YtmmkmhpchoelkaaDoorTotals.lean).
  GIVEN WITH THE SEED: the statements are not yours to turn. If you find one false, say at which input.
  Laid BY PROGRAM, IN A SANDBOX (cutbox-rows.mjs): the forced cells as the released guide's own fill.sh prints them over the translation 37968ff46ff101a2… (all of the seat's roots in one cut). By AI agents, Wed Nov 11 2026. No macro, syntax, notation, axiom, sorry.
-/
import Derived.Test.YtmmkmhpchoelkaaDoorChecked
import GoSem.Claim
import GoSem.ClaimJoined
import GoSem.ClaimMapViews
import Derived.JoinedTies
import Derived.KernelRfl
namespace Go.Proofs.YtmmkmhpchoelkaaDoor
/- THE CELL 'sum', in the pinned program and in every row, IS THE sha256 OF THE DUMP (.gsa) THAT YtmmkmhpchoelkaaDoorProg.lean LOADS. Nothing in Lean hashes anything: it is a label: what it is worth is what the hold of that sum in a sandbox is worth. -/
noncomputable def Tryd.pinned : Pinned := { name := "ytmmkmhpchoelkaadoor", sum := "37968ff46ff101a22b48a54f10e42734eb2d0cc600d01d6e23f1adf1b434614a", checked := Tryd.checked }
namespace Rows
def none {H : Type} : Left H := { results := [], args := [] }

/- WHAT THE LISTED PACKAGE-LEVEL VARIABLES READ AS WHEN THE CALL BEGINS. Each datum BY PROGRAM (the guide's laid-datum.mjs) off the statement by which the dump's own 'gosem.cut.vars' lays the variable. In a bare row this is a premise. The card (YtmmkmhpchoelkaaDoorCards.lean) ties it to the program's text. -/
def laid_mulligan_state_any {H : Type} : DataW H := .agg [.lit (.int .i64 (-1073741824)), .lit (.int .i64 1073741824)]
def laid_mulligan_state_flag {H : Type} : DataW H := .agg [.lit (.int .i64 0), .lit (.int .i64 1)]
def laid_mulligan_state_resting {H : Type} : DataW H := .agg [.lit (.int .i64 4), .lit (.int .i64 5), .lit (.int .i64 6), .lit (.int .i64 7), .lit (.int .i64 8), .lit (.int .i64 9), .lit (.int .i64 10), .lit (.int .i64 11), .lit (.int .i64 12)]

/-- 'mulliganlaw32.JudgeKeeps': WHATEVER THE INPUT: true; the input reads as it did. -/
def judgeKeepsSpec : ChangeSpec := { name := "judgeKeeps", fn := fun _ => fun
  | [d1, d2, d3] => { results := [.lit (.bool true)], args := [d1, d2, d3] }
  | _ => none }
def judgeKeepsRow : OpenClaim := { program := "ytmmkmhpchoelkaadoor", sum := "37968ff46ff101a22b48a54f10e42734eb2d0cc600d01d6e23f1adf1b434614a", func := "mulligan/mulliganlaw32.JudgeKeeps", spec := "judgeKeeps", inPlace := ["slices.overlaps[int]"], unfollowed := true, recurses := true, named := ["mulligan/state.flag", "mulligan/state.any", "mulligan/state.resting"], apart := false, laid := [("mulligan/state.any", laid_mulligan_state_any), ("mulligan/state.flag", laid_mulligan_state_flag), ("mulligan/state.resting", laid_mulligan_state_resting)] }
def JudgeKeepsSaid : Prop := judgeKeepsRow.holds Tryd.pinned (OpenSpec.ofChange judgeKeepsSpec)

/-- ITS FALSE NEIGHBOUR: 'it returns false'. Refute it at one input. -/
def judgeKeepsWrong : ChangeSpec := { name := "judgeKeeps", fn := fun _ => fun
  | [d1, d2, d3] => { results := [.lit (.bool false)], args := [d1, d2, d3] }
  | _ => none }
def JudgeKeepsWrongFalsely : Prop := judgeKeepsRow.holds Tryd.pinned (OpenSpec.ofChange judgeKeepsWrong)

/-- 'mulliganlaw24.CombatSums': WHATEVER THE INPUT: true; the input reads as it did. -/
def combatSumsSpec : ChangeSpec := { name := "combatSums", fn := fun _ => fun
  | [d] => { results := [.lit (.bool true)], args := [d] }
  | _ => none }
def combatSumsRow : OpenClaim := { program := "ytmmkmhpchoelkaadoor", sum := "37968ff46ff101a22b48a54f10e42734eb2d0cc600d01d6e23f1adf1b434614a", func := "mulligan/mulliganlaw24.CombatSums", spec := "combatSums", unfollowed := true, recurses := true, named := ["mulligan/state.flag", "mulligan/state.any", "mulligan/state.resting"], apart := false, laid := [("mulligan/state.any", laid_mulligan_state_any), ("mulligan/state.flag", laid_mulligan_state_flag), ("mulligan/state.resting", laid_mulligan_state_resting)] }
def CombatSumsSaid : Prop := combatSumsRow.holds Tryd.pinned (OpenSpec.ofChange combatSumsSpec)

/-- ITS FALSE NEIGHBOUR: 'it returns false'. Refute it at one input. -/
def combatSumsWrong : ChangeSpec := { name := "combatSums", fn := fun _ => fun
  | [d] => { results := [.lit (.bool false)], args := [d] }
  | _ => none }
def CombatSumsWrongFalsely : Prop := combatSumsRow.holds Tryd.pinned (OpenSpec.ofChange combatSumsWrong)

/- THE SECOND FORM. 'bulk': how many values and letters a reading holds, each counted each time it is reached (what is shared counts as often as it is met; a slice's spare places count too). A statement '..UptoSaid' is the law's where the arguments, and the package variables that the reading takes, are together of bulk at most 1048576: NARROWER than '..Said'. Prove '..Said' where nothing that the law and all that it calls make is longer than what came in: it says more and counts as full. Else prove '..UptoSaid'. A law counts once. -/
mutual
def uptoBulk {H : Type} : DataW H → Nat
  | .lit (.string bytes) => bytes.length + 1
  | .lit _ => 1
  | .nil => 1
  | .ptr d => uptoBulk d + 1
  | .slice elems spare => uptoBulkAll elems + uptoBulkAll spare + 1
  | .agg parts => uptoBulkAll parts + 1
  | .iface _ d => uptoBulk d + 1
  | .map entries => uptoBulkEntries entries + 1
  | .held _ => 1
def uptoBulkAll {H : Type} : List (DataW H) → Nat
  | [] => 0
  | d :: r => uptoBulk d + uptoBulkAll r
def uptoBulkEntries {H : Type} : List (Lit × DataW H) → Nat
  | [] => 0
  | x :: r => uptoBulkEntry x + uptoBulkEntries r
def uptoBulkEntry {H : Type} : Lit × DataW H → Nat
  | (.string bytes, d) => bytes.length + uptoBulk d + 1
  | (_, d) => uptoBulk d + 1
 end
def uptoSmall : (H : Type) → List (DataW H) → Bool := fun _ ds => decide (uptoBulkAll ds ≤ 1048576)
def OpenSpec.upto (s : _root_.Go.ChangeSpec) : _root_.Go.OpenSpec := { _root_.Go.OpenSpec.ofChange s with cond := some uptoSmall }

/-- 'mulliganlaw32.JudgeKeeps', WHERE WHAT IT READS IS OF BULK AT MOST 1048576: true; the input reads as it did. -/
def judgeKeepsUptoRow : OpenClaim := { program := "ytmmkmhpchoelkaadoor", sum := "37968ff46ff101a22b48a54f10e42734eb2d0cc600d01d6e23f1adf1b434614a", func := "mulligan/mulliganlaw32.JudgeKeeps", spec := "judgeKeeps", inPlace := ["slices.overlaps[int]"], unfollowed := true, recurses := true, named := ["mulligan/state.flag", "mulligan/state.any", "mulligan/state.resting"], apart := false, laid := [("mulligan/state.any", laid_mulligan_state_any), ("mulligan/state.flag", laid_mulligan_state_flag), ("mulligan/state.resting", laid_mulligan_state_resting)], narrowed := true }
def JudgeKeepsUptoSaid : Prop := judgeKeepsUptoRow.holds Tryd.pinned (OpenSpec.upto judgeKeepsSpec)

/-- 'mulliganlaw24.CombatSums', WHERE WHAT IT READS IS OF BULK AT MOST 1048576: true; the input reads as it did. -/
def combatSumsUptoRow : OpenClaim := { program := "ytmmkmhpchoelkaadoor", sum := "37968ff46ff101a22b48a54f10e42734eb2d0cc600d01d6e23f1adf1b434614a", func := "mulligan/mulliganlaw24.CombatSums", spec := "combatSums", unfollowed := true, recurses := true, named := ["mulligan/state.flag", "mulligan/state.any", "mulligan/state.resting"], apart := false, laid := [("mulligan/state.any", laid_mulligan_state_any), ("mulligan/state.flag", laid_mulligan_state_flag), ("mulligan/state.resting", laid_mulligan_state_resting)], narrowed := true }
def CombatSumsUptoSaid : Prop := combatSumsUptoRow.holds Tryd.pinned (OpenSpec.upto combatSumsSpec)

end Rows
end Go.Proofs.YtmmkmhpchoelkaaDoor

/-
  NARROWER THAN 'FOR EVERY INPUT', by the rows' own cells (each row's printed sentence says how): CombatStrikes: laid · CombatDeclares: laid · CombatKeeps: laid.
  DERIVED. THE GIVEN ROWS OF THIS SEAT. 3 by the template 'for every input the law returns true; each argument reads behind the call as it read before'; 0 by the template 'total and deterministic' (their statements: YtnjdkkgkaafdbaaGreatDoorTotals.lean).
  GIVEN WITH THE SEED: the statements are not yours to turn. If you find one false, say at which input.
  Laid BY PROGRAM, IN A SANDBOX (cutbox-rows.mjs): the forced cells as the released guide's own fill.sh prints them over the translation 8196d086aa794b9a… (all of the seat's roots in one cut). By AI agents, Wed Nov 11 2026. No macro, syntax, notation, axiom, sorry.
-/
import Derived.Test.YtnjdkkgkaafdbaaGreatDoorChecked
import GoSem.Claim
import GoSem.ClaimJoined
import GoSem.ClaimMapViews
import Derived.JoinedTies
import Derived.KernelRfl
namespace Go.Proofs.YtnjdkkgkaafdbaaGreatDoor
/- THE CELL 'sum', in the pinned program and in every row, IS THE sha256 OF THE DUMP (.gsa) THAT YtnjdkkgkaafdbaaGreatDoorProg.lean LOADS. Nothing in Lean hashes anything: it is a label: what it is worth is what the hold of that sum in a sandbox is worth. -/
noncomputable def Tryz.pinned : Pinned := { name := "ytnjdkkgkaafdbaagreatdoor", sum := "8196d086aa794b9a9f931150bc706c460443b28bbc17ba5f4ca853af7ac69786", checked := Tryz.checked }
namespace Rows
def none {H : Type} : Left H := { results := [], args := [] }

/- WHAT THE LISTED PACKAGE-LEVEL VARIABLES READ AS WHEN THE CALL BEGINS. Each datum BY PROGRAM (the guide's laid-datum.mjs) off the statement by which the dump's own 'gosem.cut.vars' lays the variable. In a bare row this is a premise. The card (YtnjdkkgkaafdbaaGreatDoorCards.lean) ties it to the program's text. -/
def laid_mulligan_state_any {H : Type} : DataW H := .agg [.lit (.int .i64 (-1073741824)), .lit (.int .i64 1073741824)]
def laid_mulligan_state_flag {H : Type} : DataW H := .agg [.lit (.int .i64 0), .lit (.int .i64 1)]
def laid_mulligan_state_resting {H : Type} : DataW H := .agg [.lit (.int .i64 4), .lit (.int .i64 5), .lit (.int .i64 6), .lit (.int .i64 7), .lit (.int .i64 8), .lit (.int .i64 9), .lit (.int .i64 10), .lit (.int .i64 11), .lit (.int .i64 12)]

/-- 'mulliganlaw24.CombatStrikes': WHATEVER THE INPUT: true; the input reads as it did. -/
def combatStrikesSpec : ChangeSpec := { name := "combatStrikes", fn := fun _ => fun
  | [d1, d2, d3] => { results := [.lit (.bool true)], args := [d1, d2, d3] }
  | _ => none }
def combatStrikesRow : OpenClaim := { program := "ytnjdkkgkaafdbaagreatdoor", sum := "8196d086aa794b9a9f931150bc706c460443b28bbc17ba5f4ca853af7ac69786", func := "mulligan/mulliganlaw24.CombatStrikes", spec := "combatStrikes", inPlace := ["slices.overlaps[int]"], unfollowed := true, recurses := true, named := ["mulligan/state.flag", "mulligan/state.any", "mulligan/state.resting"], apart := false, laid := [("mulligan/state.any", laid_mulligan_state_any), ("mulligan/state.flag", laid_mulligan_state_flag), ("mulligan/state.resting", laid_mulligan_state_resting)] }
def CombatStrikesSaid : Prop := combatStrikesRow.holds Tryz.pinned (OpenSpec.ofChange combatStrikesSpec)

/-- ITS FALSE NEIGHBOUR: 'it returns false'. Refute it at one input. -/
def combatStrikesWrong : ChangeSpec := { name := "combatStrikes", fn := fun _ => fun
  | [d1, d2, d3] => { results := [.lit (.bool false)], args := [d1, d2, d3] }
  | _ => none }
def CombatStrikesWrongFalsely : Prop := combatStrikesRow.holds Tryz.pinned (OpenSpec.ofChange combatStrikesWrong)

/-- 'mulliganlaw24.CombatDeclares': WHATEVER THE INPUT: true; the input reads as it did. -/
def combatDeclaresSpec : ChangeSpec := { name := "combatDeclares", fn := fun _ => fun
  | [d1, d2, d3] => { results := [.lit (.bool true)], args := [d1, d2, d3] }
  | _ => none }
def combatDeclaresRow : OpenClaim := { program := "ytnjdkkgkaafdbaagreatdoor", sum := "8196d086aa794b9a9f931150bc706c460443b28bbc17ba5f4ca853af7ac69786", func := "mulligan/mulliganlaw24.CombatDeclares", spec := "combatDeclares", inPlace := ["slices.overlaps[int]"], unfollowed := true, recurses := true, named := ["mulligan/state.flag", "mulligan/state.any", "mulligan/state.resting"], apart := false, laid := [("mulligan/state.any", laid_mulligan_state_any), ("mulligan/state.flag", laid_mulligan_state_flag), ("mulligan/state.resting", laid_mulligan_state_resting)] }
def CombatDeclaresSaid : Prop := combatDeclaresRow.holds Tryz.pinned (OpenSpec.ofChange combatDeclaresSpec)

/-- ITS FALSE NEIGHBOUR: 'it returns false'. Refute it at one input. -/
def combatDeclaresWrong : ChangeSpec := { name := "combatDeclares", fn := fun _ => fun
  | [d1, d2, d3] => { results := [.lit (.bool false)], args := [d1, d2, d3] }
  | _ => none }
def CombatDeclaresWrongFalsely : Prop := combatDeclaresRow.holds Tryz.pinned (OpenSpec.ofChange combatDeclaresWrong)

/-- 'mulliganlaw24.CombatKeeps': WHATEVER THE INPUT: true; the input reads as it did. -/
def combatKeepsSpec : ChangeSpec := { name := "combatKeeps", fn := fun _ => fun
  | [d1, d2, d3] => { results := [.lit (.bool true)], args := [d1, d2, d3] }
  | _ => none }
def combatKeepsRow : OpenClaim := { program := "ytnjdkkgkaafdbaagreatdoor", sum := "8196d086aa794b9a9f931150bc706c460443b28bbc17ba5f4ca853af7ac69786", func := "mulligan/mulliganlaw24.CombatKeeps", spec := "combatKeeps", inPlace := ["slices.overlaps[int]"], unfollowed := true, recurses := true, named := ["mulligan/state.flag", "mulligan/state.any", "mulligan/state.resting"], apart := false, laid := [("mulligan/state.any", laid_mulligan_state_any), ("mulligan/state.flag", laid_mulligan_state_flag), ("mulligan/state.resting", laid_mulligan_state_resting)] }
def CombatKeepsSaid : Prop := combatKeepsRow.holds Tryz.pinned (OpenSpec.ofChange combatKeepsSpec)

/-- ITS FALSE NEIGHBOUR: 'it returns false'. Refute it at one input. -/
def combatKeepsWrong : ChangeSpec := { name := "combatKeeps", fn := fun _ => fun
  | [d1, d2, d3] => { results := [.lit (.bool false)], args := [d1, d2, d3] }
  | _ => none }
def CombatKeepsWrongFalsely : Prop := combatKeepsRow.holds Tryz.pinned (OpenSpec.ofChange combatKeepsWrong)

/- THE SECOND FORM. 'bulk': how many values and letters a reading holds, each counted each time it is reached (what is shared counts as often as it is met; a slice's spare places count too). A statement '..UptoSaid' is the law's where the arguments, and the package variables that the reading takes, are together of bulk at most 1048576: NARROWER than '..Said'. Prove '..Said' where nothing that the law and all that it calls make is longer than what came in: it says more and counts as full. Else prove '..UptoSaid'. A law counts once. -/
mutual
def uptoBulk {H : Type} : DataW H → Nat
  | .lit (.string bytes) => bytes.length + 1
  | .lit _ => 1
  | .nil => 1
  | .ptr d => uptoBulk d + 1
  | .slice elems spare => uptoBulkAll elems + uptoBulkAll spare + 1
  | .agg parts => uptoBulkAll parts + 1
  | .iface _ d => uptoBulk d + 1
  | .map entries => uptoBulkEntries entries + 1
  | .held _ => 1
def uptoBulkAll {H : Type} : List (DataW H) → Nat
  | [] => 0
  | d :: r => uptoBulk d + uptoBulkAll r
def uptoBulkEntries {H : Type} : List (Lit × DataW H) → Nat
  | [] => 0
  | x :: r => uptoBulkEntry x + uptoBulkEntries r
def uptoBulkEntry {H : Type} : Lit × DataW H → Nat
  | (.string bytes, d) => bytes.length + uptoBulk d + 1
  | (_, d) => uptoBulk d + 1
 end
def uptoSmall : (H : Type) → List (DataW H) → Bool := fun _ ds => decide (uptoBulkAll ds ≤ 1048576)
def OpenSpec.upto (s : _root_.Go.ChangeSpec) : _root_.Go.OpenSpec := { _root_.Go.OpenSpec.ofChange s with cond := some uptoSmall }

/-- 'mulliganlaw24.CombatStrikes', WHERE WHAT IT READS IS OF BULK AT MOST 1048576: true; the input reads as it did. -/
def combatStrikesUptoRow : OpenClaim := { program := "ytnjdkkgkaafdbaagreatdoor", sum := "8196d086aa794b9a9f931150bc706c460443b28bbc17ba5f4ca853af7ac69786", func := "mulligan/mulliganlaw24.CombatStrikes", spec := "combatStrikes", inPlace := ["slices.overlaps[int]"], unfollowed := true, recurses := true, named := ["mulligan/state.flag", "mulligan/state.any", "mulligan/state.resting"], apart := false, laid := [("mulligan/state.any", laid_mulligan_state_any), ("mulligan/state.flag", laid_mulligan_state_flag), ("mulligan/state.resting", laid_mulligan_state_resting)], narrowed := true }
def CombatStrikesUptoSaid : Prop := combatStrikesUptoRow.holds Tryz.pinned (OpenSpec.upto combatStrikesSpec)

/-- 'mulliganlaw24.CombatDeclares', WHERE WHAT IT READS IS OF BULK AT MOST 1048576: true; the input reads as it did. -/
def combatDeclaresUptoRow : OpenClaim := { program := "ytnjdkkgkaafdbaagreatdoor", sum := "8196d086aa794b9a9f931150bc706c460443b28bbc17ba5f4ca853af7ac69786", func := "mulligan/mulliganlaw24.CombatDeclares", spec := "combatDeclares", inPlace := ["slices.overlaps[int]"], unfollowed := true, recurses := true, named := ["mulligan/state.flag", "mulligan/state.any", "mulligan/state.resting"], apart := false, laid := [("mulligan/state.any", laid_mulligan_state_any), ("mulligan/state.flag", laid_mulligan_state_flag), ("mulligan/state.resting", laid_mulligan_state_resting)], narrowed := true }
def CombatDeclaresUptoSaid : Prop := combatDeclaresUptoRow.holds Tryz.pinned (OpenSpec.upto combatDeclaresSpec)

/-- 'mulliganlaw24.CombatKeeps', WHERE WHAT IT READS IS OF BULK AT MOST 1048576: true; the input reads as it did. -/
def combatKeepsUptoRow : OpenClaim := { program := "ytnjdkkgkaafdbaagreatdoor", sum := "8196d086aa794b9a9f931150bc706c460443b28bbc17ba5f4ca853af7ac69786", func := "mulligan/mulliganlaw24.CombatKeeps", spec := "combatKeeps", inPlace := ["slices.overlaps[int]"], unfollowed := true, recurses := true, named := ["mulligan/state.flag", "mulligan/state.any", "mulligan/state.resting"], apart := false, laid := [("mulligan/state.any", laid_mulligan_state_any), ("mulligan/state.flag", laid_mulligan_state_flag), ("mulligan/state.resting", laid_mulligan_state_resting)], narrowed := true }
def CombatKeepsUptoSaid : Prop := combatKeepsUptoRow.holds Tryz.pinned (OpenSpec.upto combatKeepsSpec)

end Rows
end Go.Proofs.YtnjdkkgkaafdbaaGreatDoor

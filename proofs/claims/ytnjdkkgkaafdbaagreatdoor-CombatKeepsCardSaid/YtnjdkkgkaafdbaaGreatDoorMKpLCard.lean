/-
  The law CombatKeeps holds for any input: the tied card.
-/
import Derived.Test.YtnjdkkgkaafdbaaGreatDoorMKpL
import Derived.Test.YtnjdkkgkaafdbaaGreatDoorCards
import Derived.Test.YtnjdkkgkaafdbaaGreatDoorTie
namespace Go.Proofs.YtnjdkkgkaafdbaaGreatDoor
open Go

theorem combatKeeps_holds : Rows.CombatKeepsCardSaid :=
  Claim7.holds_tied_plain_at .later [] [.data, .data, .widerDeep] true (true, "fd4cc76208490ec8c2ca15f5601e2391e8857f2a5ad2894c7360e330ab437a89") true
    combatKeeps_plain (fun _ h => by cases h) (by kernel_rfl) (fun _ h => by cases h) combatKeeps_row_tie rfl ⟨rfl, rfl⟩ (by kernel_rfl) rfl
    (fun f fn hf hfn => by
      obtain rfl : f = 5 := Option.some.inj (hf.symm.trans (by kernel_rfl))
      obtain rfl : fn = Tryz.f5 := (Option.some.inj (Tryz.func5.symm.trans hfn)).symm
      exact ⟨by kernel_rfl, fun j t ht => by
        rw [Tryz.params5] at ht
        have hm : t ∈ [29, 23, 23] := by simpa using Array.mem_of_getElem? ht
        have hall : ([29, 23, 23].all fun u => !Tryz.prog.wantsStandIn u) = true := by kernel_rfl
        exact (show Tryz.prog.wantsStandIn t = false by simpa using List.all_eq_true.1 hall t hm)⟩)
    (by kernel_rfl)
#print axioms combatKeeps_holds
end Go.Proofs.YtnjdkkgkaafdbaaGreatDoor
